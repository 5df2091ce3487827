/-
  THE CONTRACT of slices.Repeat, no time.
-/
import Derived.Test.YtklofgfkaaoipaaGreatDoorMMem
import Derived.Deep.LoopGhost
import Derived.WalkLawsBesides
import Derived.Deep.QuietTactic
import Derived.Deep.DeepCutAuto
import Derived.Laws.IdiomCopy
import Derived.Test.YtklofgfkaaoipaaGreatDoorMOps
import Derived.BigQuiet
import Derived.Test.YtklofgfkaaoipaaGreatDoorMMCheck
import Derived.Test.YtklofgfkaaoipaaGreatDoorMHd
set_option maxHeartbeats 16000000
set_option maxRecDepth 100000
set_option linter.unusedSimpArgs false
set_option linter.unusedVariables false
namespace Go.Proofs.YtklofgfkaaoipaaGreatDoor
open Go.RowKit Go.Proofs.Tryz
variable {f:FuncId}{b:Bool}{w A:World}{e:TypeId}{g n E h:Nat}{D:List Value}{v v':Value}{l:List Int}
theorem zm7 (w:World):Calls prog 172 #[.int .u64 1,.int .u64 0] w fun a b=>a= .returned (.tuple #[.int .u64 0,.int .u64 0])∧w=b:=by
 go_enter func172,ntmps172;go_wp2_with fail;go_ret2;exact ⟨rfl,rfl⟩
theorem zpA (w:World):Calls prog 117 #[.int .u64 1,.int .u64 0] w fun a b=>a= .returned (.tuple #[.int .u64 0,.int .u64 0])∧w=b:=by
 go_enter func117,ntmps117;go_wp2_with (go_at_call 172;refine (zm7 _).mono ?_;rintro a b ⟨rfl,rfl⟩);go_ret2;exact ⟨rfl,rfl⟩
theorem zjc:(prog.info? 161).map (fun a=>(a.zero,a.size,a.bytes))=some (some (.int .i64 0),1,8):=by kernel_rfl
theorem zh3 (w:World):(Instr.makeSlice 159 (.int .i64 0) (.int .i64 0)).run prog w= .ok (.slice (some ⟨w.heap.size,0,none⟩) 0 0) (w.alloc (.cells #[] 161)):=by
 obtain ⟨a,b,c,d,e⟩:=info_parts zjc;have:=run_make (P:=prog) w 159 161 a (.int .i64 0) underlying159 b c .i64 .i64 0 0 (by omega) (by omega) (by rw [e];omega) (by omega);rw [d,show Int.toNat 0 * 1=0 from rfl,YS] at this;exact this
theorem zin (b c:Nat)(h:1≤c)(w:World)(i:b<w.heap.size)(x:Value)(j:w.cell? ⟨b,0,none⟩=some x):Calls prog 73 #[.slice (some ⟨b,0,none⟩) 1 c,.int .i64 0] w fun d e=>∃f a,d= .returned (.slice f 0 a)∧Below w.heap.size w e:=by
 have:=zh3 w;have:=run_copy_none (P:=prog) (w.alloc (.cells #[] 161)) 159 159 3 161 (some ⟨w.heap.size,0,none⟩) (some ⟨b,0,none⟩) 0 0 1 c underlying159 (by kernel_rfl) rfl;go_enter func73,ntmps73;go_wp2_with (go_at_call 117;refine (zpA _).mono ?_;rintro d e ⟨rfl,rfl⟩);go_loopg [8] 0 (fun a g wr=>a=0∧g= .int .i64 0∧wr=w.alloc (.cells #[] 161))
 case atStart=>exact ⟨rfl,rfl,rfl⟩
 case round=>
  obtain ⟨rfl,rfl,rfl⟩:=hrel;go_wp2_with fail;go_ret;exact ⟨_,_,rfl,(Below.refl _ _).alloc (Nat.le_refl _) _⟩
def yt (o:MOp):List Int:=
 if o.kind=1∨o.kind=2 then [] else if o.kind=3∨o.kind=4∨o.kind=6∨o.kind=7∨o.kind=9 then [o.a,o.b] else if o.kind=17∧o.k≠1 then [o.a,o.b] else [o.a]
def yP (o:MOp):Bool:=o.kind==1||o.kind==6||o.kind==9||o.kind==17||o.kind==18||o.kind==19
def qY (l:List Int)(w:World)(e:Ending)(a:World):Prop:=∃b,e= .returned b∧a.ownsRow w.heap.size 3 1 b l.length (ints l)∧Below w.heap.size w a
theorem zdM (w:World)(a:Obj):qY [] w (.returned (.slice none 0 0)) (w.alloc a):=⟨_,rfl,World.ownsRow_nil _ _ _ _,(Below.refl _ _).alloc (Nat.le_refl _) _⟩
theorem zdg (w:World)(a:Obj)(x:Int):qY [x] w (.returned (.slice (some ⟨w.heap.size+1,0,none⟩) 1 1)) ((w.alloc a).alloc (.cells #[.int .i64 x] 3)):=by
 have b:=World.ownsRow_lit (w.alloc a) #[.int .i64 x] (e:=3) (size:=1) 1 (Nat.le_refl _) (by unfold maxLen;omega) rfl;rw [World.size_alloc] at b;exact ⟨_,rfl,qk b (by omega),qm _ _ _⟩
theorem YY (w:World)(a:Obj)(x y:Int):qY [x,y] w (.returned (.slice (some ⟨w.heap.size+1,0,none⟩) 2 2)) ((w.alloc a).alloc (.cells #[.int .i64 x,.int .i64 y] 3)):=by
 have b:=World.ownsRow_lit (w.alloc a) #[.int .i64 x,.int .i64 y] (e:=3) (size:=1) 2 (Nat.le_refl _) (by unfold maxLen;omega) rfl;rw [World.size_alloc] at b;exact ⟨_,rfl,qk b (by omega),qm _ _ _⟩
theorem ziG (a b k d:Int)(c:Nat)(w:World):Calls prog 41 #[.agg #[.int .i64 1,.int .i64 a,.int .i64 b,.int .i64 k,.int .u64 c,.int .i64 d]] w (qY [] w):=by
 go_enter func41,ntmps41;go_wp2_with fail;go_ret;exact zdM _ _
theorem znP (a b k d:Int)(c:Nat)(w:World):Calls prog 41 #[.agg #[.int .i64 2,.int .i64 a,.int .i64 b,.int .i64 k,.int .u64 c,.int .i64 d]] w (qY [] w):=by
 go_enter func41,ntmps41;go_wp2_with fail;go_ret;exact zdM _ _
theorem znQ (a b k d:Int)(c:Nat)(w:World):Calls prog 41 #[.agg #[.int .i64 3,.int .i64 a,.int .i64 b,.int .i64 k,.int .u64 c,.int .i64 d]] w (qY [a,b] w):=by
 go_enter func41,ntmps41;go_wp2_with fail;go_ret;exact YY _ _ _ _
theorem znR (a b k d:Int)(c:Nat)(w:World):Calls prog 41 #[.agg #[.int .i64 4,.int .i64 a,.int .i64 b,.int .i64 k,.int .u64 c,.int .i64 d]] w (qY [a,b] w):=by
 go_enter func41,ntmps41;go_wp2_with fail;go_ret;exact YY _ _ _ _
theorem zfi (a b k d:Int)(c:Nat)(w:World):Calls prog 41 #[.agg #[.int .i64 6,.int .i64 a,.int .i64 b,.int .i64 k,.int .u64 c,.int .i64 d]] w (qY [a,b] w):=by
 go_enter func41,ntmps41;go_wp2_with fail;go_ret;exact YY _ _ _ _
theorem znS (a b k d:Int)(c:Nat)(w:World):Calls prog 41 #[.agg #[.int .i64 7,.int .i64 a,.int .i64 b,.int .i64 k,.int .u64 c,.int .i64 d]] w (qY [a,b] w):=by
 go_enter func41,ntmps41;go_wp2_with fail;go_ret;exact YY _ _ _ _
theorem zfj (a b k d:Int)(c:Nat)(w:World):Calls prog 41 #[.agg #[.int .i64 9,.int .i64 a,.int .i64 b,.int .i64 k,.int .u64 c,.int .i64 d]] w (qY [a,b] w):=by
 go_enter func41,ntmps41;go_wp2_with fail;go_ret;exact YY _ _ _ _
theorem zdm (a b k d:Int)(c:Nat)(w:World)(e:k≠1):Calls prog 41 #[.agg #[.int .i64 17,.int .i64 a,.int .i64 b,.int .i64 k,.int .u64 c,.int .i64 d]] w (qY [a,b] w):=by
 have:(k != 1)=true:=by simpa using e
 go_enter func41,ntmps41;go_wp2_with fail;go_ret;exact YY _ _ _ _
theorem zcg (a b d:Int)(c:Nat)(w:World):Calls prog 41 #[.agg #[.int .i64 17,.int .i64 a,.int .i64 b,.int .i64 1,.int .u64 c,.int .i64 d]] w (qY [a] w):=by
 go_enter func41,ntmps41;go_wp2_with fail;go_ret;exact zdg _ _ _
theorem znT (d a b k e:Int)(c:Nat)(w:World)(f:(d==1)=false)(g:(d==2)=false)(h:(d==3)=false)(i:(d==4)=false)(j:(d==6)=false)(l:(d==7)=false)(m:(d==9)=false)(n:(d==17)=false):Calls prog 41 #[.agg #[.int .i64 d,.int .i64 a,.int .i64 b,.int .i64 k,.int .u64 c,.int .i64 e]] w (qY [a] w):=by
 go_enter func41,ntmps41;go_wp2_with fail;go_ret;exact zdg _ _ _
theorem zaJ (o:MOp)(w:World):Calls prog 41 #[.agg o.arr] w (qY (yt o) w):=by
 obtain ⟨f,a,b,c,d,e⟩:=o;simp only [MOp.arr]
 by_cases g:f=1
 ·subst g;exact ziG a b c e d w
 by_cases h:f=2
 ·subst h;exact znP a b c e d w
 by_cases i:f=3
 ·subst i;exact znQ a b c e d w
 by_cases j:f=4
 ·subst j;exact znR a b c e d w
 by_cases k:f=6
 ·subst k;exact zfi a b c e d w
 by_cases l:f=7
 ·subst l;exact znS a b c e d w
 by_cases m:f=9
 ·subst m;exact zfj a b c e d w
 by_cases n:f=17
 ·subst n
  by_cases p:c=1
  ·subst p;exact zcg a b e d w
  ·rw [show yt ⟨17,a,b,c,d,e⟩=[a,b] by simp [yt,p]];exact zdm a b c e d w p
 rw [show yt ⟨f,a,b,c,d,e⟩=[a] by simp [yt,g,h,i,j,k,l,m,n]];exact znT f a b c e d w (by simpa using g) (by simpa using h) (by simpa using i) (by simpa using j) (by simpa using k) (by simpa using l) (by simpa using m) (by simpa using n)
theorem zgf (a b k d:Int)(c:Nat)(w:World):Calls prog 40 #[.agg #[.int .i64 1,.int .i64 a,.int .i64 b,.int .i64 k,.int .u64 c,.int .i64 d]] w (qM (.bool true) w):=by
 go_enter func40,ntmps40;go_wp2_with fail;go_ret;exact ⟨rfl,(Below.refl _ _).alloc (Nat.le_refl _) _⟩
theorem zgg (a b k d:Int)(c:Nat)(w:World):Calls prog 40 #[.agg #[.int .i64 6,.int .i64 a,.int .i64 b,.int .i64 k,.int .u64 c,.int .i64 d]] w (qM (.bool true) w):=by
 go_enter func40,ntmps40;go_wp2_with fail;go_ret;exact ⟨rfl,(Below.refl _ _).alloc (Nat.le_refl _) _⟩
theorem zgh (a b k d:Int)(c:Nat)(w:World):Calls prog 40 #[.agg #[.int .i64 9,.int .i64 a,.int .i64 b,.int .i64 k,.int .u64 c,.int .i64 d]] w (qM (.bool true) w):=by
 go_enter func40,ntmps40;go_wp2_with fail;go_ret;exact ⟨rfl,(Below.refl _ _).alloc (Nat.le_refl _) _⟩
theorem zcf (a b k d:Int)(c:Nat)(w:World):Calls prog 40 #[.agg #[.int .i64 17,.int .i64 a,.int .i64 b,.int .i64 k,.int .u64 c,.int .i64 d]] w (qM (.bool true) w):=by
 go_enter func40,ntmps40;go_wp2_with fail;go_ret;exact ⟨rfl,(Below.refl _ _).alloc (Nat.le_refl _) _⟩
theorem zfg (a b k d:Int)(c:Nat)(w:World):Calls prog 40 #[.agg #[.int .i64 18,.int .i64 a,.int .i64 b,.int .i64 k,.int .u64 c,.int .i64 d]] w (qM (.bool true) w):=by
 go_enter func40,ntmps40;go_wp2_with fail;go_ret;exact ⟨rfl,(Below.refl _ _).alloc (Nat.le_refl _) _⟩
theorem zfh (a b k d:Int)(c:Nat)(w:World):Calls prog 40 #[.agg #[.int .i64 19,.int .i64 a,.int .i64 b,.int .i64 k,.int .u64 c,.int .i64 d]] w (qM (.bool true) w):=by
 go_enter func40,ntmps40;go_wp2_with fail;go_ret;exact ⟨rfl,(Below.refl _ _).alloc (Nat.le_refl _) _⟩
theorem zl8 (d a b k e:Int)(c:Nat)(w:World)(f:(d==1)=false)(g:(d==6)=false)(h:(d==9)=false)(i:(d==17)=false)(j:(d==18)=false)(l:(d==19)=false):Calls prog 40 #[.agg #[.int .i64 d,.int .i64 a,.int .i64 b,.int .i64 k,.int .u64 c,.int .i64 e]] w (qM (.bool false) w):=by
 go_enter func40,ntmps40;go_wp2_with fail;go_ret;exact ⟨rfl,(Below.refl _ _).alloc (Nat.le_refl _) _⟩
theorem yE (o:MOp)(w:World):Calls prog 40 #[.agg o.arr] w (qM (.bool (yP o)) w):=by
 obtain ⟨a,b,c,d,e,f⟩:=o;simp only [MOp.arr]
 by_cases g:a=1
 ·subst g;exact zgf b c d f e w
 by_cases h:a=6
 ·subst h;exact zgg b c d f e w
 by_cases i:a=9
 ·subst i;exact zgh b c d f e w
 by_cases j:a=17
 ·subst j;exact zcf b c d f e w
 by_cases k:a=18
 ·subst k;exact zfg b c d f e w
 by_cases l:a=19
 ·subst l;exact zfh b c d f e w
 rw [show yP ⟨a,b,c,d,e,f⟩=false by simp [yP,g,h,i,j,k,l]];exact zl8 a b c d f e w (by simpa using g) (by simpa using h) (by simpa using i) (by simpa using j) (by simpa using k) (by simpa using l)
def Z3:List (List Int)→Int→Int
 |[],a=>a
 |b::c,a=>if qN b=0 then -1 else Z3 c (a+qN b)
def Ya (l:List (List Int)):Int:=Z3 l 0
theorem zl7 (v:Value)(c:List Value)(l:List (List Int))(w:World)(p:Arr w.heap.size w 1 v c.length c)(j:ZR w.heap.size w c (l.map ints))(P:l.length≤1099511627776):
  Calls prog 15 #[v] w fun k m=>k= .returned (.int .i64 (Ya l))∧w=m:=by
 have n:=j.length;simp only [List.length_map] at n;obtain ⟨_,_,rfl,_,A,B,q⟩:=p.open;have C:=Z q;have D:=Z j;have r:=Z n;have:c.length≤1099511627776:=by omega
 clear p B q A j n;go_enter func15,ntmps15;go_wp2_with fail;go_loopg [3,9] c.length (fun E F G wr=>∃(a:Nat) (e:Int),a≤c.length∧E=c.length-a∧G= .int .i64 a∧F= .int .i64 e∧0≤e∧e≤32 * a∧Hid (Z3 (l.drop a) e=Ya l)∧w=wr)
 case atStart=>exact ⟨0,0,Nat.zero_le _,rfl,rfl,rfl,by omega,by omega,rfl,rfl⟩
 case round=>
  obtain ⟨a,e,_,_,rfl,rfl,_,_,s,rfl⟩:=hrel
  by_cases t:a<c.length
  ·obtain ⟨H,I,rfl,_,u⟩:=C.out (by omega)
   have x:a<l.length:=by have:=r.out;omega
   have d:=D.get a t (by simpa using x);simp only [List.getElem_map] at d;rw [qP] at d;have J:w.cell? ⟨H,I+a,none⟩=some c[a]:=by rw [u a (by omega)];simp [t]
   have b:=s.out;rw [List.drop_eq_getElem_cons x,Z3] at b;generalize l[a]=i at d b;generalize c[a]=Q at d J;obtain ⟨_,_,rfl,_,K,L,M⟩:=Arr.open d;have N:=zfL i;have y:=Z d;obtain ⟨f,o⟩:∃f,qN i=f:=⟨_,rfl⟩;rw [o] at b N;have z:=Z o;clear u d L M K o
   by_cases g:f=0
   ·rw [if_pos g] at b
    have h:=Z b;have O:(f==0)=true:=by simpa using g
    clear b g;go_wp2_with (go_at_call 34;go_must (refine (zB _ i _ y).mono ?_;rw [z.out];rintro k m ⟨rfl,rfl⟩));go_ret;exact ⟨QL h,rfl⟩
   ·rw [if_neg g] at b
    have h:=Z b;have O:(f==0)=false:=by simpa using g
    clear b g;go_wp2_with (go_at_call 34;go_must (refine (zB _ i _ y).mono ?_;rw [z.out];rintro k m ⟨rfl,rfl⟩));go_roundg (c.length-(a+1))
    case measure=>omega
    case rel=>exact ⟨a+1,e+f,by omega,rfl,by go_num,rfl,by omega,by omega,h,rfl⟩
  ·obtain rfl:a=c.length:=by omega
   have b:=s.out;rw [List.drop_of_length_le (by have:=r.out;omega),Z3] at b;have h:=Z b;clear b;go_wp2_with fail;go_ret;exact ⟨QL h,rfl⟩
theorem zlS {o:Option TypeInfo}{g:TypeInfo→Option Method}{m:Method}(b:o.bind g=some m):∃a,o=some a∧g a=some m:=by
 cases o with
 |none=>simp at b
 |some a=>exact ⟨a,rfl,by simpa using b⟩
theorem zku:((prog.info? 100).bind (fun b=>b.methods.find? (·.name== "Len"))).map (fun a=>(a.path,a.func))=some (#[],some (45,false)):=by kernel_rfl
theorem zio:((prog.info? 100).bind (fun b=>b.methods.find? (·.name== "Less"))).map (fun a=>(a.path,a.func))=some (#[],some (302,false)):=by kernel_rfl
theorem ziq:((prog.info? 100).bind (fun b=>b.methods.find? (·.name== "Swap"))).map (fun a=>(a.path,a.func))=some (#[],some (305,false)):=by kernel_rfl
theorem zip:((prog.info? 100).bind (fun b=>b.methods.find? (·.name== "Push"))).map (fun a=>(a.path,a.func))=some (#[],some (304,true)):=by kernel_rfl
theorem zkv:((prog.info? 100).bind (fun b=>b.methods.find? (·.name== "Pop"))).map (fun a=>(a.path,a.func))=some (#[],some (303,true)):=by kernel_rfl
theorem zb8 {e:String}(g:((prog.info? 100).bind (fun c=>c.methods.find? (·.name==e))).map (fun a=>(a.path,a.func))=some (#[],some (f,b))):
  ∃c a,prog.info? 100=some c∧c.methods.find? (·.name==e)=some a∧a.path=#[]∧a.func=some (f,b):=by
 obtain ⟨a,h,d⟩:=Option.map_eq_some_iff.1 g;obtain ⟨c,i,j⟩:=zlS h;simp only [Prod.mk.injEq] at d;exact ⟨c,a,i,j,d.1,d.2⟩
theorem zoX (b:TypeId)(a:Addr)(s m:String):Builtin.ssaWrapNilChk_ #[b] b #[.pointer (some a),strVal s,strVal m]=pure (.pointer (some a)):=rfl
theorem zi7 (w:World):(isAgg 101).run prog w= .ok false w:=by kernel_rfl
theorem zb3 {c:String}(e:((prog.info? 100).bind (fun d=>d.methods.find? (·.name==c))).map (fun b=>(b.path,b.func))=some (#[],some (f,false)))(n:Nat)(a:Addr)(v:Value)(w:World)(g:w.cell? a=some v):
  (Go.method (n+1) 100 (.pointer (some a)) c).run prog w= .ok (f,v) w:=by
 obtain ⟨d,b,h,i,j,k⟩:=zb8 e;simp [Go.method,typeInfo,h,i,j,k,follow,receiverAt,underlying,underlying100,Place.get,zoX,asAddr,loadVar,zi7,g,Result.andThen]
theorem zeG {c:String}(e:((prog.info? 100).bind (fun d=>d.methods.find? (·.name==c))).map (fun b=>(b.path,b.func))=some (#[],some (f,true)))(n:Nat)(a:Addr)(w:World):
  (Go.method (n+1) 100 (.pointer (some a)) c).run prog w= .ok (f,.pointer (some a)) w:=by
 obtain ⟨d,b,g,h,i,j⟩:=zb8 e;simp [Go.method,typeInfo,g,h,i,j,follow,receiverAt,underlying,underlying100,Place.get,Result.andThen]
theorem YG {d:String}(g:((prog.info? 100).bind (fun e=>e.methods.find? (·.name==d))).map (fun c=>(c.path,c.func))=some (#[],some (f,b)))(n:Nat)(a:Addr)(w:World):
  (Go.nilAhead (n+1) 100 (.pointer (some a)) d).run prog w= .ok (some false) w:=by
 obtain ⟨e,c,h,i,j,k⟩:=zb8 g;cases b<;>simp [Go.nilAhead,typeInfo,h,i,j,k,followBlind,underlying,underlying100,Result.andThen]
@[go_sem] theorem zqk (a:Addr)(v:Value)(w:World)(b:w.cell? a=some v):(Go.method 515 100 (.pointer (some a)) "Len").run prog w= .ok (45,v) w:=zb3 zku _ a v w b
@[go_sem] theorem zqm (a:Addr)(w:World):(Go.nilAhead 515 100 (.pointer (some a)) "Len").run prog w= .ok (some false) w:=YG zku _ a w
@[go_sem] theorem zpR (a:Addr)(v:Value)(w:World)(b:w.cell? a=some v):(Go.method 515 100 (.pointer (some a)) "Less").run prog w= .ok (302,v) w:=zb3 zio _ a v w b
@[go_sem] theorem zpU (a:Addr)(w:World):(Go.nilAhead 515 100 (.pointer (some a)) "Less").run prog w= .ok (some false) w:=YG zio _ a w
@[go_sem] theorem zpT (a:Addr)(v:Value)(w:World)(b:w.cell? a=some v):(Go.method 515 100 (.pointer (some a)) "Swap").run prog w= .ok (305,v) w:=zb3 ziq _ a v w b
@[go_sem] theorem zpW (a:Addr)(w:World):(Go.nilAhead 515 100 (.pointer (some a)) "Swap").run prog w= .ok (some false) w:=YG ziq _ a w
@[go_sem] theorem zpS (a:Addr)(w:World):(Go.method 515 100 (.pointer (some a)) "Push").run prog w= .ok (304,.pointer (some a)) w:=zeG zip _ a w
@[go_sem] theorem zpV (a:Addr)(w:World):(Go.nilAhead 515 100 (.pointer (some a)) "Push").run prog w= .ok (some false) w:=YG zip _ a w
@[go_sem] theorem zql (a:Addr)(w:World):(Go.method 515 100 (.pointer (some a)) "Pop").run prog w= .ok (303,.pointer (some a)) w:=zeG zkv _ a w
@[go_sem] theorem zqn (a:Addr)(w:World):(Go.nilAhead 515 100 (.pointer (some a)) "Pop").run prog w= .ok (some false) w:=YG zkv _ a w
theorem zcE {base:Nat}(a:w.ownsRow base e 1 (.slice (some ⟨g,0,none⟩) n E) n D)(i:Nat)(m:i<n)(x:Value):
  (w.setCell ⟨g,i,none⟩ x).ownsRow base e 1 (.slice (some ⟨g,0,none⟩) n E) n (D.set i x):=by
 rcases a.2 with ⟨_,_⟩ | ⟨_,_,c,b,d,f,h,j,k,l⟩
 ·omega
 ·simp only [Value.slice.injEq,Option.some.injEq,Addr.mk.injEq] at b
  obtain ⟨⟨rfl,_⟩,_,rfl⟩:=b;refine ⟨by rw [List.length_set];exact a.1,.inr ⟨g,E,c.setIfInBounds i x,rfl,d,heap_setCell f x,h,j,by simpa using k,?_⟩⟩;rw [Array.toList_setIfInBounds,←l,List.take_set]
theorem zia {base:Nat}(a:w.ownsRow base e 1 (.slice (some ⟨g,0,none⟩) n E) n D)(m:Nat)(l:m≤n):
  w.ownsRow base e 1 (.slice (some ⟨g,0,none⟩) m E) m (D.take m):=by
 rcases a.2 with ⟨c,_⟩ | ⟨_,_,d,b,f,h,_,i,j,k⟩
 ·exact absurd c (by simp)
 ·simp only [Value.slice.injEq,Option.some.injEq,Addr.mk.injEq] at b
  obtain ⟨⟨rfl,_⟩,_,rfl⟩:=b;have:=a.1;refine ⟨by rw [List.length_take];omega,.inr ⟨g,E,d,rfl,f,h,by omega,i,j,?_⟩⟩;rw [←k,List.take_take];congr 1;omega
structure FFr (bf:Nat)(v:Value)(w w':World):Prop where
 os:w'.os=w.os
 tape:w'.tape=w.tape
 output:w'.output=w.output
 size:w.heap.size≤w'.heap.size
 block:∀k,k<w.heap.size→k≠bf→v.ownBlock≠some k→w'.heap[k]? =w.heap[k]?
def FAt (base a:Nat)(w:World)(l:List Int)(v:Value):Prop:=w.heap[a]? =some (.cells #[v] 101 (0,0))∧w.ownsRow base 3 1 v l.length (ints l)∧base≤w.heap.size
theorem FFr.refl (a:Nat)(v:Value)(w:World):FFr a v w w:=⟨rfl,rfl,rfl,Nat.le_refl _,fun _ _ _ _=>rfl⟩
theorem FFr.drewN (a:FFr h v w A)(n:Nat):FFr h v w (A.drewN n):=⟨a.os,a.tape,a.output,a.size,a.block⟩
theorem FFr.drew (a:FFr h v w A):FFr h v w A.drew:=⟨a.os,a.tape,a.output,a.size,a.block⟩
def zaa (w:World)(v v':Value):Prop:=∀a,v'.ownBlock=some a→v.ownBlock=some a∨w.heap.size≤a
theorem zaa.refl (w:World)(v:Value):zaa w v v:=fun _ a=> .inl a
theorem FFr.trans {c:World}(a:FFr h v w A)(i:zaa w v v')(k:FFr h v' A c):FFr h v w c:=
 ⟨k.os.trans a.os,k.tape.trans a.tape,k.output.trans a.output,Nat.le_trans a.size k.size,fun b d e f=>by
  rw [k.block b (Nat.lt_of_lt_of_le d a.size) e (fun j=>by rcases i b j with g | g;exact f g;omega),a.block b d e f]⟩
theorem zaa.trans {a:Value}(d:zaa w v v')(f:w.heap.size≤A.heap.size)(k:zaa A v' a):zaa w v a:=fun b e=>by
 rcases k b e with c | c
 ·exact d b c
 ·exact .inr (by omega)
theorem FFr.below {base:Nat}(a:FFr h v w A){B:Nat}(e:B≤h)(c:∀b,v.ownBlock=some b→B≤b)(f:B≤w.heap.size):Below B w A:=
 ⟨a.os,a.tape,a.output,a.size,fun b _=>a.block b (by omega) (by omega) (fun d=>by have:=c b d;omega)⟩
theorem FFr.setOwn (b:FFr h v w A){a:Addr}(e:v.ownBlock=some a.block)(x:Value):FFr h v w (A.setCell a x):=
 ⟨b.os,b.tape,b.output,by simpa using b.size,fun c f g d=>by
  obtain ⟨_,_,_⟩:=a;rw [Below.heap_setCell A _ _ c (fun i=>d (by rw [e,i])),b.block c f g d]⟩
theorem FAt.drewN {base:Nat}(a:FAt base h w l v)(n:Nat):FAt base h (w.drewN n) l v:=a
theorem FAt.drew {base:Nat}(a:FAt base h w l v):FAt base h w.drew l v:=a
def Qz (l:List Int)(i j:Nat):List Int:=(l.set i (l.getD j 0)).set j (l.getD i 0)
theorem qW (l:List Int)(i j:Nat):(Qz l i j).length=l.length:=by simp [Qz]
theorem Qc (v:Value)(l:List Int)(i j:Nat)(w:World)(b:Arr w.heap.size w 1 v l.length (ints l))(c:i<l.length)(d:j<l.length):
  Calls prog 302 #[v,.int .i64 i,.int .i64 j] w fun h k=>h= .returned (.bool (decide (l.getD i 0<l.getD j 0)))∧∃m,k=w.drewN m:=by
 obtain ⟨_,_,rfl,_,n,o,e⟩:=b.open;obtain ⟨f,g,rfl,_,a⟩:=e (by omega);have p:w.cell? ⟨f,g+i,none⟩=some (.int .i64 (l.getD i 0)):=by rw [a i (by omega),yY l i c];simp [List.getD,c]
 have q:w.cell? ⟨f,g+j,none⟩=some (.int .i64 (l.getD j 0)):=by rw [a j (by omega),yY l j d];simp [List.getD,d]
 unfold maxLen at n;have:(0:Int)≤(i:Int):=by omega
 have:(i:Int)<(l.length:Int):=by omega
 have:(0:Int)≤(j:Int):=by omega
 have:(j:Int)<(l.length:Int):=by omega
 clear a e o b;generalize l.getD i 0=r at p ⊢;generalize l.getD j 0=s at q ⊢;go_enter func302,ntmps302;go_wp2_with fail;go_quiet (fail);go_wp2_with fail;go_ret;exact ⟨rfl,_,rfl⟩
theorem zcv (v:Value)(n:Nat)(b:List Value)(w:World)(a:Arr w.heap.size w 1 v n b):
  Calls prog 45 #[v] w fun c d=>c= .returned (.int .i64 n)∧w=d:=by
 obtain ⟨_,_,rfl,_,e,f,g⟩:=a.open;clear a f g e;go_enter func45,ntmps45;go_wp2_with fail;go_ret;exact ⟨rfl,rfl⟩
theorem zbb (base d:Nat)(v:Value)(l:List Int)(i j:Nat)(w:World)(D:FAt base d w l v)(o:i<l.length)(r:j<l.length):
  Calls prog 305 #[v,.int .i64 i,.int .i64 j] w fun e s=>e= .returned (.tuple #[])∧FAt base d s (Qz l i j) v∧FFr d v w s:=by
 obtain ⟨f,c,E⟩:=D;obtain ⟨a,F,rfl,_,_⟩:=c.form (by omega);have g:∀b,b<l.length→w.cell? ⟨a,b,none⟩=some (.int .i64 (l.getD b 0)):=by
  intro b h;have:=c.cellAt b (by omega);rw [yY l b h] at this;simpa [List.getD,h] using this
 have t:=g i o;have u:=g j r;have k:∀b,b<l.length→w.frozen? ⟨a,b,none⟩=false:=by
  intro b h;rcases c.2 with ⟨G,_⟩ | ⟨_,_,_,x,_,H,_,_,_,_⟩
  ·exact absurd G (by simp)
  ·simp only [Value.slice.injEq,Option.some.injEq,Addr.mk.injEq] at x
   obtain ⟨⟨rfl,_⟩,_,rfl⟩:=x;simp [World.frozen?,H]
 have I:=k i o;have J:=k j r;have K:(0:Int)≤(i:Int):=by omega
 have L:(i:Int)<(l.length:Int):=by omega
 have M:(0:Int)≤(j:Int):=by omega
 have N:(j:Int)<(l.length:Int):=by omega
 have m:=Z (show (((w.setCell ⟨a,i,none⟩ (.int .i64 (l.getD j 0))).setCell ⟨a,j,none⟩ (.int .i64 (l.getD i 0))).ownsRow base 3 1 (.slice (some ⟨a,0,none⟩) l.length F) l.length (ints (Qz l i j))) by
  have:=zcE (zcE c i (by omega) (.int .i64 (l.getD j 0))) j (by omega) (.int .i64 (l.getD i 0));rw [Qz];simpa [ints,List.map_set] using this)
 have y:¬d=a:=fun e=>yz c f (by decide) (by rw [e];rfl)
 have n:=Z ((qe (w:=w.setCell ⟨a,i,none⟩ (.int .i64 (l.getD j 0))) (j:=j) y (.int .i64 (l.getD i 0))).trans ((qe (j:=i) y (.int .i64 (l.getD j 0))).trans f));clear g k f;generalize z:l.getD i 0=A at t m n;generalize B:l.getD j 0=C at u m n;have O:=Z z;have P:=Z B;clear z B;obtain ⟨_,_⟩:=cell?_setCell_some (w:=w) (p:=⟨a,i,none⟩) (x:= .int .i64 C) (q:=⟨a,j,none⟩) (v:= .int .i64 C) u;obtain ⟨_,_⟩:=cell?_setCell_some (w:=w) (p:=⟨a,j,none⟩) (x:= .int .i64 A) (q:=⟨a,i,none⟩) (v:= .int .i64 A) t;go_enter func305,ntmps305;go_wp2_with fail;go_region
 all_goals
  go_wp2_with fail;go_end0;refine ⟨rfl,FAt.drew ⟨n,?_,by simpa using E⟩,FFr.drew ?_⟩
  ·rw [qW];exact m
  ·exact ((FFr.refl _ _ _).setOwn (by simp [Value.ownBlock]) _).setOwn (by simp [Value.ownBlock]) _
@[go_sem] theorem zo2 (v:Value)(w:World):(Instr.typeAssert (.iface 3 v) 20 3 true).run prog w= .ok (.tuple #[v,.bool true]) w:=by kernel_rfl
theorem zns (base b:Nat)(v:Value)(l:List Int)(x:Int)(w:World)(B:FAt base b w l v)(H:l.length≤1000000):
  Calls prog 304 #[.pointer (some ⟨b,0,none⟩),.iface 3 (.int .i64 x)] w fun e n=>e= .returned (.tuple #[])∧∃o,FAt base b n (l++[x]) o∧FFr b v w n∧zaa w v o:=by
 obtain ⟨g,p,C⟩:=B;have I:w.cell? ⟨b,0,none⟩=some v:=by simp [World.cell?,g]
 have h:=Z g;clear g;go_enter func304,ntmps304;go_wp2_with (at_builtin;go_must (refine yS rfl _ _ 101 rfl 3 (.int .i64 0) 1 8 underlying101 qD rfl (by decide) #[_] _ _ _ _ p rfl rfl rfl (by intro _ q;simp at q;subst q;rfl) C (by omega) (by unfold maxLen;omega) ?_;intro _ r i k s;obtain ⟨t,u,rfl,_,_⟩:=i.form (by omega);have f:=(k.block b (qd h) (fun e=>yz p h (by decide) e.symm)).trans h;have J:r.cell? ⟨b,0,none⟩=some v:=(by simp [World.cell?,f]);have K:r.frozen? ⟨b,0,none⟩=false:=(by simp [World.frozen?,f]);have y:=Z f;have c:=Z k;have z:=Z i;have D:=Z s;clear f k i s));have E:=Z (heap_setCell (j:=0) y (.slice (some ⟨t,0,none⟩) (l.length+1) u));go_end0;refine ⟨rfl,_,⟨E,?_,?_⟩,?_,?_⟩
 ·have:=ownsRow_setCell_other z (a:=⟨b,0,none⟩) (yz z y (by decide)) (.slice (some ⟨t,0,none⟩) (l.length+1) u)
  rw [yd,List.length_append];exact this
 ·have:=c.size;simp;omega
 ·refine ⟨c.os,c.tape,c.output,by have:=c.size;simpa using this,fun A d F G=> ?_⟩
  rw [qe F];exact c.block A d (fun e=>G e.symm)
 ·intro A d
  rcases D with m | m
  ·rw [m] at d;exact .inl d
  ·rw [m] at d;simp at d;exact .inr (by omega)
theorem zoI (base c:Nat)(v:Value)(l:List Int)(w:World)(t:FAt base c w l v)(H:0<l.length):
  Calls prog 303 #[.pointer (some ⟨c,0,none⟩)] w fun u n=>(∃x,u= .returned x)∧∃o,FAt base c n (l.take (l.length-1)) o∧FFr c v w n∧zaa w v o:=by
 obtain ⟨e,f,y⟩:=t;obtain ⟨g,d,rfl,_,_⟩:=f.form (by omega);obtain ⟨b,h⟩:∃b,l.length=b+1:=⟨l.length-1,by omega⟩;have z:∃p,w.cell? ⟨g,b,none⟩=some (.int .i64 p):=by
  have:=f.cellAt b (by omega);rw [yY l b (by omega)] at this;exact ⟨_,by simpa using this⟩
 obtain ⟨p,_⟩:=z;have A:w.cell? ⟨c,0,none⟩=some (.slice (some ⟨g,0,none⟩) l.length d):=by simp [World.cell?,e]
 have I:w.frozen? ⟨c,0,none⟩=false:=by simp [World.frozen?,e]
 have B:l.length≤d∧d≤maxLen:=by
  rcases f.2 with ⟨C,_⟩ | ⟨_,_,_,i,_,_,k,m,_,_⟩
  ·exact absurd C (by simp)
  ·simp only [Value.slice.injEq,Option.some.injEq,Addr.mk.injEq] at i
   obtain ⟨_,_,rfl⟩:=i;exact ⟨k,m⟩
 obtain ⟨k,m⟩:=B;have q:=Z (zia f b (by omega));have r:=Z e;have s:=Z h;rw [h] at A k;unfold maxLen at m;clear e h;go_enter func303,ntmps303;go_wp2_with fail;go_ret;have D:=heap_setCell (j:=0) r (.slice (some ⟨g,0,none⟩) b d);refine ⟨⟨_,rfl⟩,_,⟨D,?_,by simpa using y⟩,?_,zaa.refl _ _⟩
 ·have:=ownsRow_setCell_other q (a:=⟨c,0,none⟩) (yz q r (by decide)) (.slice (some ⟨g,0,none⟩) b d)
  have E:(l.take (l.length-1)).length=b:=by rw [List.length_take,s.out];omega
  have F:ints (l.take (l.length-1))=(ints l).take b:=by rw [s.out];simp [ints,List.map_take]
  rw [E,F];exact this
 ·refine ⟨rfl,rfl,rfl,by simp,fun _ _ G i=>qe G _⟩
def fUp (l:List Int)(j:Nat):List Int:=
 if a:j=0 then l else if l.getD j 0<l.getD ((j-1) / 2) 0 then fUp (Qz l ((j-1) / 2) j) ((j-1) / 2) else l
termination_by j
decreasing_by omega
def zW (l:List Int)(i n:Nat):Nat:=if 2 * i+2<n∧l.getD (2 * i+2) 0<l.getD (2 * i+1) 0 then 2 * i+2 else 2 * i+1
theorem Zy (l:List Int)(i n:Nat):i<zW l i n:=by unfold zW;split<;>omega
def zL (l:List Int)(i n:Nat):List Int:=
 if a:2 * i+1<n then (if l.getD (zW l i n) 0<l.getD i 0 then zL (Qz l i (zW l i n)) (zW l i n) n else l) else l
termination_by n-i
decreasing_by have:=Zy l i n;omega
def ZD (l:List Int)(x:Int):List Int:=fUp (l++[x]) l.length
def zat (l:List Int):List Int:=(zL (Qz l 0 (l.length-1)) 0 (l.length-1)).take (l.length-1)
theorem FAt.cell {base:Nat}(a:FAt base h w l v):w.cell? ⟨h,0,none⟩=some v:=by simp [World.cell?,a.1]
theorem FAt.arr {base:Nat}(a:FAt base h w l v):Arr w.heap.size w 1 v l.length (ints l):=Arr.of_owns a.2.1
theorem zpN (base d:Nat)(v:Value)(l:List Int)(j:Nat)(w:World)(p:FAt base d w l v)(y:j<l.length)(z:l.length≤1000000):
  Calls prog 84 #[.iface 100 (.pointer (some ⟨d,0,none⟩)),.int .i64 j] w fun k q=>k= .returned (.tuple #[])∧FAt base d q (fUp l j) v∧FFr d v w q:=by
 have r:=Z p;clear p;go_enter func84,ntmps84;go_wp2_with fail;go_loopg [1] j (fun A B wr=>∃(b:List Int) (e:Nat),A=e∧B= .int .i64 e∧e<b.length∧b.length≤1000000∧Hid (fUp b e=fUp l j)∧Hid (FAt base d wr b v)∧Hid (FFr d v w wr))
 case atStart=>exact ⟨l,j,rfl,rfl,y,z,rfl,r,FFr.refl _ _ _⟩
 case round=>
  obtain ⟨b,e,_,rfl,f,C,h,g,n⟩:=hrel;clear r;have H:=g.cell
  match e,f with
  |0,f=>
   have D:(((0:Nat):Int)-1).tdiv 2=0:=by decide
   simp only [Int.natCast_zero] at D ⊢;have c:=h.out;rw [fUp,dif_pos rfl] at c;have i:=Z c;clear c h;go_wp2_with fail;go_end0;exact ⟨rfl,by rw [←i.out];exact g,n⟩
  |a+1,f=>
   have I:(((a:Int) / 2)==(a:Int)+1)=false:=by simp;omega
   have c:=h.out;rw [fUp,dif_neg (by omega),Nat.add_sub_cancel] at c;obtain ⟨o,s⟩:∃o,decide (b.getD (a+1) 0<b.getD (a / 2) 0)=o:=⟨_,rfl⟩;have m:=Z s;clear s;have J:(0:Int)≤a:=by omega
   simp only [Int.natCast_add,Int.natCast_one];cases o
   ·have i:=Z (show b=fUp l j by rw [←c,if_neg (by have:=m.out;simpa using this)])
    clear c h;go_wp2_with (go_at_call 302;go_must (refine (Qc v b (a+1) (a / 2) _ g.arr f (by omega)).mono ?_;rw [m.out];rintro k E ⟨rfl,t,rfl⟩));go_end0;exact ⟨rfl,by rw [←i.out];exact g.drewN _,n.drewN _⟩
   ·have i:=Z (show fUp (Qz b (a / 2) (a+1)) (a / 2)=fUp l j by rw [←c,if_pos (by have:=m.out;simpa using this)])
    clear c h;go_wp2_with (first | (go_at_call 302;go_must (refine (Qc v b (a+1) (a / 2) _ g.arr f (by omega)).mono ?_;rw [m.out];rintro k E ⟨rfl,t,rfl⟩)) | (go_at_call 305;go_must (refine (zbb base d v b (a / 2) (a+1) _ (g.drewN _) (by omega) f).mono ?_;rintro k _ ⟨rfl,u,x⟩;have F:=Z u;have G:=Z x;clear u x)));go_roundg (a / 2)
    case measure=>omega
    case rel=>
     exact ⟨_,a / 2,rfl,rfl,by rw [qW];omega,by rw [qW];exact C,i,F,(n.drewN t).trans (zaa.refl _ _) G⟩
theorem zmw (base m:Nat)(v:Value)(l:List Int)(h n:Nat)(w:World)(E:FAt base m w l v)(u:n≤l.length)(K:l.length≤1000000)(L:h≤1000000):
  Calls prog 85 #[.iface 100 (.pointer (some ⟨m,0,none⟩)),.int .i64 h,.int .i64 n] w fun e F=>(∃M,e= .returned M)∧FAt base m F (zL l h n) v∧FFr m v w F:=by
 have G:=Z E;clear E;go_enter func85,ntmps85;go_wp2_with fail;go_loopg [7] (n-h) (fun N O wr=>∃(b:List Int) (a:Nat),N=n-a∧O= .int .i64 a∧n≤b.length∧(b.length≤1000000∧a≤1000000)∧Hid (zL b a n=zL l h n)∧Hid (FAt base m wr b v)∧Hid (FFr m v w wr))
 case atStart=>exact ⟨l,h,rfl,rfl,u,⟨K,L⟩,rfl,G,FFr.refl _ _ _⟩
 case round=>
  obtain ⟨b,a,_,rfl,u,⟨B,_⟩,o,d,s⟩:=hrel;clear G;have R:=d.cell;have c:=o.out;rw [zL] at c
  by_cases H:2 * a+1<n
  ·rw [dif_pos H] at c
   by_cases P:2 * a+2<n
   ·obtain ⟨C,I⟩:∃C,decide (b.getD (2 * a+2) 0<b.getD (2 * a+1) 0)=C:=⟨_,rfl⟩
    have t:=Z I;clear I;cases C
    ·have x:=Z (show zW b a n=2 * a+1 by rw [zW,if_neg (fun Q=>of_decide_eq_false t Q.2)])
     rw [x.out] at c;obtain ⟨i,p⟩:∃i,decide (b.getD (2 * a+1) 0<b.getD a 0)=i:=⟨_,rfl⟩;have f:=Z p;clear p;cases i
     ·have g:=Z (show b=zL l h n by rw [←c,if_neg (by have:=f.out;simpa using this)])
      clear c o
      as_aux_lemma=>
       go_wp2_with fail;refine (Qc v b (2 * a+2) (2 * a+1) _ d.arr (by omega) (by omega)).mono ?_;rw [t.out];rintro e D ⟨rfl,j,rfl⟩;go_wp2_with fail;refine (Qc v b (2 * a+1) a _ (d.drewN j).arr (by omega) (by omega)).mono ?_;rw [f.out];rintro e y ⟨rfl,k,rfl⟩;go_wp2_with fail;go_ret;exact ⟨⟨_,rfl⟩,by rw [←g.out];exact d.drewN _,s.drewN _⟩
     ·have g:=Z (show zL (Qz b a (2 * a+1)) (2 * a+1) n=zL l h n by rw [←c,if_pos (by have:=f.out;simpa using this)])
      clear c o
      as_aux_lemma=>
       go_wp2_with fail;refine (Qc v b (2 * a+2) (2 * a+1) _ d.arr (by omega) (by omega)).mono ?_;rw [t.out];rintro e D ⟨rfl,j,rfl⟩;go_wp2_with fail;refine (Qc v b (2 * a+1) a _ (d.drewN j).arr (by omega) (by omega)).mono ?_;rw [f.out];rintro e y ⟨rfl,k,rfl⟩;go_wp2_with fail;refine (zbb base m v b a (2 * a+1) _ (d.drewN (j+k)) (by omega) (by omega)).mono ?_;rintro e J ⟨rfl,q,r⟩;have z:=Z q;have A:=Z r;clear q r;go_wp2_with fail;go_roundg (n-(2 * a+1))
       case measure=>omega
       case rel=>
        exact ⟨_,2 * a+1,rfl,by go_num,by rw [qW];exact u,⟨by rw [qW];exact B,by omega⟩,g,z,(s.drewN (j+k)).trans (zaa.refl _ _) A⟩
    ·have x:=Z (show zW b a n=2 * a+2 by rw [zW,if_pos ⟨P,by have:=t.out;simpa using this⟩])
     rw [x.out] at c;obtain ⟨i,p⟩:∃i,decide (b.getD (2 * a+2) 0<b.getD a 0)=i:=⟨_,rfl⟩;have f:=Z p;clear p;cases i
     ·have g:=Z (show b=zL l h n by rw [←c,if_neg (by have:=f.out;simpa using this)])
      clear c o
      as_aux_lemma=>
       go_wp2_with fail;refine (Qc v b (2 * a+2) (2 * a+1) _ d.arr (by omega) (by omega)).mono ?_;rw [t.out];rintro e D ⟨rfl,j,rfl⟩;go_wp2_with fail;refine (Qc v b (2 * a+2) a _ (d.drewN j).arr (by omega) (by omega)).mono ?_;rw [f.out];rintro e y ⟨rfl,k,rfl⟩;go_wp2_with fail;go_ret;exact ⟨⟨_,rfl⟩,by rw [←g.out];exact d.drewN _,s.drewN _⟩
     ·have g:=Z (show zL (Qz b a (2 * a+2)) (2 * a+2) n=zL l h n by rw [←c,if_pos (by have:=f.out;simpa using this)])
      clear c o
      as_aux_lemma=>
       go_wp2_with fail;refine (Qc v b (2 * a+2) (2 * a+1) _ d.arr (by omega) (by omega)).mono ?_;rw [t.out];rintro e D ⟨rfl,j,rfl⟩;go_wp2_with fail;refine (Qc v b (2 * a+2) a _ (d.drewN j).arr (by omega) (by omega)).mono ?_;rw [f.out];rintro e y ⟨rfl,k,rfl⟩;go_wp2_with fail;refine (zbb base m v b a (2 * a+2) _ (d.drewN (j+k)) (by omega) (by omega)).mono ?_;rintro e J ⟨rfl,q,r⟩;have z:=Z q;have A:=Z r;clear q r;go_wp2_with fail;go_roundg (n-(2 * a+2))
       case measure=>omega
       case rel=>
        exact ⟨_,2 * a+2,rfl,by go_num,by rw [qW];exact u,⟨by rw [qW];exact B,by omega⟩,g,z,(s.drewN (j+k)).trans (zaa.refl _ _) A⟩
   ·have x:=Z (show zW b a n=2 * a+1 by rw [zW,if_neg (by omega)])
    rw [x.out] at c;obtain ⟨i,p⟩:∃i,decide (b.getD (2 * a+1) 0<b.getD a 0)=i:=⟨_,rfl⟩;have f:=Z p;clear p;cases i
    ·have g:=Z (show b=zL l h n by rw [←c,if_neg (by have:=f.out;simpa using this)])
     clear c o
     as_aux_lemma=>
      go_wp2_with fail;refine (Qc v b (2 * a+1) a _ (d).arr (by omega) (by omega)).mono ?_;rw [f.out];rintro e y ⟨rfl,k,rfl⟩;go_wp2_with fail;go_ret;exact ⟨⟨_,rfl⟩,by rw [←g.out];exact (d).drewN _,s.drewN _⟩
    ·have g:=Z (show zL (Qz b a (2 * a+1)) (2 * a+1) n=zL l h n by rw [←c,if_pos (by have:=f.out;simpa using this)])
     clear c o
     as_aux_lemma=>
      go_wp2_with fail;refine (Qc v b (2 * a+1) a _ (d).arr (by omega) (by omega)).mono ?_;rw [f.out];rintro e y ⟨rfl,k,rfl⟩;go_wp2_with fail;refine (zbb base m v b a (2 * a+1) _ ((d).drewN _) (by omega) (by omega)).mono ?_;rintro e J ⟨rfl,q,r⟩;have z:=Z q;have A:=Z r;clear q r;go_wp2_with fail;go_roundg (n-(2 * a+1))
      case measure=>omega
      case rel=>
       exact ⟨_,2 * a+1,rfl,by go_num,by rw [qW];exact u,⟨by rw [qW];exact B,by omega⟩,g,z,(s.drewN k).trans (zaa.refl _ _) A⟩
  ·rw [dif_neg H] at c
   have g:=Z c;clear c o
   as_aux_lemma=>
    go_wp2_with fail;go_ret;exact ⟨⟨_,rfl⟩,by rw [←g.out];exact d,s⟩
theorem zoa (l:List Int)(j:Nat):(fUp l j).length=l.length:=by
 induction j using Nat.strongRecOn generalizing l with
 |ind j ih=>
  rw [fUp];split
  ·rfl
  ·split
   ·rw [ih _ (by omega),qW]
   ·rfl
theorem zc3 (l:List Int)(i n:Nat):(zL l i n).length=l.length:=by
 induction a:n-i using Nat.strongRecOn generalizing l i with
 |ind b ih=>
  rw [zL];split
  ·split
   ·have:=Zy l i n
    rw [ih (n-zW l i n) (by omega) _ _ rfl,qW]
   ·rfl
  ·rfl
theorem zc4 (l:List Int)(x:Int):(ZD l x).length=l.length+1:=by simp [ZD,zoa]
theorem zel (l:List Int):(zat l).length=l.length-1:=by simp [zat,zc3,qW]
theorem zau (base a:Nat)(v:Value)(l:List Int)(x:Int)(w:World)(f:FAt base a w l v)(t:l.length<1000000):
  Calls prog 44 #[.iface 100 (.pointer (some ⟨a,0,none⟩)),.iface 3 (.int .i64 x)] w fun b g=>b= .returned (.tuple #[])∧∃h,FAt base a g (ZD l x) h∧FFr a v w g∧zaa w v h:=by
 have p:=Z f;clear f;go_enter func44,ntmps44;go_wp2_with fail;refine (zns base a v l x _ p (by omega)).mono ?_;rintro b _ ⟨rfl,c,d,i,j⟩;have:=d.cell;have k:=Z d;have q:=Z i;have m:=Z j;clear d i j;have e:(l++[x]).length=l.length+1:=by simp
 go_wp2_with (first | (go_at_call 45;go_must (refine (zcv c (l++[x]).length _ _ k.arr).mono ?_;rw [e];rintro b _ ⟨rfl,rfl⟩)) | (go_at_call 84;go_must (refine (zpN base a c (l++[x]) l.length _ k (by rw [e];omega) (by rw [e];omega)).mono ?_;rintro b _ ⟨rfl,n,o⟩;have r:=Z n;have s:=Z o;clear n o)));go_end0;exact ⟨rfl,c,r,q.trans m s,m⟩
theorem zhG (base b:Nat)(v:Value)(l:List Int)(w:World)(e:FAt base b w l v)(u:0<l.length)(x:l.length≤1000000):
  Calls prog 46 #[.iface 100 (.pointer (some ⟨b,0,none⟩))] w fun d i=>(∃j,d= .returned j)∧∃k,FAt base b i (zat l) k∧FFr b v w i∧zaa w v k:=by
 have:=e.cell;have m:=Z e;clear e;obtain ⟨a,n⟩:∃a,l.length=a+1:=⟨l.length-1,by omega⟩;have c:=Z n;have:a<1000000:=by omega
 go_enter func46,ntmps46;go_wp2_with fail;refine (zcv v l.length _ _ m.arr).mono ?_;rw [c.out];rintro d y ⟨rfl,rfl⟩;clear n u x;go_wp2_with fail;refine (zbb base b v l 0 a _ m (by have:=c.out;omega) (by have:=c.out;omega)).mono ?_;rintro d y ⟨rfl,f,o⟩;have:=f.cell;have z:=Z f;have g:=Z o;clear f o;go_wp2_with fail;refine (zmw base b v (Qz l 0 a) 0 a _ z (by rw [qW];have:=c.out;omega) (by rw [qW];have:=c.out;omega) (by omega)).mono ?_;rintro d _ ⟨⟨_,rfl⟩,h,p⟩;have:=h.cell;have A:=Z h;have q:=Z p;clear h p;go_wp2_with fail;refine (zoI base b v (zL (Qz l 0 a) 0 a) _ A (by rw [zc3,qW];have:=c.out;omega)).mono ?_;rintro d _ ⟨⟨j,rfl⟩,B,r,s,t⟩;have C:=Z r;have D:=Z s;have E:=Z t;clear r s t;go_wp2_with fail;go_ret;refine ⟨⟨_,rfl⟩,B,?_,(g.trans (zaa.refl _ _) q).trans ((zaa.refl _ _)) D,?_⟩
 ·have F:zat l=(zL (Qz l 0 a) 0 a).take ((zL (Qz l 0 a) 0 a).length-1):=by
   rw [zat,zc3,qW,c.out];rfl
  rw [F];exact C
 ·exact ((zaa.refl _ _).trans g.size (zaa.refl _ _)).trans (Nat.le_trans g.size q.size) E
theorem zk8 (x:Int)(w:World):Calls prog 80 #[.int .i64 x] w fun a b=>a= .returned (.bool false)∧b=w:=by
 go_enter func80,ntmps80;go_wp2_with fail;go_ret;exact ⟨by simp,rfl⟩
theorem zaS (x y:Int)(w:World):Calls prog 36 #[.int .i64 x,.int .i64 y] w fun a b=>a= .returned (.bool (decide (x<y)))∧b=w:=by
 go_enter func36,ntmps36;go_wp2_with (go_at_call 80;go_must (refine (zk8 _ _).mono ?_;rintro a b ⟨rfl,rfl⟩));go_ret;exact ⟨rfl,rfl⟩
theorem zkL (w:World):Calls prog 83 #[.int .u64 0] w fun a b=>(∃c,a= .returned (.int .i64 c))∧w=b:=by
 go_enter func83,ntmps83;go_wp2;go_ret;exact ⟨⟨_,rfl⟩,rfl⟩
theorem zkM (w:World):Calls prog 83 #[.int .u64 1] w fun a b=>(∃c,a= .returned (.int .i64 c))∧w=b:=by
 go_enter func83,ntmps83;go_wp2;go_ret;exact ⟨⟨_,rfl⟩,rfl⟩
theorem zkN (w:World):Calls prog 83 #[.int .u64 2] w fun a b=>(∃c,a= .returned (.int .i64 c))∧w=b:=by
 go_enter func83,ntmps83;go_wp2;go_ret;exact ⟨⟨_,rfl⟩,rfl⟩
theorem zfn (v:Value)(n:Nat)(w:World)(c:n≤1):Calls prog 129 #[v,.int .i64 0,.int .i64 n] w fun a b=>a= .returned (.tuple #[])∧w=b:=by
 go_enter func129,ntmps129;go_wp2_with fail;refine wp_loop_rounds 1 ?_;rw [rounds_succ];go_wp2_with fail;go_end0;exact ⟨rfl,rfl⟩
theorem zhI (g b:Nat)(x y:Int)(base:Nat)(w:World)(a:w.ownsRow base 3 1 (.slice (some ⟨g,0,none⟩) 2 b) 2 (ints [x,y]))(c:¬y<x):
  Calls prog 129 #[.slice (some ⟨g,0,none⟩) 2 b,.int .i64 0,.int .i64 2] w fun d e=>d= .returned (.tuple #[])∧∃f,e=w.drewN f:=by
 have h:w.cell? ⟨g,0,none⟩=some (.int .i64 x):=by have:=a.cellAt 0 (by omega);simpa [ints] using this
 have i:w.cell? ⟨g,1,none⟩=some (.int .i64 y):=by have:=a.cellAt 1 (by omega);simpa [ints] using this
 have j:decide (y<x)=false:=by simpa using c
 clear a c;go_enter func129,ntmps129;go_wp2_with fail;refine wp_loop_rounds 2 ?_;rw [rounds_succ];go_wp2_with fail;refine wp_loop_rounds 1 ?_;rw [rounds_succ];go_wp2_with fail;go_quiet ((go_at_call 36;exact Calls.quiet_of_same (zaS _ _ _)));go_wp2_with fail;rw [rounds_succ];go_wp2_with fail;go_end0;exact ⟨rfl,_,rfl⟩
def srt:List Int→List Int
 |[a,b]=>if b<a then [b,a] else [a,b]
 |c=>c
abbrev OFr (v:Value)(w a:World):Prop:=FFr w.heap.size v w a
theorem OFr.drewN (a:OFr v w A)(n:Nat):OFr v w (A.drewN n):=FFr.drewN a n
theorem zgq (g c:Nat)(x y:Int)(base:Nat)(w:World)(b:w.ownsRow base 3 1 (.slice (some ⟨g,0,none⟩) 2 c) 2 (ints [x,y]))(e:y<x):
  Calls prog 129 #[.slice (some ⟨g,0,none⟩) 2 c,.int .i64 0,.int .i64 2] w fun k f=>k= .returned (.tuple #[])∧f.ownsRow base 3 1 (.slice (some ⟨g,0,none⟩) 2 c) 2 (ints [y,x])∧OFr (.slice (some ⟨g,0,none⟩) 2 c) w f:=by
 have p:w.cell? ⟨g,0,none⟩=some (.int .i64 x):=by have:=b.cellAt 0 (by omega);simpa [ints] using this
 have q:w.cell? ⟨g,1,none⟩=some (.int .i64 y):=by have:=b.cellAt 1 (by omega);simpa [ints] using this
 have d:∀h,w.frozen? ⟨g,h,none⟩=false:=by
  intro h;rcases b.2 with ⟨l,_⟩ | ⟨_,_,_,i,_,m,_⟩
  ·exact absurd l (by simp)
  ·simp only [Value.slice.injEq,Option.some.injEq,Addr.mk.injEq] at i
   obtain ⟨⟨rfl,_⟩,_,rfl⟩:=i;simp [World.frozen?,m]
 have r:=d 0;have s:=d 1;have n:=Z (zcE (zcE b 1 (by omega) (.int .i64 x)) 0 (by omega) (.int .i64 y));have t:decide (y<x)=true:=by simpa using e
 clear b e d;go_enter func129,ntmps129;go_wp2_with fail;refine wp_loop_rounds 2 ?_;rw [rounds_succ];go_wp2_with fail;refine wp_loop_rounds 2 ?_;rw [rounds_succ];go_wp2_with fail;go_quiet ((go_at_call 36;exact Calls.quiet_of_same (zaS _ _ _)));go_wp2_with fail;go_region
 all_goals
  go_wp2_with fail;rw [rounds_succ];go_wp2_with fail;go_quiet (fail);go_wp2_with fail;rw [rounds_succ];go_wp2_with fail;go_end0;refine ⟨rfl,?_,FFr.drewN (FFr.setOwn (a:=⟨g,0,none⟩) (FFr.setOwn (a:=⟨g,1,none⟩) (FFr.drewN (FFr.refl _ _ _) _) rfl _) rfl _) _⟩;have o:((ints [x,y]).set 1 (Value.int .i64 x)).set 0 (Value.int .i64 y)=ints [y,x]:=by simp [ints]
  have j:=n.out;rw [o] at j;exact j
theorem zaD {base:Nat}(c:w.ownsRow base e 1 v n D):(n=0∧∃d f,v= .slice d 0 f)∨∃a b,v= .slice (some ⟨a,0,none⟩) n b∧base≤a∧a<w.heap.size∧n≤b∧b≤maxLen:=by
 rcases c.2 with ⟨rfl,rfl⟩ | ⟨a,b,_,rfl,g,h,i,j,_⟩
 ·exact .inl ⟨rfl,_,_,rfl⟩
 ·exact .inr ⟨a,b,rfl,g,qd h,i,j⟩
theorem zfY (v:Value)(n:Nat)(r:Int)(w:World)(c:n≤1):Calls prog 82 #[v,.int .i64 0,.int .i64 n,.int .i64 r] w fun a b=>a= .returned (.tuple #[])∧w=b:=by
 go_enter func82,ntmps82;go_wp2_with fail;refine wp_loop_rounds 1 ?_;rw [rounds_succ];go_wp2_with (go_at_call 129;go_must (refine (zfn v n _ c).mono ?_;rintro a b ⟨rfl,rfl⟩))
 first | go_end0 | refine bodyPost_ret (results_none rfl _ _ _) rfl ?_
 exact ⟨rfl,rfl⟩
theorem zoG (c:World→Prop)(v:Value)(r:Int)(w:World)(d:Calls prog 129 #[v,.int .i64 0,.int .i64 2] w fun a b=>a= .returned (.tuple #[])∧c b):
  Calls prog 82 #[v,.int .i64 0,.int .i64 2,.int .i64 r] w fun a b=>a= .returned (.tuple #[])∧c b:=by
 have f:=Z d;clear d;go_enter func82,ntmps82;go_wp2_with fail;refine wp_loop_rounds 1 ?_;rw [rounds_succ];go_wp2_with (go_at_call 129;go_must (refine f.mono ?_;rintro a b ⟨rfl,e⟩;have g:=Z e;clear e))
 first | go_end0 | refine bodyPost_ret (results_none rfl _ _ _) rfl ?_
 exact ⟨rfl,g⟩
theorem znx (a:Option Addr)(c:Nat)(w:World):Calls prog 42 #[.slice a 0 c] w fun b d=>b= .returned (.tuple #[])∧w=d:=by
 go_enter func42,ntmps42;go_wp2_with (first | (go_at_call 83;go_must (refine (zkL _).mono ?_;rintro b d ⟨⟨_,rfl⟩,rfl⟩)) | (go_at_call 82;go_must (refine (zfY _ 0 _ _ (by omega)).mono ?_;rintro b d ⟨rfl,rfl⟩)));go_end0;exact ⟨rfl,rfl⟩
theorem zpE (a:Option Addr)(c:Nat)(w:World):Calls prog 42 #[.slice a 1 c] w fun b d=>b= .returned (.tuple #[])∧w=d:=by
 go_enter func42,ntmps42;go_wp2_with (first | (go_at_call 83;go_must (refine (zkM _).mono ?_;rintro b d ⟨⟨_,rfl⟩,rfl⟩)) | (go_at_call 82;go_must (refine (zfY _ 1 _ _ (by omega)).mono ?_;rintro b d ⟨rfl,rfl⟩)));go_end0;exact ⟨rfl,rfl⟩
theorem zny (e:World→Prop)(a:Option Addr)(c:Nat)(w:World)(f:Calls prog 129 #[.slice a 2 c,.int .i64 0,.int .i64 2] w fun b d=>b= .returned (.tuple #[])∧e d):
  Calls prog 42 #[.slice a 2 c] w fun b d=>b= .returned (.tuple #[])∧e d:=by
 have h:=Z f;clear f;go_enter func42,ntmps42;go_wp2_with (first | (go_at_call 83;go_must (refine (zkN _).mono ?_;rintro b d ⟨⟨_,rfl⟩,rfl⟩)) | (go_at_call 82;go_must (refine (zoG e _ _ _ h).mono ?_;rintro b d ⟨rfl,g⟩;have i:=Z g;clear g)));go_end0;exact ⟨rfl,i⟩
theorem znz (v:Value)(l:List Int)(base:Nat)(w:World)(m:l.length≤2)(a:w.ownsRow base 3 1 v l.length (ints l)):
  Calls prog 42 #[v] w fun i b=>i= .returned (.tuple #[])∧b.ownsRow base 3 1 v (srt l).length (ints (srt l))∧OFr v w b:=by
 match l,m with
 |[],_=>
  rcases zaD a with ⟨_,n,o,rfl⟩ | ⟨h,d,rfl,_⟩
  ·exact (znx n o w).mono fun i b ⟨f,g⟩=>by subst g;exact ⟨f,a,FFr.refl _ _ _⟩
  ·exact (znx _ d w).mono fun i b ⟨f,g⟩=>by subst g;exact ⟨f,a,FFr.refl _ _ _⟩
 |[c],_=>
  rcases zaD a with ⟨k,_⟩ | ⟨h,d,rfl,_⟩
  ·simp at k
  ·exact (zpE _ d w).mono fun i b ⟨f,g⟩=>by subst g;exact ⟨f,a,FFr.refl _ _ _⟩
 |[c,e],_=>
  rcases zaD a with ⟨k,_⟩ | ⟨h,d,rfl,_⟩
  ·simp at k
  ·by_cases j:e<c
   ·rw [show srt [c,e]=[e,c] by simp [srt,j]]
    exact zny _ _ _ _ (zgq h d c e base w a j)
   ·rw [show srt [c,e]=[c,e] by simp [srt,j]]
    refine zny (fun b=>b.ownsRow base 3 1 (.slice (some ⟨h,0,none⟩) 2 d) 2 (ints [c,e])∧OFr (.slice (some ⟨h,0,none⟩) 2 d) w b) _ _ _ ((zhI h d c e base w a j).mono fun i b ⟨f,p,g⟩=> ?_);subst g;exact ⟨f,a,(FFr.refl _ _ _).drewN p⟩
def zar:List Int→List Int
 |[a,b]=>if a=b then [a] else [a,b]
 |c=>c
theorem Z4 (a:Option Addr)(n c:Nat)(w:World)(e:n≤1):Calls prog 43 #[.slice a n c] w fun b d=>b= .returned (.slice a n c)∧w=d:=by
 go_enter func43,ntmps43;go_wp2_with fail;go_ret;exact ⟨rfl,rfl⟩
theorem ziR (g a:Nat)(x y:Int)(base:Nat)(w:World)(b:w.ownsRow base 3 1 (.slice (some ⟨g,0,none⟩) 2 a) 2 (ints [x,y]))(c:¬x=y):
  Calls prog 43 #[.slice (some ⟨g,0,none⟩) 2 a] w fun d e=>d= .returned (.slice (some ⟨g,0,none⟩) 2 a)∧∃f,e=w.drewN f:=by
 have i:w.cell? ⟨g,0,none⟩=some (.int .i64 x):=by have:=b.cellAt 0 (by omega);simpa [ints] using this
 have j:w.cell? ⟨g,1,none⟩=some (.int .i64 y):=by have:=b.cellAt 1 (by omega);simpa [ints] using this
 have k:(y==x)=false:=by simp;exact fun h=>c h.symm
 clear b c;go_enter func43,ntmps43;go_wp2_with fail;refine wp_loop_rounds 2 ?_;rw [rounds_succ];go_wp2_with fail;go_quiet (fail);go_wp2_with fail;rw [rounds_succ];go_wp2_with fail;go_ret;exact ⟨rfl,_,rfl⟩
theorem zfk:(Builtin.zeroCells #[Value.int .i64 0] 1).toList=[.int .i64 0]:=by first | rfl | kernel_rfl | simp [Builtin.zeroCells]
theorem zfs (w:World)(g c:Nat)(v:Value)(a:w.cell? ⟨g,1,none⟩=some v)(b:w.frozen? ⟨g,1,none⟩=false):
  (Builtin.clear_ #[24] 0 #[.slice (some ⟨g,1,none⟩) 1 c]).run prog w= .ok (.tuple #[]) (w.setCell ⟨g,1,none⟩ (.int .i64 0)):=by
 have d:(zeroValue 3).run prog w= .ok (.int .i64 0) w:=by kernel_rfl
 have e:(Builtin.zeroCells (Value.int .i64 0).cells 1).toList=[.int .i64 0]:=zfk;have f:(storeCells ⟨g,1,none⟩ [.int .i64 0]).run prog w= .ok () (w.setCell ⟨g,1,none⟩ (.int .i64 0)):=by
  simp [storeCells,Addr.add,a,b,Result.andThen,go_sem]
 simp only [Builtin.clear_];simp [run_underlying underlying24,d,e,f,Result.andThen]
theorem ziQ (g b:Nat)(x:Int)(base:Nat)(w:World)(c:w.ownsRow base 3 1 (.slice (some ⟨g,0,none⟩) 2 b) 2 (ints [x,x])):
  Calls prog 43 #[.slice (some ⟨g,0,none⟩) 2 b] w fun j f=>j= .returned (.slice (some ⟨g,0,none⟩) 1 b)∧f.ownsRow base 3 1 (.slice (some ⟨g,0,none⟩) 1 b) 1 (ints [x])∧OFr (.slice (some ⟨g,0,none⟩) 2 b) w f:=by
 have u:w.cell? ⟨g,0,none⟩=some (.int .i64 x):=by have:=c.cellAt 0 (by omega);simpa [ints] using this
 have k:w.cell? ⟨g,1,none⟩=some (.int .i64 x):=by have:=c.cellAt 1 (by omega);simpa [ints] using this
 have l:w.frozen? ⟨g,1,none⟩=false:=by
  rcases c.2 with ⟨h,_⟩ | ⟨m,n,_,d,_,o,_⟩
  ·exact absurd h (by simp)
  ·simp only [Value.slice.injEq,Option.some.injEq,Addr.mk.injEq] at d
   obtain ⟨⟨rfl,_⟩,_,rfl⟩:=d;simp [World.frozen?,o]
 have p:2≤b∧b≤maxLen:=by
  rcases zaD c with ⟨h,_⟩ | ⟨m,n,d,_,_,q,e⟩
  ·omega
  ·simp only [Value.slice.injEq,Option.some.injEq,Addr.mk.injEq] at d
   obtain ⟨_,_,rfl⟩:=d;exact ⟨q,e⟩
 obtain ⟨_,r⟩:=p;unfold maxLen at r;have s:=Z (zia (zcE c 1 (by omega) (.int .i64 0)) 1 (by omega));have v:=fun (t:Nat)=>zfs (w.drewN t) g (b-1) (.int .i64 x) (by simpa using k) (by simpa using l)
 clear c;go_enter func43,ntmps43;go_wp2_with fail;refine wp_loop_rounds 2 ?_;rw [rounds_succ];go_wp2_with fail;go_quiet (fail);go_wp2_with fail;refine wp_loop_rounds 1 ?_;rw [rounds_succ];go_wp2_with fail;go_ret;refine ⟨rfl,?_,?_⟩
 ·have e:((ints [x,x]).set 1 (Value.int .i64 0)).take 1=ints [x]:=by simp [ints]
  have i:=s.out;rw [e] at i;exact i
 ·first
  |exact FFr.setOwn (a:=⟨g,1,none⟩) (FFr.drewN (FFr.refl _ _ _) _) rfl _
  |exact FFr.drewN (FFr.setOwn (a:=⟨g,1,none⟩) (FFr.refl _ _ _) rfl _) _
theorem zhr (v:Value)(l:List Int)(base:Nat)(w:World)(n:l.length≤2)(a:w.ownsRow base 3 1 v l.length (ints l)):
  Calls prog 43 #[v] w fun f d=>∃j,f= .returned j∧d.ownsRow base 3 1 j (zar l).length (ints (zar l))∧OFr v w d∧j.ownBlock=v.ownBlock:=by
 match l,n with
 |[],_=>
  rcases zaD a with ⟨_,o,p,rfl⟩ | ⟨h,g,rfl,_⟩
  ·exact (Z4 o 0 p w (by omega)).mono fun f d ⟨b,e⟩=>by subst e;exact ⟨_,b,a,FFr.refl _ _ _,rfl⟩
  ·exact (Z4 _ 0 g w (by omega)).mono fun f d ⟨b,e⟩=>by subst e;exact ⟨_,b,a,FFr.refl _ _ _,rfl⟩
 |[c],_=>
  rcases zaD a with ⟨k,_⟩ | ⟨h,g,rfl,_⟩
  ·simp at k
  ·exact (Z4 _ 1 g w (by omega)).mono fun f d ⟨b,e⟩=>by subst e;exact ⟨_,b,a,FFr.refl _ _ _,rfl⟩
 |[c,i],_=>
  rcases zaD a with ⟨k,_⟩ | ⟨h,g,rfl,_⟩
  ·simp at k
  ·by_cases m:c=i
   ·subst m
    rw [show zar [c,c]=[c] by simp [zar]];exact (ziQ h g c base w a).mono fun f d ⟨b,q,r⟩=>⟨_,b,q,r,rfl⟩
   ·rw [show zar [c,i]=[c,i] by simp [zar,m]]
    refine (ziR h g c i base w a m).mono fun f d ⟨b,s,e⟩=> ?_
    subst e;exact ⟨_,b,a,(FFr.refl _ _ _).drewN s,rfl⟩
end Go.Proofs.YtklofgfkaaoipaaGreatDoor
namespace Go.Proofs.YtklofgfkaaoipaaGreatDoor
open Go.Proofs.Tryz
def Yj (o:MOp):List Int:=zar (srt (yt o))
theorem Yu (o:MOp):(yt o).length≤2:=by unfold yt;split<;>(try split)<;>(try split)<;>simp
theorem zkx (l:List Int)(x:Int):x∈srt l↔x∈l:=by
 match l with
 |[]=>rfl
 |[a]=>rfl
 |[a,b]=>simp only [srt];split<;>simp [or_comm]
 |_::_::_::_=>rfl
theorem zhc (l:List Int):(srt l).length=l.length:=by
 match l with
 |[]=>rfl
 |[a]=>rfl
 |[a,b]=>simp only [srt];split<;>rfl
 |_::_::_::_=>rfl
theorem zms (l:List Int)(x:Int)(a:x∈zar l):x∈l:=by
 match l with
 |[]=>exact a
 |[b]=>exact a
 |[b,c]=>simp only [zar] at a;split at a<;>simp_all
 |_::_::_::_=>exact a
theorem zmr (l:List Int):(zar l).length≤l.length:=by
 match l with
 |[]=>simp [zar]
 |[a]=>simp [zar]
 |[a,b]=>simp only [zar];split<;>simp
 |_::_::_::_=>simp [zar]
theorem zhX (o:MOp):(Yj o).length≤2:=Nat.le_trans (zmr _) (by rw [zhc];exact Yu o)
theorem zdz (o:MOp)(x:Int)(a:x∈Yj o):x∈yt o:=(zkx _ _).1 (zms _ _ a)
theorem zhh {o:MOp}{d e:Int}(h:(qq o d e).2=true)(x:Int)(b:x∈yt o):(x=o.a∧(qq o d e).1.a≠0)∨(x=o.b∧(qq o d e).1.b≠0):=by
 by_cases k:o.kind=1
 ·simp [yt,k] at b
 by_cases f:o.kind=17
 ·have m:=ZA h f
  have g:qq o d e=(⟨yX o.c,if o.k=1 then 0 else yX (o.c / 2),2,4,true,false,2⟩,true):=by
   have:¬((17:Int)=1):=by decide
   simp only [qq,f,if_true,if_neg this,ye,if_pos m]
  have i:∀l,yX l≠0:=by intro l;unfold yX;split<;>decide
  by_cases j:o.k=1
  ·have c:x=o.a:=by simpa [yt,f,j] using b
   exact .inl ⟨c,by rw [g];exact i _⟩
  ·have c:x=o.a∨x=o.b:=by simpa [yt,f,j] using b
   rcases c with c | c
   ·exact .inl ⟨c,by rw [g];exact i _⟩
   ·exact .inr ⟨c,by rw [g];simp only [if_neg j];exact i _⟩
 have g:qq o d e=qu o.kind:=by simp [qq,k,f]
 rw [g] at h ⊢;rcases zS _ h with a | a | a | a | a | a | a | a | a | a | a | a | a | a | a | a | a<;>
  simp [yt,a] at b<;>rw [a]<;>first | exact .inl ⟨b,by decide⟩ | (rcases b with b | b;exact .inl ⟨b,by decide⟩;exact .inr ⟨b,by decide⟩)
theorem Zr {ops:List MOp}(b:qK ops 65536 65536=true)(k:Nat)(c:k<ops.length)(x:Int)(e:x∈yt ops[k]):0≤x∧x<k:=by
 have d:=zaq b k c;rcases zhh (zQ b k c) x e with ⟨rfl,a⟩ | ⟨rfl,a⟩
 ·exact d.1 a
 ·exact d.2 a
def QO (a:List Int)(k:Nat)(o:MOp):List Int:=(yt o).foldl (fun b c=>b.set c.toNat k) (a.set k k)
def Q9:List MOp→Nat→List Int→List Int
 |[],_,a=>a
 |c::d,b,a=>Q9 d (b+1) (QO a b c)
def zx (ops:List MOp):List Int:=Q9 ops 0 (List.replicate ops.length 0)
theorem zfm (l:List Int)(k:Int):∀a:List Int,(l.foldl (fun a b=>a.set b.toNat k) a).length=a.length:=by
 induction l with
 |nil=>intro a;rfl
 |cons b l ih=>intro a;rw [List.foldl_cons,ih];simp
theorem zax (a:List Int)(k:Nat)(o:MOp):(QO a k o).length=a.length:=by rw [QO,zfm];simp
theorem zew:∀(a:List MOp) (c:Nat) (b:List Int),(Q9 a c b).length=b.length
 |[],_,_=>rfl
 |d::a,c,b=>by rw [Q9,zew a,zax]
theorem zc9 (ops:List MOp):(zx ops).length=ops.length:=by rw [zx,zew];simp
def zad (b c:List Int)(k:Nat)(f:List Int)(a:Int):List Int:=if b.getD a.toNat 0=k then ZD f (c.getD a.toNat 0) else f
structure SlotSt where
 slots:List Int
 arena:Int
 free:List Int
def Ze (a:List Int)(k:Nat)(o:MOp)(s:SlotSt):List Int:=(Yj o).foldl (zad a s.slots k) s.free
def ZM (k:Nat)(s:SlotSt)(f:List Int):SlotSt:=if 0<f.length then ⟨s.slots.set k (f.getD 0 0),s.arena,zat f⟩ else ⟨s.slots.set k s.arena,s.arena+1,f⟩
def zan (a:List Int)(k:Nat)(s:SlotSt):SlotSt:=if a.getD k 0=k then {s with free:=ZD s.free (s.slots.getD k 0)} else s
def ZN (a:List Int)(k:Nat)(o:MOp)(s:SlotSt):SlotSt:=zan a k (ZM k s (Ze a k o s))
def Yn (b:List Int):List MOp→Nat→SlotSt→SlotSt
 |[],_,a=>a
 |d::e,c,a=>Yn b e (c+1) (ZN b c d a)
def Zk (n:Nat):SlotSt:=⟨List.replicate n 0,0, []⟩
def Qb (ops:List MOp):List Int×Int:=
 if qK ops 65536 65536 then let a:=Yn (zx ops) ops 0 (Zk ops.length);(a.slots,a.arena) else ([],0)
end Go.Proofs.YtklofgfkaaoipaaGreatDoor

/-
  THE PLAIN MIRROR of lex.Scan: bytes as tokens; and its laws.
-/
import Derived.KernelRfl
import Derived.Lib.IndexLaws
import Derived.Lib.AtoiAll
import Derived.Test.YtklofgfkaaoipaaGreatDoorMMem
import Derived.Laws.BytesArg
import Derived.Deep.LoopGhost
import Derived.Deep.QuietTactic
import Derived.BigQuiet
import Derived.IntWalk
import Derived.WalkSpells
import Derived.Test.YtklofgfkaaoipaaGreatDoorShelf
import Derived.StillTailTactics
import Derived.Deep.RegionHeld3
import Derived.Deep.RegionWith
import Derived.Laws.Rows
import Derived.RegionTactic
import Derived.Lib.ParseIntBCases
import Derived.Lib.AtoiErrMem
import Derived.BigRegion
import Derived.Deep.RegionLaw
import Derived.Test.YtklofgfkaaoipaaGreatDoorMHd
set_option maxHeartbeats 16000000
set_option maxRecDepth 100000
set_option linter.unusedSimpArgs false
set_option linter.unusedVariables false
namespace Go.Proofs.YtklofgfkaaoipaaGreatDoor
open Go.Proofs.Tryz
structure MTok where
 kind:Nat
 text:List Nat
 num:Nat
 pos:Nat
def qZ (c:Nat):Bool:=decide (48≤c)&&decide (c≤57)
def yR (c:Nat):Bool:=(decide (97≤c)&&decide (c≤122))||c==95
def zbp (c:Nat):Bool:=c==32||c==10||c==9||c==13
def zJ:Bool→List Nat→List Nat
 |_, []=>[]
 |true,b::a=>if b=10 then zJ false a else zJ true a
 |false,b::a=>if b=35 then zJ true a else if zbp b then zJ false a else b::a
def za5 (n:Nat)(l:List Nat):Nat:=l.foldl (fun n a=>n * 10+(a-48)) n
def zdn:List (List Nat):=[[105,110,112,117,116], [108,101,116], [111,117,116,112,117,116], [114,101,108,117], [115,117,109], [97,114,103,109,97,120], [109,97,120], [109,117,120]]
def zjZ:List Nat:=[43,45,42,64,60,61,40,41,91,93,44,59]
def Q7 (c:Nat):Bool:=yR c||qZ c
def zh8 (pos:Nat)(c:Nat)(r:List Nat):Option MTok:=
 if qZ c then
  let a:=(c::r).takeWhile qZ
  if za5 0 a<18446744073709551616∧(c≠48∨a.length=1)∧((((c::r).drop a.length).head?.map yR).getD false=false) then some ⟨2,a,za5 0 a,pos⟩ else none
 else if yR c∧c≠95 then
  let a:=(c::r).takeWhile Q7
  if a.length≤16 then some ⟨if zdn.contains a then 4 else 1,a,0,pos⟩ else none
 else if c=62∧r.head? =some 62 then some ⟨3, [62,62],0,pos⟩
 else if zjZ.contains c then some ⟨3, [c],0,pos⟩ else none
def zbM (n0:Nat):Nat→List Nat→List MTok→Except Int (List MTok)
 |0,_,_=> .error 120
 |_+1, [],a=> .ok (a++[⟨0, [],0,n0⟩])
 |e+1,b::c,a=>match zh8 (n0-(b::c).length) b c with
   |none=> .error 120
   |some d=>if a.length=512 then .error 5 else zbM n0 e (zJ false ((b::c).drop d.text.length)) (a++[d])
def zfN (l:List Nat):Except Int (List MTok):=if 4096<l.length then .error 3 else zbM l.length (l.length+1) (zJ false l) []
theorem Qy:∀(b:List Nat) (e:Bool),∃a,a≤b.length∧zJ e b=b.drop a
 |[],e=>⟨0,by simp,by simp [zJ]⟩
 |f::b,true=>by
  unfold zJ
  split
  ·obtain ⟨a,c,d⟩:=Qy b false;exact ⟨a+1,by simpa using c,by simpa using d⟩
  ·obtain ⟨a,c,d⟩:=Qy b true;exact ⟨a+1,by simpa using c,by simpa using d⟩
 |f::b,false=>by
  unfold zJ
  split
  ·obtain ⟨a,c,d⟩:=Qy b true;exact ⟨a+1,by simpa using c,by simpa using d⟩
  ·split
   ·obtain ⟨a,c,d⟩:=Qy b false;exact ⟨a+1,by simpa using c,by simpa using d⟩
   ·exact ⟨0,by simp,rfl⟩
theorem zj0 (a:List Nat)(k:Nat)(b:k<a.length)(c:zbp a[k]=true)(d:a[k]≠35):zJ false (a.drop k)=zJ false (a.drop (k+1)):=by
 rw [List.drop_eq_getElem_cons b,zJ,if_neg d,if_pos c]
theorem zlY (a:List Nat)(k:Nat)(b:k<a.length)(c:zbp a[k]=false)(d:a[k]≠35):zJ false (a.drop k)=a.drop k:=by
 rw [List.drop_eq_getElem_cons b,zJ,if_neg d,if_neg (by simp [c])]
theorem zlX (a:List Nat)(k:Nat)(b:k<a.length)(c:a[k]=35):zJ false (a.drop k)=zJ true (a.drop k):=by
 rw [List.drop_eq_getElem_cons b,zJ,zJ,if_pos c,if_neg (by omega)]
def yA (l:List UInt8):List Nat:=l.map UInt8.toNat
theorem ze3:∀(b:List UInt8) (c:Int),Lib.indexByte b 10=c→(c<0→zJ true (yA b)=[])∧(0≤c→zJ true (yA b)=zJ false ((yA b).drop (c.toNat+1))∧c.toNat<b.length)
 |[],c,a=>by
  simp only [Lib.indexByte] at a;subst a;exact ⟨fun _=>rfl,fun a=>by omega⟩
 |d::b,c,a=>by
  simp only [Lib.indexByte] at a
  by_cases e:d=10
  ·subst e
   simp only [BEq.rfl,if_true] at a;subst a;exact ⟨fun a=>by omega,fun _=>⟨by simp [yA,zJ],by simp⟩⟩
  ·rw [if_neg (by simpa using e)] at a
   have g:d.toNat≠10:=fun h=>e (UInt8.toNat_inj.1 (by rw [h];rfl))
   have:=Lib.indexByte_ge b 10;have ih:=ze3 b (Lib.indexByte b 10) rfl;have i:zJ true (yA (d::b))=zJ true (yA b):=by simp [yA,zJ,g]
   rw [i]
   by_cases f:Lib.indexByte b 10= -1
   ·rw [if_pos (by simpa using f)] at a
    subst a;exact ⟨fun _=>ih.1 (by omega),fun a=>by omega⟩
   ·rw [if_neg (by simpa using f)] at a
    subst a;refine ⟨fun a=>by omega,fun _=> ?_⟩;obtain ⟨j,_⟩:=ih.2 (by omega);rw [j,show (Lib.indexByte b 10+1).toNat=(Lib.indexByte b 10).toNat+1 by omega];exact ⟨by simp [yA],by simp;omega⟩
theorem zeM:∀(b:List Nat) (a:Nat),a≤za5 a b
 |[],a=>Nat.le_refl _
 |c::b,a=>Nat.le_trans (by omega) (zeM b (a * 10+(c-48)))
theorem zcI:∀(b:List UInt8) (a:Nat),(∀c∈yA b,qZ c=true)→a<18446744073709551616→
  Lib.parseUint10 a b=if za5 a (yA b)<18446744073709551616 then .ok (za5 a (yA b)) else .range
 |[],a,_,d=>by simp [Lib.parseUint10,za5,yA,d]
 |c::b,a,e,d=>by
  have h:qZ c.toNat=true:=e _ (by simp [yA]);have i:48≤c.toNat∧c.toNat≤57:=by simpa [qZ] using h
  have j:za5 a (yA (c::b))=za5 (a * 10+(c.toNat-48)) (yA b):=rfl;have:=zeM (yA b) (a * 10+(c.toNat-48));rw [Lib.parseUint10,if_pos i,j]
  by_cases f:1844674407370955162≤a
  ·rw [if_pos f,if_neg (by omega)]
  ·rw [if_neg f]
   by_cases g:18446744073709551616≤a * 10+(c.toNat-48)
   ·rw [if_pos g,if_neg (by omega)]
   ·rw [if_neg g]
    exact zcI b _ (fun k l=>e k (by simp only [yA,List.map_cons,List.mem_cons];exact .inr l)) (by omega)
end Go.Proofs.YtklofgfkaaoipaaGreatDoor
namespace Go.Proofs.YtklofgfkaaoipaaGreatDoor
open Go.RowKit Go.Proofs.Tryz
variable {w W:World}{t:List Value}{a b c d:Value}
def qx (a:List Nat):ByteArray:=strOfNums (a.map Int.ofNat)
def qF (s:ByteArray):List Nat:=yA s.data.toList
theorem zO (s:ByteArray):(qF s).length=s.size:=by rw [qF,yA,List.length_map,Array.length_toList];rfl
theorem zbr (s:ByteArray)(k:Nat)(a:k<s.size):(qF s)[k]'(by rw [zO];exact a)=(s[k]).toNat:=by
 simp only [qF,yA,List.getElem_map,Array.getElem_toList];rfl
theorem zm8 (s:ByteArray):∀a∈qF s,a<256:=by
 intro a b;simp only [qF,yA,List.mem_map] at b;obtain ⟨c,_,rfl⟩:=b;exact c.toNat_lt
theorem zgC (s:ByteArray)(x:List UInt8):(qF s==yA x)=(s.toList==x):=by
 rw [ByteArray.toList_eq,Bool.eq_iff_iff,beq_iff_eq,beq_iff_eq];exact ⟨fun a=>(List.map_inj_right fun _ _=>UInt8.toNat_inj.1).1 a,fun a=>by rw [qF,a]⟩
abbrev zj6 (t:MTok):Value:= .agg #[.int .i64 t.kind,.string (qx t.text),.int .u64 t.num,.int .i64 t.pos]
theorem zaI (s:ByteArray)(l:List Nat)(a:yA s.data.toList=l):qx l=s:=by
 apply WideShapes.bytes_inj
 rw [←a];simp only [qx,strOfNums_data,yA,List.map_map]
 conv=>rhs;rw [←List.map_id s.data.toList]
 apply List.map_congr_left
 intro _ _;simp
theorem QA:(prog.info? 217).map (·.size)=some 4:=by kernel_rfl
abbrev MTok.cells (t:MTok):List Value:=[.int .i64 t.kind,.string (qx t.text),.int .u64 t.num,.int .i64 t.pos]
def Yd (l:List MTok):List Value:=l.flatMap MTok.cells
theorem zbO (a b:List MTok):Yd (a++b)=Yd a++Yd b:=by simp [Yd]
theorem zfC:(prog.info? 217).map (fun a=>(a.zero,a.size,a.bytes))=some (some (.agg #[.int .i64 0,.string ⟨#[]⟩,.int .u64 0,.int .i64 0]),4,40):=by kernel_rfl
theorem zf7 (l:List Nat):(qx l).size=l.length:=by
 show (qx l).data.size=_;rw [←Array.length_toList,qx,strOfNums_data];simp
theorem zaB {l:List Nat}(a:∀b∈l,b<256):qF (qx l)=l:=by
 simp only [qF,yA,qx,strOfNums_data,List.map_map];refine (List.map_congr_left fun c d=> ?_).trans (List.map_id l);have:=a c d;simp;omega
theorem zT (c:Nat)(w:World):Calls prog 144 #[.int .u8 c] w fun a b=>a= .returned (.bool (qZ c))∧w=b:=by
 by_cases d:(48:Int)≤c
 ·by_cases e:(c:Int)≤57
  ·rw [show qZ c=true by simp [qZ];omega]
   go_enter func144,ntmps144;go_wp2;go_ret;exact ⟨rfl,rfl⟩
  ·have:(57:Int)<c:=by omega
   rw [show qZ c=false by simp [qZ];omega];go_enter func144,ntmps144;go_wp2;go_ret;exact ⟨rfl,rfl⟩
 ·have:(c:Int)<48:=by omega
  rw [show qZ c=false by simp [qZ];omega];go_enter func144,ntmps144;go_wp2;go_ret;exact ⟨rfl,rfl⟩
theorem Qw (c:Nat)(w:World):Calls prog 147 #[.int .u8 c] w fun e f=>e= .returned (.bool (yR c))∧w=f:=by
 by_cases a:97≤c∧c≤122
 ·have g:(97:Int)≤c:=by omega
  have d:(c:Int)≤122:=by omega
  rw [show yR c=true by simp [yR,a]];clear a;go_enter func147,ntmps147;go_wp2;go_ret;exact ⟨rfl,rfl⟩
 ·by_cases b:c=95
  ·subst b
   go_enter func147,ntmps147;go_wp2;go_ret;exact ⟨rfl,rfl⟩
  ·have:((c:Int)==95)=false:=by simp;omega
   rw [show yR c=false by simp [yR];omega]
   by_cases g:(97:Int)≤c
   ·have d:¬(c:Int)≤122:=by omega
    have:(122:Int)<c:=by omega
    clear a b;go_enter func147,ntmps147;go_wp2;go_ret;exact ⟨rfl,rfl⟩
   ·have d:(c:Int)<97:=by omega
    clear a b;go_enter func147,ntmps147;go_wp2;go_ret;exact ⟨rfl,rfl⟩
theorem zfS (c:Nat)(w:World):Calls prog 148 #[.int .u8 c] w fun a b=>a= .returned (.bool (Q7 c))∧w=b:=by
 unfold Q7;rcases h:yR c with _ | _
 ·have d:=Z h
  clear h;go_enter func148,ntmps148;go_wp2_with (first | (go_at_call 147;refine (Qw c _).mono ?_;rw [d.out];rintro a b ⟨rfl,rfl⟩) | (go_at_call 144;refine (zT c _).mono ?_;rintro a b ⟨rfl,rfl⟩));go_ret;exact ⟨by simp,rfl⟩
 ·have d:=Z h
  clear h;go_enter func148,ntmps148;go_wp2_with (go_at_call 147;refine (Qw c _).mono ?_;rw [d.out];rintro a b ⟨rfl,rfl⟩);go_ret;exact ⟨by simp,rfl⟩
theorem ziI (s:ByteArray)(w:World):Calls prog 149 #[.string s] w fun a b=>a= .returned (.bool (zdn.contains (qF s)))∧w=b:=by
 rw [show zdn=[yA [105,110,112,117,116],yA [108,101,116],yA [111,117,116,112,117,116],yA [114,101,108,117],yA [115,117,109],yA [97,114,103,109,97,120],yA [109,97,120],yA [109,117,120]] from rfl];simp only [List.contains_cons,zgC,List.contains_nil];rcases k0:(s.toList==[105,110,112,117,116]) with _ | _
 rotate_left
 ·(go_enter func149,ntmps149;go_wp2;go_ret;exact ⟨rfl,rfl⟩)
 rcases k1:(s.toList==[108,101,116]) with _ | _
 rotate_left
 ·(go_enter func149,ntmps149;go_wp2;go_ret;exact ⟨rfl,rfl⟩)
 rcases k2:(s.toList==[111,117,116,112,117,116]) with _ | _
 rotate_left
 ·(go_enter func149,ntmps149;go_wp2;go_ret;exact ⟨rfl,rfl⟩)
 rcases k3:(s.toList==[114,101,108,117]) with _ | _
 rotate_left
 ·(go_enter func149,ntmps149;go_wp2;go_ret;exact ⟨rfl,rfl⟩)
 rcases k4:(s.toList==[115,117,109]) with _ | _
 rotate_left
 ·(go_enter func149,ntmps149;go_wp2;go_ret;exact ⟨rfl,rfl⟩)
 rcases k5:(s.toList==[97,114,103,109,97,120]) with _ | _
 rotate_left
 ·(go_enter func149,ntmps149;go_wp2;go_ret;exact ⟨rfl,rfl⟩)
 rcases k6:(s.toList==[109,97,120]) with _ | _
 rotate_left
 ·(go_enter func149,ntmps149;go_wp2;go_ret;exact ⟨rfl,rfl⟩)
 rcases k7:(s.toList==[109,117,120]) with _ | _
 rotate_left
 ·(go_enter func149,ntmps149;go_wp2;go_ret;exact ⟨rfl,rfl⟩)
 (go_enter func149,ntmps149;go_wp2;go_ret;exact ⟨rfl,rfl⟩)
def Zj (a:List Nat)(k:Nat):Nat:=a.length-(zJ false (a.drop k)).length
theorem zdP (a:List Nat)(k:Nat)(e:k≤a.length):a.drop (Zj a k)=zJ false (a.drop k)∧Zj a k≤a.length∧k≤Zj a k:=by
 obtain ⟨b,c,d⟩:=Qy (a.drop k) false;unfold Zj;rw [List.length_drop] at c;rw [d,List.drop_drop,List.length_drop,show a.length-(a.length-(k+b))=k+b by omega];exact ⟨rfl,by omega,by omega⟩
theorem zf6 {a:List Nat}{k j:Nat}(b:zJ false (a.drop j)=zJ false (a.drop k))(d:j≤a.length)(c:zJ false (a.drop j)=a.drop j):Zj a k=j:=by
 unfold Zj;rw [←b,c,List.length_drop];omega
theorem zgp (s:ByteArray)(j:Nat):qF (s.extract j s.size)=(qF s).drop j:=by
 rw [qF,Lib.extract_to_end,qF,yA,yA,List.map_drop]
theorem ziw (s:ByteArray)(k:Nat)(w:World)(y:k≤s.size)(F:s.size≤4096):
  Calls prog 98 #[.string s,.int .i64 k] w fun i j=>i= .returned (.int .i64 (Zj (qF s) k))∧w=j:=by
 have d:=Z (zO s);go_enter func98,ntmps98;go_wp2_with fail;go_loop [1,5] (fun l _=>∃a:Nat,a≤s.size∧l= .int .i64 a∧Hid (zJ false ((qF s).drop a)=zJ false ((qF s).drop k))) (fun l _=>s.size-(intOf l).toNat)
 case atStart=>exact ⟨k,y,rfl,rfl⟩
 case round=>
  obtain ⟨a,z,rfl,f⟩:=hrel
  by_cases r:a<s.size
  ·have e:a<(qF s).length:=by rw [d.out];exact r
   have b:=zbr s a r
   by_cases c:s[a].toNat=35
   ·have A:((s[a].toNat:Int)==35)=true:=by simp [c]
    have t:=Z (zlX (qF s) a e (by rw [b];exact c));have m:=Z (ze3 (s.extract a s.size).data.toList _ rfl);have h:=Z (show yA (s.extract a s.size).data.toList=(qF s).drop a from zgp s a);have u:(s.extract a s.size).data.toList.length=s.size-a:=by have:=congrArg List.length h;rw [List.length_drop,d.out,yA,List.length_map] at this;exact this
    have B:=Z u;clear b c e u;obtain ⟨g,n⟩:∃g,g=Lib.indexByte (s.extract a s.size).data.toList 10:=⟨_,rfl⟩;rw [←n] at m;have v:=Z n;clear n
    by_cases C:g<0
    ·have o:=Z ((m.1 C))
     go_wp2_with (go_at_call 143;refine (Tryz.strings_IndexByte _ _ _).mono ?_;rintro i j ⟨rfl,rfl⟩;rw [show Int.toNat 10=10 from rfl,show Nat.toUInt8 10=10 from rfl,←v.out]);go_ret;refine ⟨QL ?_,rfl⟩;rw [Zj,←f.out,t.out,←h.out,o.out,d.out];rfl
    ·have x:0≤g:=by omega
     have p:=m.2 x;have G:g+a<s.size:=by have:=p.2;rw [B.out] at this;omega
     have o:=Z p.1;clear p;obtain ⟨D,rfl⟩:=Int.eq_ofNat_of_zero_le x;go_wp2_with (go_at_call 143;refine (Tryz.strings_IndexByte _ _ _).mono ?_;rintro i j ⟨rfl,rfl⟩;rw [show Int.toNat 10=10 from rfl,show Nat.toUInt8 10=10 from rfl,←v.out]);go_round
     case rel=>
      refine ⟨a+D+1,by omega,by go_num,?_⟩;unfold Hid;rw [←f.out,t.out,←h.out,o.out,h.out,List.drop_drop,Int.toNat_natCast,Nat.add_assoc]
     case measure=>simp [intOf];omega
   ·have A:((s[a].toNat:Int)==35)=false:=by simp;omega
    rcases hb:zbp s[a].toNat with _ | _
    ·have q:=Z (zlY (qF s) a e (by rw [b];exact hb) (by rw [b];exact c))
     simp only [zbp,Bool.or_eq_false_iff,beq_eq_false_iff_ne,ne_eq] at hb;have k1:((s[a].toNat:Int)==32)=false:=by simp;omega
     have k2:((s[a].toNat:Int)==10)=false:=by simp;omega
     have k3:((s[a].toNat:Int)==9)=false:=by simp;omega
     have k4:((s[a].toNat:Int)==13)=false:=by simp;omega
     clear hb b c e;go_wp2_with fail;go_ret;exact ⟨QL (by rw [zf6 f.out (by rw [d.out];exact z) q.out]),rfl⟩
    ·have q:=Z (zj0 (qF s) a e (by rw [b];exact hb) (by rw [b];exact c))
     simp only [zbp,Bool.or_eq_true,beq_iff_eq] at hb;have E:((s[a].toNat:Int)==32)=true∨((s[a].toNat:Int)==32)=false∧((s[a].toNat:Int)==10)=true∨((s[a].toNat:Int)==32)=false∧((s[a].toNat:Int)==10)=false∧((s[a].toNat:Int)==9)=true∨((s[a].toNat:Int)==32)=false∧((s[a].toNat:Int)==10)=false∧((s[a].toNat:Int)==9)=false∧((s[a].toNat:Int)==13)=true:=by simp;omega
     clear hb b c e;rcases E with k1 | ⟨k1,k2⟩ | ⟨k1,k2,k3⟩ | ⟨k1,k2,k3,k4⟩
     all_goals
      go_wp2_with fail;go_round
      case rel=>exact ⟨a+1,by omega,by go_num,by rw [←f.out,q.out];rfl⟩
      case measure=>simp [intOf];omega
  ·obtain rfl:a=s.size:=by omega
   go_wp2_with fail;go_ret;refine ⟨QL ?_,rfl⟩;rw [zf6 f.out (by rw [d.out];exact Nat.le_refl _) (by rw [List.drop_of_length_le (by rw [d.out];exact Nat.le_refl _)];rfl)]
theorem ZL (s:ByteArray)(k:Nat)(w:World)(l:k≤s.size)(m:s.size≤4096):
  Calls prog 145 #[.string s,.int .i64 k,.func (.func 144) #[] #[]] w fun e f=>e= .returned (.int .i64 (((qF s).drop k).takeWhile qZ).length)∧w=f:=by
 have i:=Z (zO s);go_enter func145,ntmps145;go_wp2_with fail;go_loop [7] (fun g=>∃a:Nat,k+a≤s.size∧g= .int .i64 a∧Hid ((((qF s).drop k).takeWhile qZ).length=a+(((qF s).drop (k+a)).takeWhile qZ).length)) (fun g=>s.size-(intOf g).toNat)
 case atStart=>exact ⟨0,l,rfl,by unfold Hid;rw [Nat.zero_add];rfl⟩
 case round=>
  obtain ⟨a,_,rfl,b⟩:=hrel
  by_cases j:k+a<s.size
  ·have d:(qF s).drop (k+a)=s[k+a].toNat::(qF s).drop (k+a+1):=by rw [List.drop_eq_getElem_cons (by rw [i.out];exact j),zbr s _ j]
   rcases hp:qZ s[k+a].toNat with _ | _
   ·have c:=Z (show (((qF s).drop k).takeWhile qZ).length=a by rw [b.out,d,List.takeWhile_cons,hp];rfl)
    have h:=Z hp;clear d hp b;go_wp2_with (go_at_call 144;refine (zT _ _).mono ?_;rw [h.out];rintro e f ⟨rfl,rfl⟩);go_ret;exact ⟨by rw [c.out];rfl,rfl⟩
   ·have c:=Z (show (((qF s).drop k).takeWhile qZ).length=a+1+(((qF s).drop (k+(a+1))).takeWhile qZ).length by rw [b.out,d,List.takeWhile_cons,hp,if_pos rfl,List.length_cons];simp only [Nat.add_assoc];omega)
    have h:=Z hp;clear d hp b;go_wp2_with (go_at_call 144;refine (zT _ _).mono ?_;rw [h.out];rintro e f ⟨rfl,rfl⟩);go_round
    case rel=>exact ⟨a+1,by omega,by go_num,c⟩
    case measure=>simp [intOf];omega
  ·have c:=Z (show (((qF s).drop k).takeWhile qZ).length=a by rw [b.out,List.drop_of_length_le (by rw [i.out];omega)];rfl)
   have:(s.size:Int)≤(k:Int)+(a:Int):=by omega
   go_wp2_with fail;go_ret;exact ⟨by rw [c.out];rfl,rfl⟩
theorem zit (s:ByteArray)(k:Nat)(w:World)(l:k≤s.size)(m:s.size≤4096):
  Calls prog 145 #[.string s,.int .i64 k,.func (.func 148) #[] #[]] w fun e f=>e= .returned (.int .i64 (((qF s).drop k).takeWhile Q7).length)∧w=f:=by
 have i:=Z (zO s);go_enter func145,ntmps145;go_wp2_with fail;go_loop [7] (fun g=>∃a:Nat,k+a≤s.size∧g= .int .i64 a∧Hid ((((qF s).drop k).takeWhile Q7).length=a+(((qF s).drop (k+a)).takeWhile Q7).length)) (fun g=>s.size-(intOf g).toNat)
 case atStart=>exact ⟨0,l,rfl,by unfold Hid;rw [Nat.zero_add];rfl⟩
 case round=>
  obtain ⟨a,_,rfl,b⟩:=hrel
  by_cases j:k+a<s.size
  ·have d:(qF s).drop (k+a)=s[k+a].toNat::(qF s).drop (k+a+1):=by rw [List.drop_eq_getElem_cons (by rw [i.out];exact j),zbr s _ j]
   rcases hp:Q7 s[k+a].toNat with _ | _
   ·have c:=Z (show (((qF s).drop k).takeWhile Q7).length=a by rw [b.out,d,List.takeWhile_cons,hp];rfl)
    have h:=Z hp;clear d hp b;go_wp2_with (go_at_call 148;refine (zfS _ _).mono ?_;rw [h.out];rintro e f ⟨rfl,rfl⟩);go_ret;exact ⟨by rw [c.out];rfl,rfl⟩
   ·have c:=Z (show (((qF s).drop k).takeWhile Q7).length=a+1+(((qF s).drop (k+(a+1))).takeWhile Q7).length by rw [b.out,d,List.takeWhile_cons,hp,if_pos rfl,List.length_cons];simp only [Nat.add_assoc];omega)
    have h:=Z hp;clear d hp b;go_wp2_with (go_at_call 148;refine (zfS _ _).mono ?_;rw [h.out];rintro e f ⟨rfl,rfl⟩);go_round
    case rel=>exact ⟨a+1,by omega,by go_num,c⟩
    case measure=>simp [intOf];omega
  ·have c:=Z (show (((qF s).drop k).takeWhile Q7).length=a by rw [b.out,List.drop_of_length_le (by rw [i.out];omega)];rfl)
   have:(s.size:Int)≤(k:Int)+(a:Int):=by omega
   go_wp2_with fail;go_ret;exact ⟨by rw [c.out];rfl,rfl⟩
def YP (w:World):Prop:=∃a,w.cell? ⟨3,0,none⟩=some a∧(a= .nilIface∨∃b c,a= .iface b c)
theorem YP.below {a:World}(b:YP w)(c:Below w.heap.size w a):YP a:=by
 obtain ⟨d,e,f⟩:=b;exact ⟨d,cell_later c e,f⟩
def MTok.arr (t:MTok):Array Value:=#[.int .i64 t.kind,.string (qx t.text),.int .u64 t.num,.int .i64 t.pos]
theorem zcl (s:ByteArray)(j n:Nat):yA (s.extract j (j+n)).data.toList=((qF s).drop j).take n:=by
 rw [Lib.extract_data,qF,yA,yA];simp [List.map_drop,List.map_take]
def ZU (w:World)(r:Option MTok)(e:Ending)(a:World):Prop:=
 Below w.heap.size w a∧match r with
  |some b=>e= .returned (.tuple #[zj6 b,.bool true])
  |none=>∃(c:Int) (d:ByteArray) (f g:Int),e= .returned (.tuple #[.agg #[.int .i64 c,.string d,.int .u64 f,.int .i64 g],.bool false])
theorem zfd {a b:Obj}:((w.alloc a).alloc b).heap[w.heap.size]? =some a:=heap_alloc2_old _ _ _
theorem zgQ (s:ByteArray)(k:Nat)(a:k<s.size):(qF s).drop k=s[k].toNat::(qF s).drop (k+1):=by
 rw [List.drop_eq_getElem_cons (by rw [zO];exact a),zbr s _ a]
theorem zlA (s:ByteArray)(k:Nat)(w:World)(i:k<s.size)(a:qZ s[k].toNat=false)(b:yR s[k].toNat=false)(c:Lib.hasPrefix (s.extract k s.size).data.toList [62,62]=true):
  Calls prog 99 #[.string s,.int .i64 k] w (ZU w (some ⟨3, [62,62],0,k⟩)):=by
 have f:=Z a;have g:=Z b;have h:=Z c;clear a b c;go_enter func99,ntmps99;go_wp2_with (first | (go_at_call 144;refine (zT _ _).mono ?_;rw [f.out];rintro d e ⟨rfl,rfl⟩) | (go_at_call 147;refine (Qw _ _).mono ?_;rw [g.out];rintro d e ⟨rfl,rfl⟩) | (go_at_call 150;refine (Tryz.strings_HasPrefix _ _ _).mono ?_;rw [h.out];rintro d e ⟨rfl,rfl⟩));exact bodyPost_ret (ql rfl _ _ w.heap.size 217 _ _ _ rfl zfd underlying217 rfl QA) rfl ⟨qm _ _ _,rfl⟩
theorem zoB (c:UInt8):qx [c.toNat]=⟨#[c]⟩:=zaI ⟨#[c]⟩ _ rfl
theorem zlz (s:ByteArray)(k:Nat)(w:World)(r:k<s.size)(u:s.size≤4096)(g:qZ s[k].toNat=false)(h:yR s[k].toNat=false∨s[k].toNat=95)(i:Lib.hasPrefix (s.extract k s.size).data.toList [62,62]=false)
  (b:Bool) (j:decide (0≤Lib.indexByte [43,45,42,64,60,61,40,41,91,93,44,59] s[k])=b):
  Calls prog 99 #[.string s,.int .i64 k] w (ZU w (if b then some ⟨3, [s[k].toNat],0,k⟩ else none)):=by
 have l:=Z g;have m:=Z i;have n:s.extract k (k+1)=⟨#[s[k]]⟩:=by
  apply WideShapes.bytes_inj
  rw [Lib.extract_data,List.drop_eq_getElem_cons (by rw [Array.length_toList];exact r)];simp;rfl
 have o:=Z n;have p:=Z j;have:(k:Int)+1≤(s.size:Int):=by omega
 have q:=Z (zoB s[k]);have e:yR s[k].toNat=true→((s[k].toNat:Int) != 95)=false:=fun t=>by
  rcases h with d | d
  ·rw [t] at d;cases d
  ·simp [d]
 clear g h i n j;rcases hc:yR s[k].toNat with _ | _
 ·have f:=Z hc
  clear hc e;rcases b with _ | _
  all_goals
   go_enter func99,ntmps99;go_wp2_with (first | (go_at_call 144;refine (zT _ _).mono ?_;rw [l.out];rintro a c ⟨rfl,rfl⟩) | (go_at_call 147;refine (Qw _ _).mono ?_;rw [f.out];rintro a c ⟨rfl,rfl⟩) | (go_at_call 150;refine (Tryz.strings_HasPrefix _ _ _).mono ?_;rw [m.out];rintro a c ⟨rfl,rfl⟩));go_region;rw [o.out];go_wp2_with fail;go_region_with (go_at_call 151;refine (Tryz.strings_Contains_one _ _ _).mono ?_;rw [p.out];rintro a c ⟨rfl,rfl⟩)
   all_goals
    go_wp2_with fail;refine bodyPost_ret (ql rfl _ _ w.heap.size 217 _ _ _ rfl zfd underlying217 rfl QA) rfl ⟨(qm _ _ _).drew.drew,?_⟩
    first | exact ⟨_,_,_,_,rfl⟩ | (show _=Ending.returned (.tuple #[.agg #[_,.string (qx [s[k].toNat]),_,_],_]);rw [q.out];rfl)
 ·have:=e hc
  have f:=Z hc;clear hc e;rcases b with _ | _
  all_goals
   go_enter func99,ntmps99;go_wp2_with (first | (go_at_call 144;refine (zT _ _).mono ?_;rw [l.out];rintro a c ⟨rfl,rfl⟩) | (go_at_call 147;refine (Qw _ _).mono ?_;rw [f.out];rintro a c ⟨rfl,rfl⟩) | (go_at_call 150;refine (Tryz.strings_HasPrefix _ _ _).mono ?_;rw [m.out];rintro a c ⟨rfl,rfl⟩));go_region;rw [o.out];go_wp2_with fail;go_region_with (go_at_call 151;refine (Tryz.strings_Contains_one _ _ _).mono ?_;rw [p.out];rintro a c ⟨rfl,rfl⟩)
   all_goals
    go_wp2_with fail;refine bodyPost_ret (ql rfl _ _ w.heap.size 217 _ _ _ rfl zfd underlying217 rfl QA) rfl ⟨(qm _ _ _).drew.drew,?_⟩
    first | exact ⟨_,_,_,_,rfl⟩ | (show _=Ending.returned (.tuple #[.agg #[_,.string (qx [s[k].toNat]),_,_],_]);rw [q.out];rfl)
theorem ZQ (p:Nat→Bool):∀a:List Nat,a.take (a.takeWhile p).length=a.takeWhile p
 |[]=>rfl
 |b::a=>by
  rcases h:p b with _ | _<;>simp [h,ZQ p a]
theorem Yh (p:Nat→Bool):∀a:List Nat,(a.takeWhile p).length≤a.length
 |[]=>Nat.le_refl _
 |b::a=>by
  rcases h:p b with _ | _<;>simp [h,Yh p a]
theorem YD (s:ByteArray)(k n:Nat)(a:k+n≤s.size):(s.extract k (k+n)).size=n:=by
 rw [ByteArray.size_extract];omega
theorem znc (s:ByteArray)(k:Nat)(w:World)(x:k<s.size)(h:s.size≤4096)(i:qZ s[k].toNat=false)(j:yR s[k].toNat=true)(q:s[k].toNat≠95)(t:List Nat)(d:((qF s).drop k).takeWhile Q7=t):
  Calls prog 99 #[.string s,.int .i64 k] w (ZU w (if t.length≤16 then some ⟨if zdn.contains t then 4 else 1,t,0,k⟩ else none)):=by
 obtain ⟨a,e⟩:∃a,a=t.length:=⟨_,rfl⟩;have r:k+a≤s.size:=by
  have:=Yh Q7 ((qF s).drop k);rw [d,List.length_drop,zO] at this;omega
 have f:qF (s.extract k (k+a))=t:=by
  rw [qF,zcl,e,←d,ZQ]
 have u:=Z (zaI (s.extract k (k+a)) t f);have l:=Z f;have y:=YD s k a r;have m:=Z (show (((qF s).drop k).takeWhile Q7).length=a by rw [d,e]);have n:=Z i;have o:=Z j;have z:((s[k].toNat:Int) != 95)=true:=by simp;omega
 rw [←e];clear i j d e f q
 by_cases p:a≤16
 ·rw [if_pos p]
  have v:(a:Int)≤16:=by omega
  rcases hw:zdn.contains t with _ | _
  all_goals
   have g:=Z hw;clear hw;go_enter func99,ntmps99;go_wp2_with (first | (go_at_call 144;refine (zT _ _).mono ?_;rw [n.out];rintro b c ⟨rfl,rfl⟩) | (go_at_call 147;refine (Qw _ _).mono ?_;rw [o.out];rintro b c ⟨rfl,rfl⟩) | (go_at_call 145;refine (zit s k _ (by omega) h).mono ?_;rw [m.out];rintro b c ⟨rfl,rfl⟩) | (go_at_call 149;refine (ziI _ _).mono ?_;rw [l.out,g.out];rintro b c ⟨rfl,rfl⟩));go_region;go_wp2_with fail;refine bodyPost_ret (ql rfl _ _ w.heap.size 217 _ _ _ rfl zfd underlying217 rfl QA) rfl ⟨(qm _ _ _).drew,?_⟩;show _=Ending.returned (.tuple #[.agg #[_,.string (qx t),_,_],_]);rw [u.out]
   rfl
 ·rw [if_neg p]
  have v:decide ((a:Int)≤16)=false:=by simp;omega
  rcases hw:zdn.contains t with _ | _
  all_goals
   have g:=Z hw;clear hw;go_enter func99,ntmps99;go_wp2_with (first | (go_at_call 144;refine (zT _ _).mono ?_;rw [n.out];rintro b c ⟨rfl,rfl⟩) | (go_at_call 147;refine (Qw _ _).mono ?_;rw [o.out];rintro b c ⟨rfl,rfl⟩) | (go_at_call 145;refine (zit s k _ (by omega) h).mono ?_;rw [m.out];rintro b c ⟨rfl,rfl⟩) | (go_at_call 149;refine (ziI _ _).mono ?_;rw [l.out,g.out];rintro b c ⟨rfl,rfl⟩));go_region;go_wp2_with fail;exact bodyPost_ret (ql rfl _ _ w.heap.size 217 _ _ _ rfl zfd underlying217 rfl QA) rfl ⟨(qm _ _ _).drew,_,_,_,_,rfl⟩
structure OneSt (w:World)(t:List Value)(W:World):Prop where
 res:W.heap[w.heap.size]? =some (.cells #[.int .i64 0,.string ⟨#[]⟩,.int .u64 0,.int .i64 0] 217 (0,0))
 tok:W.heap[w.heap.size+1]? =some (.cells t.toArray 217 (0,0))
 below:Below w.heap.size w W
theorem OneSt.start (w:World)(t:List Value):OneSt w t ((w.alloc (.cells #[.int .i64 0,.string ⟨#[]⟩,.int .u64 0,.int .i64 0] 217)).alloc (.cells t.toArray 217)):=
 ⟨heap_alloc2_old _ _ _,heap_alloc2_new _ _ _,qm _ _ _⟩
theorem OneSt.later {c:World}(a:OneSt w t W)(b:Below W.heap.size W c):OneSt w t c:=
 ⟨(b.block _ (qd a.res)).trans a.res,(b.block _ (qd a.tok)).trans a.tok,a.below.trans (b.mono a.below.size)⟩
theorem OneSt.set (e:OneSt w [a,b,c,d] W)(x y:Value):OneSt w [x,b,y,d] ((W.setCell ⟨w.heap.size+1,0,none⟩ x).setCell ⟨w.heap.size+1,2,none⟩ y):=
 ⟨(qe (by omega) _).trans ((qe (by omega) _).trans e.res),by rw [heap_setCell (heap_setCell e.tok _)];rfl,(e.below.setCell (p:=⟨w.heap.size+1,0,none⟩) (Nat.le_succ _) _).setCell (p:=⟨w.heap.size+1,2,none⟩) (Nat.le_succ _) _⟩
theorem OneSt.cells (e:OneSt w [a,b,c,d] W):
  (W.cell? ⟨w.heap.size+1,0,none⟩=some a∧W.cell? ⟨w.heap.size+1,1,none⟩=some b∧W.cell? ⟨w.heap.size+1,2,none⟩=some c∧W.cell? ⟨w.heap.size+1,3,none⟩=some d)∧W.frozen? ⟨w.heap.size+1,0,none⟩=false∧W.frozen? ⟨w.heap.size+1,2,none⟩=false:=by
 refine ⟨⟨?_,?_,?_,?_⟩,?_,?_⟩<;>simp [World.cell?,World.frozen?,e.tok]
theorem OneSt.drew (a:OneSt w t W):OneSt w t W.drew:=⟨a.res,a.tok,a.below.drew⟩
theorem OneSt.answer (a:OneSt w t W):
  (W.cell? ⟨w.heap.size,0,none⟩=some (.int .i64 0)∧W.cell? ⟨w.heap.size,1,none⟩=some (.string ⟨#[]⟩)∧W.cell? ⟨w.heap.size,2,none⟩=some (.int .u64 0)∧W.cell? ⟨w.heap.size,3,none⟩=some (.int .i64 0))∧
  W.frozen? ⟨w.heap.size,0,none⟩=false∧W.frozen? ⟨w.heap.size,1,none⟩=false∧W.frozen? ⟨w.heap.size,2,none⟩=false∧W.frozen? ⟨w.heap.size,3,none⟩=false:=by
 refine ⟨⟨?_,?_,?_,?_⟩,?_,?_,?_,?_⟩<;>simp [World.cell?,World.frozen?,a.res]
theorem OneSt.done (e:OneSt w [a,b,c,d] W):
  ((((W.setCell ⟨w.heap.size,0,none⟩ a).setCell ⟨w.heap.size,1,none⟩ b).setCell ⟨w.heap.size,2,none⟩ c).setCell ⟨w.heap.size,3,none⟩ d).heap[w.heap.size]? =some (.cells #[a,b,c,d] 217 (0,0))∧
  Below w.heap.size w ((((W.setCell ⟨w.heap.size,0,none⟩ a).setCell ⟨w.heap.size,1,none⟩ b).setCell ⟨w.heap.size,2,none⟩ c).setCell ⟨w.heap.size,3,none⟩ d):=
 ⟨by rw [heap_setCell (heap_setCell (heap_setCell (heap_setCell e.res _) _) _) _];rfl,(((e.below.setCell (p:=⟨w.heap.size,0,none⟩) (Nat.le_refl _) _).setCell (p:=⟨w.heap.size,1,none⟩) (Nat.le_refl _) _).setCell (p:=⟨w.heap.size,2,none⟩) (Nat.le_refl _) _).setCell (p:=⟨w.heap.size,3,none⟩) (Nat.le_refl _) _⟩
theorem zly (s:ByteArray)(k n:Nat)(w:World)(c:YP w)(z:k<s.size)(j:s.size≤4096)(d:qZ s[k].toNat=true)(e:(((qF s).drop k).takeWhile qZ).length=n)(l:k+n≤s.size)
  (f:Lib.parseUintB 64 (s.extract k (k+n)).data.toList= .range):
  Calls prog 99 #[.string s,.int .i64 k] w (ZU w none):=by
 have m:=YD s k n l;have o:=Z e;have p:=Z d;have q:=Z f;have r:=Z c;clear c;clear d e f;go_enter func99,ntmps99;go_wp2_with (first | (go_at_call 144;refine (zT _ _).mono ?_;rw [p.out];rintro g t ⟨rfl,rfl⟩) | (go_at_call 145;refine (ZL s k _ (by omega) j).mono ?_;rw [o.out];rintro g t ⟨rfl,rfl⟩) | (go_at_call 146;obtain ⟨u,h,v⟩:=r.below (qm _ _ _);refine (Tryz.strconv_ParseUint_10_at64_range _ (by rw [m];omega) q u _ h v).mono ?_;rintro g x ⟨_,rfl,-,-,i⟩;clear h;have b:=Z ((OneSt.start w [_,_,_,_]).later i);have y:=b.cells;clear i));have a:=Z (b.set (.int .i64 2) (.int .u64 18446744073709551615));clear b y;generalize World.setCell (World.setCell x _ _) _ _=A at a ⊢;obtain ⟨⟨_,_,_,_⟩,-,-⟩:=a.cells;obtain ⟨⟨_,_,_,_⟩,_,_,_,_⟩:=a.answer;go_region;go_wp2_with fail;exact bodyPost_ret (ql rfl _ _ w.heap.size 217 _ _ _ rfl a.done.1 underlying217 rfl QA) rfl ⟨a.done.2.drew,_,_,_,_,rfl⟩
theorem Zl {a:World}{s:ByteArray}{t:TypeId}(b:a=W∨a=Lib.bytesWorld W t s):Below W.heap.size W a:=by
 rcases b with rfl | rfl
 ·exact Below.refl _ _
 ·exact Lib.bytesWorld_below _ _ _
theorem znd (s:ByteArray)(k n:Nat)(w:World)(y:k<s.size)(j:s.size≤4096)(c:qZ s[k].toNat=true)(d:(((qF s).drop k).takeWhile qZ).length=n)(l:k+n≤s.size)
  (u:Nat) (e:Lib.parseUintB 64 (s.extract k (k+n)).data.toList= .ok u) (f:s[k].toNat=48) (m:n≠1):
  Calls prog 99 #[.string s,.int .i64 k] w (ZU w none):=by
 have o:=YD s k n l;have p:=Z d;have q:=Z c;have r:=Z e;have:((s[k].toNat:Int) != 48)=false:=by simp [f]
 have k1:((n:Int)==1)=false:=by simp;omega
 clear f m;clear c d e;go_enter func99,ntmps99;go_wp2_with (first | (go_at_call 144;refine (zT _ _).mono ?_;rw [q.out];rintro g t ⟨rfl,rfl⟩) | (go_at_call 145;refine (ZL s k _ (by omega) j).mono ?_;rw [p.out];rintro g t ⟨rfl,rfl⟩) | (go_at_call 146;refine (Tryz.strconv_ParseUint_10_at64_ok _ (by rw [o];omega) u r _).mono ?_;rintro g v ⟨rfl,h⟩;have i:=Zl h;clear h;have b:=Z ((OneSt.start w [_,_,_,_]).later i);have x:=b.cells;clear i));have a:=Z (b.set (.int .i64 2) (.int .u64 u));clear b x;generalize World.setCell (World.setCell v _ _) _ _=z at a ⊢;obtain ⟨⟨_,_,_,_⟩,-,-⟩:=a.cells;obtain ⟨⟨_,_,_,_⟩,_,_,_,_⟩:=a.answer;go_region;go_wp2_with fail;exact bodyPost_ret (ql rfl _ _ w.heap.size 217 _ _ _ rfl a.done.1 underlying217 rfl QA) rfl ⟨a.done.2.drew,_,_,_,_,rfl⟩
theorem zoA (s:ByteArray)(k n:Nat)(w:World)(D:k<s.size)(j:s.size≤4096)(c:qZ s[k].toNat=true)(d:(((qF s).drop k).takeWhile qZ).length=n)(l:k+n≤s.size)
  (u:Nat) (e:Lib.parseUintB 64 (s.extract k (k+n)).data.toList= .ok u) (m:s[k].toNat≠48∨n=1) (o:k+n=s.size) (t:List Nat) (f:yA (s.extract k (k+n)).data.toList=t):
  Calls prog 99 #[.string s,.int .i64 k] w (ZU w (some ⟨2,t,u,k⟩)):=by
 have p:=YD s k n l;have q:=Z d;have r:=Z c;have v:=Z e;have k2:(((k:Int)+(n:Int))==(s.size:Int))=true:=by simp;omega
 have x:=Z (zaI _ _ f);have y:((s[k].toNat:Int) != 48)=true∨((s[k].toNat:Int) != 48)=false∧((n:Int)==1)=true:=by simp;omega
 clear m f o;clear c d e;go_enter func99,ntmps99;go_wp2_with (first | (go_at_call 144;refine (zT _ _).mono ?_;rw [r.out];rintro g z ⟨rfl,rfl⟩) | (go_at_call 145;refine (ZL s k _ (by omega) j).mono ?_;rw [q.out];rintro g z ⟨rfl,rfl⟩) | (go_at_call 146;refine (Tryz.strconv_ParseUint_10_at64_ok _ (by rw [p];omega) u v _).mono ?_;rintro g A ⟨rfl,h⟩;have i:=Zl h;clear h;have b:=Z ((OneSt.start w [_,_,_,_]).later i);have B:=b.cells;clear i));have a:=Z (b.set (.int .i64 2) (.int .u64 u));clear b B;generalize World.setCell (World.setCell A _ _) _ _=E at a ⊢;obtain ⟨⟨_,_,_,_⟩,-,-⟩:=a.cells;obtain ⟨⟨_,_,_,_⟩,_,_,_,_⟩:=a.answer;rcases y with C | ⟨C,k1⟩
 all_goals
  go_region;go_wp2_with fail;refine bodyPost_ret (ql rfl _ _ w.heap.size 217 _ _ _ rfl a.done.1 underlying217 rfl QA) rfl ⟨a.done.2.drew,?_⟩;show _=Ending.returned (.tuple #[.agg #[_,.string (qx t),_,_],_]);rw [x.out]
  rfl
end Go.Proofs.YtklofgfkaaoipaaGreatDoor

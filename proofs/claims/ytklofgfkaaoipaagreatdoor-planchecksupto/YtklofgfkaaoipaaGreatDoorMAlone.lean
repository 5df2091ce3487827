/-
  THE CONTRACT of plan.alone.
-/
import Derived.Test.YtklofgfkaaoipaaGreatDoorMRepeat
import Derived.Test.YtklofgfkaaoipaaGreatDoorMMCheck
import Derived.Test.YtklofgfkaaoipaaGreatDoorMMem
import Derived.IntWalk
import Derived.Laws.StructEq
import Derived.Laws.Tables
import Derived.Laws.Cover2
import Derived.KernelRfl
import Derived.Test.YtklofgfkaaoipaaGreatDoorMOps
import Derived.Test.YtklofgfkaaoipaaGreatDoorMHd
set_option maxHeartbeats 16000000
set_option maxRecDepth 100000
set_option linter.unusedSimpArgs false
set_option linter.unusedVariables false
namespace Go.Proofs.YtklofgfkaaoipaaGreatDoor
open Go.RowKit Go.Proofs.Tryz
variable {w W:World}{o:MOp}{h g:Nat}{t:TypeId}
def opC:MOp:=⟨2,0,0,0,0,0⟩
def QY (o:MOp):MOp:=
 if o.kind=18∨o.kind=19 then {o with a:=0,k:=0} else if o.kind=17∧o.k=1 then {o with a:=0} else {o with a:=0,b:=1}
def yO (o:MOp):List MOp:=if yP o=false then [] else if o.kind=1 then [o] else [opC,opC,QY o]
def ZC (l:List MOp)(w:World)(e:Ending)(a:World):Prop:=∃b,e= .returned b∧a.ownsRow w.heap.size 61 6 b l.length (qz l)∧Below w.heap.size w a
structure ASt (w:World)(o:MOp)(B1:Nat)(W:World):Prop where
 op:W.heap[w.heap.size]? =some (.cells o.arr 61 (0,0))
 x:W.heap[B1]? =some (.cells opC.arr 61 (0,0))
 y:W.heap[B1+1]? =some (.cells opC.arr 61 (0,0))
 below:Below w.heap.size w W
 lt:w.heap.size<B1
theorem ASt.later {c:World}(a:ASt w o h W)(b:Below W.heap.size W c):ASt w o h c:=
 ⟨(b.block _ (qd a.op)).trans a.op,(b.block _ (qd a.x)).trans a.x,(b.block _ (qd a.y)).trans a.y,a.below.trans (b.mono a.below.size),a.lt⟩
theorem ASt.set {p:MOp}(a:ASt w o h W)(j:Nat)(v:Value)(b:o.arr.setIfInBounds j v=p.arr):ASt w p h (W.setCell ⟨w.heap.size,j,none⟩ v):=
 ⟨by rw [heap_setCell a.op,b],(qe (by have:=a.lt;omega) _).trans a.x,(qe (by have:=a.lt;omega) _).trans a.y,a.below.setCell (p:=⟨w.heap.size,j,none⟩) (Nat.le_refl _) _,a.lt⟩
theorem ASt.start {w1:World}(b:Below (w.alloc (.cells o.arr 61)).heap.size (w.alloc (.cells o.arr 61)) w1):ASt w o w1.heap.size ((w1.alloc (.cells opC.arr 61)).alloc (.cells opC.arr 61)):=by
 obtain ⟨c,a,d⟩:=yF b;exact ⟨zb6 _ _ c,heap_alloc2_old _ _ _,heap_alloc2_new _ _ _,(a.alloc a.size _).alloc (by rw [World.size_alloc];have:=a.size;omega) _,by omega⟩
theorem yl {fr:Nat×Nat}(a:w.heap[g]? =some (.cells o.arr t fr)):
  w.cell? ⟨g,0,none⟩=some (.int .i64 o.kind)∧w.cell? ⟨g,1,none⟩=some (.int .i64 o.a)∧w.cell? ⟨g,2,none⟩=some (.int .i64 o.b)∧w.cell? ⟨g,3,none⟩=some (.int .i64 o.k)∧w.cell? ⟨g,4,none⟩=some (.int .u64 o.c)∧w.cell? ⟨g,5,none⟩=some (.int .i64 o.party):=Qd a
theorem z9 (a:w.heap[g]? =some (.cells o.arr t (0,0)))(j:Nat)(b:j<6):w.frozen? ⟨g,j,none⟩=false:=by simp [World.frozen?,a]
theorem ASt.done (a:ASt w o h W):ZC [opC,opC,o] w (.returned (.slice (some ⟨W.heap.size,0,none⟩) 3 3)) (W.alloc (.cells (qz [opC,opC,o]).toArray 61)):=by
 have b:=World.ownsRow_lit W (qz [opC,opC,o]).toArray (e:=61) (size:=6) 3 (Nat.le_refl _) (by unfold maxLen;omega) rfl;exact ⟨_,rfl,qk b a.below.size,a.below.alloc a.below.size _⟩
theorem zmf (o:MOp)(w:World)(a:yP o=false):Calls prog 39 #[.agg o.arr] w (ZC [] w):=by
 have c:=Z a;obtain ⟨d,e,f,g,h,i⟩:=o;clear a;simp only [MOp.arr];go_enter func39,ntmps39;go_wp2_with (go_at_call 40;go_must (refine (yE ⟨d,e,f,g,h,i⟩ _).mono ?_;unfold qM;rw [c.out];rintro k l ⟨rfl,b⟩;have j:=Z (yF b).2.1;clear b));go_ret;exact ⟨_,rfl,World.ownsRow_nil _ _ _ _,j⟩
theorem zmc (a b k d:Int)(c:Nat)(w:World):Calls prog 39 #[.agg #[.int .i64 1,.int .i64 a,.int .i64 b,.int .i64 k,.int .u64 c,.int .i64 d]] w (ZC [⟨1,a,b,k,c,d⟩] w):=by
 go_enter func39,ntmps39;go_wp2_with (first | (go_at_call 40;go_must (refine (zgf a b k d c _).mono ?_;unfold qM;rintro l m ⟨rfl,e⟩;have h:=ASt.start (o:=⟨1,a,b,k,c,d⟩) e;obtain ⟨t,u,v,x,y,z⟩:=Qd (yF e).1;have n:=(yF e).2.2;have A:w.heap.size<m.heap.size:=(by omega);have p:=Z h;clear h e n)) | (go_at_call 41;go_must (refine (ziG a b k d c _).mono ?_;unfold qY;rintro l q ⟨B,rfl,i,j⟩;obtain ⟨C,D,rfl,E,r⟩:=qg i;have f:=p.later j;obtain ⟨F,G,H,I,J,K⟩:=yl f.op;have g:=Z f;clear f j i r)));go_ret;have s:=World.ownsRow_lit q (qz [(⟨1,a,b,k,c,d⟩:MOp)]).toArray (e:=61) (size:=6) 1 (Nat.le_refl _) (by unfold maxLen;omega) rfl;exact ⟨_,rfl,qk s g.below.size,g.below.alloc g.below.size _⟩
theorem ziE (a b k d:Int)(c:Nat)(w:World):Calls prog 41 #[.agg #[.int .i64 18,.int .i64 a,.int .i64 b,.int .i64 k,.int .u64 c,.int .i64 d]] w (qY [a] w):=zaJ ⟨18,a,b,k,c,d⟩ w
theorem ziF (a b k d:Int)(c:Nat)(w:World):Calls prog 41 #[.agg #[.int .i64 19,.int .i64 a,.int .i64 b,.int .i64 k,.int .u64 c,.int .i64 d]] w (qY [a] w):=zaJ ⟨19,a,b,k,c,d⟩ w
theorem zmd (a b k d:Int)(c:Nat)(w:World):Calls prog 39 #[.agg #[.int .i64 6,.int .i64 a,.int .i64 b,.int .i64 k,.int .u64 c,.int .i64 d]] w (ZC [opC,opC,⟨6,0,1,k,c,d⟩] w):=by
 go_enter func39,ntmps39;go_upto_region 6 with (first | (go_at_call 40;go_must (refine (zgg a b k d c _).mono ?_;unfold qM;rintro r f ⟨rfl,g⟩;have s:=ASt.start (o:=⟨6,a,b,k,c,d⟩) g;obtain ⟨h,i,j,l,m,n⟩:=Qd (yF g).1;have B:=(yF g).2.2;have I:w.heap.size<f.heap.size:=(by omega);have C:=Z s;clear s g B)) | (go_at_call 41;go_must (refine (zfi a b k d c _).mono ?_;unfold qY;rintro r J ⟨K,rfl,t,u⟩;obtain ⟨L,M,rfl,N,D⟩:=qg t;have v:=C.later u;have q:=Z v;clear v u t D)));clear h i j l m n;obtain ⟨h,i,j,l,m,n⟩:=yl q.op;have E:=z9 q.op 1 (by omega);have F:=Z (q.set (p:=⟨6,0,b,k,c,d⟩) 1 (.int .i64 0) rfl);go_upto_region 8 with (go_at_call 41;go_must (refine (zfi 0 b k d c _).mono ?_;unfold qY;rintro r O ⟨P,rfl,x,y⟩;obtain ⟨Q,R,rfl,S,G⟩:=qg x;have z:=F.later y;have e:=Z z;clear z y x G));clear h i j l m n E;obtain ⟨h,i,j,l,m,n⟩:=yl e.op;obtain ⟨T,U,V,W,X,Y⟩:=yl e.x;obtain ⟨aa,ab,ac,ad,ae,af⟩:=yl e.y;have ag:=z9 e.op 2 (by omega);have ah:=z9 e.op 3 (by omega);have ai:=e.lt;have aj:¬f.heap.size=w.heap.size:=by omega
 have ak:¬f.heap.size+1=w.heap.size:=by omega
 have al:¬w.heap.size=f.heap.size:=by omega
 have am:¬w.heap.size=f.heap.size+1:=by omega
 have H:=Z (ASt.done (o:=⟨6,0,1,k,c,d⟩) (e.set (p:=⟨6,0,1,k,c,d⟩) 2 (.int .i64 1) rfl));go_wp2_with fail;go_ret;have A:=H.out
 try simp only [World.size_setCell] at A
 exact A
theorem zme (a b k d:Int)(c:Nat)(w:World):Calls prog 39 #[.agg #[.int .i64 9,.int .i64 a,.int .i64 b,.int .i64 k,.int .u64 c,.int .i64 d]] w (ZC [opC,opC,⟨9,0,1,k,c,d⟩] w):=by
 go_enter func39,ntmps39;go_upto_region 6 with (first | (go_at_call 40;go_must (refine (zgh a b k d c _).mono ?_;unfold qM;rintro r f ⟨rfl,g⟩;have s:=ASt.start (o:=⟨9,a,b,k,c,d⟩) g;obtain ⟨h,i,j,l,m,n⟩:=Qd (yF g).1;have B:=(yF g).2.2;have I:w.heap.size<f.heap.size:=(by omega);have C:=Z s;clear s g B)) | (go_at_call 41;go_must (refine (zfj a b k d c _).mono ?_;unfold qY;rintro r J ⟨K,rfl,t,u⟩;obtain ⟨L,M,rfl,N,D⟩:=qg t;have v:=C.later u;have q:=Z v;clear v u t D)));clear h i j l m n;obtain ⟨h,i,j,l,m,n⟩:=yl q.op;have E:=z9 q.op 1 (by omega);have F:=Z (q.set (p:=⟨9,0,b,k,c,d⟩) 1 (.int .i64 0) rfl);go_upto_region 8 with (go_at_call 41;go_must (refine (zfj 0 b k d c _).mono ?_;unfold qY;rintro r O ⟨P,rfl,x,y⟩;obtain ⟨Q,R,rfl,S,G⟩:=qg x;have z:=F.later y;have e:=Z z;clear z y x G));clear h i j l m n E;obtain ⟨h,i,j,l,m,n⟩:=yl e.op;obtain ⟨T,U,V,W,X,Y⟩:=yl e.x;obtain ⟨aa,ab,ac,ad,ae,af⟩:=yl e.y;have ag:=z9 e.op 2 (by omega);have ah:=z9 e.op 3 (by omega);have ai:=e.lt;have aj:¬f.heap.size=w.heap.size:=by omega
 have ak:¬f.heap.size+1=w.heap.size:=by omega
 have al:¬w.heap.size=f.heap.size:=by omega
 have am:¬w.heap.size=f.heap.size+1:=by omega
 have H:=Z (ASt.done (o:=⟨9,0,1,k,c,d⟩) (e.set (p:=⟨9,0,1,k,c,d⟩) 2 (.int .i64 1) rfl));go_wp2_with fail;go_ret;have A:=H.out
 try simp only [World.size_setCell] at A
 exact A
theorem zkC (a b k d:Int)(c:Nat)(w:World)(r:k≠1):Calls prog 39 #[.agg #[.int .i64 17,.int .i64 a,.int .i64 b,.int .i64 k,.int .u64 c,.int .i64 d]] w (ZC [opC,opC,⟨17,0,1,k,c,d⟩] w):=by
 go_enter func39,ntmps39;go_upto_region 6 with (first | (go_at_call 40;go_must (refine (zcf a b k d c _).mono ?_;unfold qM;rintro s f ⟨rfl,g⟩;have t:=ASt.start (o:=⟨17,a,b,k,c,d⟩) g;obtain ⟨h,i,j,l,m,n⟩:=Qd (yF g).1;have C:=(yF g).2.2;have J:w.heap.size<f.heap.size:=(by omega);have D:=Z t;clear t g C)) | (go_at_call 41;go_must (refine (zdm a b k d c _ r).mono ?_;unfold qY;rintro s K ⟨L,rfl,u,v⟩;obtain ⟨M,N,rfl,O,E⟩:=qg u;have x:=D.later v;have q:=Z x;clear x v u E)));clear h i j l m n;obtain ⟨h,i,j,l,m,n⟩:=yl q.op;have F:=z9 q.op 1 (by omega);have G:=Z (q.set (p:=⟨17,0,b,k,c,d⟩) 1 (.int .i64 0) rfl);go_upto_region 8 with (go_at_call 41;go_must (refine (zdm 0 b k d c _ r).mono ?_;unfold qY;rintro s P ⟨Q,rfl,y,z⟩;obtain ⟨R,S,rfl,T,H⟩:=qg y;have A:=G.later z;have e:=Z A;clear A z y H));clear h i j l m n F;obtain ⟨h,i,j,l,m,n⟩:=yl e.op;obtain ⟨U,V,W,X,Y,aa⟩:=yl e.x;obtain ⟨ab,ac,ad,ae,af,ag⟩:=yl e.y;have ah:=z9 e.op 2 (by omega);have ai:=z9 e.op 3 (by omega);have aj:=e.lt;have ak:¬f.heap.size=w.heap.size:=by omega
 have al:¬f.heap.size+1=w.heap.size:=by omega
 have am:¬w.heap.size=f.heap.size:=by omega
 have an:¬w.heap.size=f.heap.size+1:=by omega
 have I:=Z (ASt.done (o:=⟨17,0,1,k,c,d⟩) (e.set (p:=⟨17,0,1,k,c,d⟩) 2 (.int .i64 1) rfl));go_wp2_with fail;go_ret;have B:=I.out
 try simp only [World.size_setCell] at B
 exact B
theorem ziN (a b d:Int)(c:Nat)(w:World):Calls prog 39 #[.agg #[.int .i64 17,.int .i64 a,.int .i64 b,.int .i64 1,.int .u64 c,.int .i64 d]] w (ZC [opC,opC,⟨17,0,b,1,c,d⟩] w):=by
 go_enter func39,ntmps39;go_upto_region 6 with (first | (go_at_call 40;go_must (refine (zcf a b 1 d c _).mono ?_;unfold qM;rintro q f ⟨rfl,g⟩;have r:=ASt.start (o:=⟨17,a,b,1,c,d⟩) g;obtain ⟨h,i,j,k,l,m⟩:=Qd (yF g).1;have A:=(yF g).2.2;have H:w.heap.size<f.heap.size:=(by omega);have B:=Z r;clear r g A)) | (go_at_call 41;go_must (refine (zcg a b d c _).mono ?_;unfold qY;rintro q I ⟨J,rfl,s,t⟩;obtain ⟨K,L,rfl,M,C⟩:=qg s;have u:=B.later t;have n:=Z u;clear u t s C)));clear h i j k l m;obtain ⟨h,i,j,k,l,m⟩:=yl n.op;have D:=z9 n.op 1 (by omega);have E:=Z (n.set (p:=⟨17,0,b,1,c,d⟩) 1 (.int .i64 0) rfl);go_upto_region 9 with (go_at_call 41;go_must (refine (zcg 0 b d c _).mono ?_;unfold qY;rintro q N ⟨O,rfl,v,x⟩;obtain ⟨P,Q,rfl,R,F⟩:=qg v;have y:=E.later x;have e:=Z y;clear y x v F));clear h i j k l m D;obtain ⟨h,i,j,k,l,m⟩:=yl e.op;obtain ⟨S,T,U,V,W,X⟩:=yl e.x;obtain ⟨Y,aa,ab,ac,ad,ae⟩:=yl e.y;have af:=z9 e.op 2 (by omega);have ag:=z9 e.op 3 (by omega);have ah:=e.lt;have ai:¬f.heap.size=w.heap.size:=by omega
 have aj:¬f.heap.size+1=w.heap.size:=by omega
 have ak:¬w.heap.size=f.heap.size:=by omega
 have al:¬w.heap.size=f.heap.size+1:=by omega
 have G:=Z (ASt.done (o:=⟨17,0,b,1,c,d⟩) e);go_wp2_with fail;go_ret;have z:=G.out
 try simp only [World.size_setCell] at z
 exact z
theorem zkD (a b k d:Int)(c:Nat)(w:World):Calls prog 39 #[.agg #[.int .i64 18,.int .i64 a,.int .i64 b,.int .i64 k,.int .u64 c,.int .i64 d]] w (ZC [opC,opC,⟨18,0,b,0,c,d⟩] w):=by
 go_enter func39,ntmps39;go_upto_region 6 with (first | (go_at_call 40;go_must (refine (zfg a b k d c _).mono ?_;unfold qM;rintro r f ⟨rfl,g⟩;have s:=ASt.start (o:=⟨18,a,b,k,c,d⟩) g;obtain ⟨h,i,j,l,m,n⟩:=Qd (yF g).1;have B:=(yF g).2.2;have I:w.heap.size<f.heap.size:=(by omega);have C:=Z s;clear s g B)) | (go_at_call 41;go_must (refine (ziE a b k d c _).mono ?_;unfold qY;rintro r J ⟨K,rfl,t,u⟩;obtain ⟨L,M,rfl,N,D⟩:=qg t;have v:=C.later u;have q:=Z v;clear v u t D)));clear h i j l m n;obtain ⟨h,i,j,l,m,n⟩:=yl q.op;have E:=z9 q.op 1 (by omega);have F:=Z (q.set (p:=⟨18,0,b,k,c,d⟩) 1 (.int .i64 0) rfl);go_upto_region 9 with (go_at_call 41;go_must (refine (ziE 0 b k d c _).mono ?_;unfold qY;rintro r O ⟨P,rfl,x,y⟩;obtain ⟨Q,R,rfl,S,G⟩:=qg x;have z:=F.later y;have e:=Z z;clear z y x G));clear h i j l m n E;obtain ⟨h,i,j,l,m,n⟩:=yl e.op;obtain ⟨T,U,V,W,X,Y⟩:=yl e.x;obtain ⟨aa,ab,ac,ad,ae,af⟩:=yl e.y;have ag:=z9 e.op 2 (by omega);have ah:=z9 e.op 3 (by omega);have ai:=e.lt;have aj:¬f.heap.size=w.heap.size:=by omega
 have ak:¬f.heap.size+1=w.heap.size:=by omega
 have al:¬w.heap.size=f.heap.size:=by omega
 have am:¬w.heap.size=f.heap.size+1:=by omega
 have H:=Z (ASt.done (o:=⟨18,0,b,0,c,d⟩) (e.set (p:=⟨18,0,b,0,c,d⟩) 3 (.int .i64 0) rfl));go_wp2_with fail;go_ret;have A:=H.out
 try simp only [World.size_setCell] at A
 exact A
theorem zkE (a b k d:Int)(c:Nat)(w:World):Calls prog 39 #[.agg #[.int .i64 19,.int .i64 a,.int .i64 b,.int .i64 k,.int .u64 c,.int .i64 d]] w (ZC [opC,opC,⟨19,0,b,0,c,d⟩] w):=by
 go_enter func39,ntmps39;go_upto_region 6 with (first | (go_at_call 40;go_must (refine (zfh a b k d c _).mono ?_;unfold qM;rintro r f ⟨rfl,g⟩;have s:=ASt.start (o:=⟨19,a,b,k,c,d⟩) g;obtain ⟨h,i,j,l,m,n⟩:=Qd (yF g).1;have B:=(yF g).2.2;have I:w.heap.size<f.heap.size:=(by omega);have C:=Z s;clear s g B)) | (go_at_call 41;go_must (refine (ziF a b k d c _).mono ?_;unfold qY;rintro r J ⟨K,rfl,t,u⟩;obtain ⟨L,M,rfl,N,D⟩:=qg t;have v:=C.later u;have q:=Z v;clear v u t D)));clear h i j l m n;obtain ⟨h,i,j,l,m,n⟩:=yl q.op;have E:=z9 q.op 1 (by omega);have F:=Z (q.set (p:=⟨19,0,b,k,c,d⟩) 1 (.int .i64 0) rfl);go_upto_region 9 with (go_at_call 41;go_must (refine (ziF 0 b k d c _).mono ?_;unfold qY;rintro r O ⟨P,rfl,x,y⟩;obtain ⟨Q,R,rfl,S,G⟩:=qg x;have z:=F.later y;have e:=Z z;clear z y x G));clear h i j l m n E;obtain ⟨h,i,j,l,m,n⟩:=yl e.op;obtain ⟨T,U,V,W,X,Y⟩:=yl e.x;obtain ⟨aa,ab,ac,ad,ae,af⟩:=yl e.y;have ag:=z9 e.op 2 (by omega);have ah:=z9 e.op 3 (by omega);have ai:=e.lt;have aj:¬f.heap.size=w.heap.size:=by omega
 have ak:¬f.heap.size+1=w.heap.size:=by omega
 have al:¬w.heap.size=f.heap.size:=by omega
 have am:¬w.heap.size=f.heap.size+1:=by omega
 have H:=Z (ASt.done (o:=⟨19,0,b,0,c,d⟩) (e.set (p:=⟨19,0,b,0,c,d⟩) 3 (.int .i64 0) rfl));go_wp2_with fail;go_ret;have A:=H.out
 try simp only [World.size_setCell] at A
 exact A
theorem zkB (o:MOp)(w:World):Calls prog 39 #[.agg o.arr] w (ZC (yO o) w):=by
 by_cases h:yP o=false
 ·rw [yO,if_pos h];exact zmf o w h
 ·rw [yO,if_neg h]
  obtain ⟨f,d,e,a,b,c⟩:=o;simp only [MOp.arr]
  by_cases i:f=1
  ·subst i;exact zmc d e a c b w
  ·simp only [if_neg i]
   have g:f=6∨f=9∨f=17∨f=18∨f=19:=by
    simp only [yP,Bool.not_eq_false,Bool.or_eq_true,beq_iff_eq] at h;omega
   rcases g with rfl | rfl | rfl | rfl | rfl
   ·exact zmd d e a c b w
   ·exact zme d e a c b w
   ·by_cases g:a=1
    ·subst g;exact ziN d e c b w
    ·rw [show QY ⟨17,d,e,a,b,c⟩=⟨17,0,1,a,b,c⟩ by simp [QY,g]]
     exact zkC d e a c b w g
   ·exact zkD d e a c b w
   ·exact zkE d e a c b w
end Go.Proofs.YtklofgfkaaoipaaGreatDoor
namespace Go.Proofs.YtklofgfkaaoipaaGreatDoor
open Go.Proofs.Tryz
variable {B:Int}
def upd (m:Int→Int)(r x:Int):Int→Int:=fun a=>if a=r then x else m a
theorem zA (m:Int→Int)(r x:Int):upd m r x r=x:=by simp [upd]
structure MostSt where
 s0:Int→Int
 s1:Int→Int
 ou:Int
def zg (o:MOp)(r:Int):Int:=if o.kind=17 then r-1 else r
def QF (o:MOp)(r:Int)(s:MostSt):MostSt:=
 {s with s0:=upd s.s0 r (s.s0 r+(zy (yO o)).w0),ou:=if yP o then max s.ou (s.s0 r+(zy (yO o)).w0) else s.ou}
def Yv (o:MOp)(r:Int)(s:MostSt):MostSt:=
 {s with s1:=upd s.s1 r (s.s1 r+(zy (yO o)).w1),ou:=if yP o then max s.ou (s.s1 r+(zy (yO o)).w1) else s.ou}
def yZ (o:MOp)(r:Int)(s:MostSt):MostSt:=Yv o (zg o r) (QF o r s)
def Qk:List MOp→List Int→MostSt→MostSt
 |b::c,d::e,a=>Qk c e (yZ b d a)
 |_,_,a=>a
def zbH (ops:List MOp):Int:=(Qk ops (qw ops) ⟨fun _=>0,fun _=>0,0⟩).ou
theorem zcB:∀(a:List MOp) (d:MNeed) (b:Int),d.small b→(∀c∈a,(qq c 65536 65536).2=true)→(zi a d).small (b+10000 * a.length)
 |[],d,b,e,_=>by simpa [zi] using e
 |c::a,d,b,e,f=>by
  rw [zi];have h:=ZH e c (f c (by simp));have g:=zcB a (qU d c) (b+10000) h (fun i j=>f i (by simp [j]));have k:b+10000+10000 * (a.length:Int)=b+10000 * ((c::a).length:Nat):=by simp only [List.length_cons];omega
  rw [k] at g;exact g
theorem zhW (ops:List MOp):(0≤(zy ops).w0∧(zy ops).w0≤10000 * ops.length)∧(0≤(zy ops).w1∧(zy ops).w1≤10000 * ops.length):=by
 unfold zy
 split
 ·rename_i c
  have d:∀b∈ops,(qq b 65536 65536).2=true:=by
   intro b e;obtain ⟨f,g,rfl⟩:=List.mem_iff_getElem.1 e;exact zQ c f g
  have h:({yG with rounds:=zG (qw ops)}:MNeed).small 0:=by simp [MNeed.small,yG]
  have a:=zcB ops _ 0 h d;unfold MNeed.small at a;rw [Int.zero_add] at a;dsimp only [yG] at a ⊢;generalize zi ops _=i at a ⊢
  split
  ·dsimp only;omega
  ·omega
 ·simp only [yG];omega
theorem zez (o:MOp):(yO o).length≤3:=by unfold yO;split<;>(try split)<;>simp
theorem zaO (o:MOp):(0≤(zy (yO o)).w0∧(zy (yO o)).w0≤30000)∧(0≤(zy (yO o)).w1∧(zy (yO o)).w1≤30000):=by
 have:=zhW (yO o);have:=zez o;omega
theorem zm1 (o:MOp)(b:o.c<18446744073709551616):∀c∈yO o,c.c<18446744073709551616:=by
 intro c a;unfold yO at a
 split at a
 ·cases a
 ·split at a
  ·simp at a;subst a;exact b
  ·simp only [List.mem_cons,List.not_mem_nil,or_false] at a
   rcases a with rfl | rfl | rfl
   ·decide
   ·decide
   ·unfold QY;split
    ·exact b
    ·split<;>exact b
def MostSt.small (s:MostSt)(B:Int):Prop:=(∀a,0≤s.s0 a∧s.s0 a≤B)∧(∀a,0≤s.s1 a∧s.s1 a≤B)∧0≤s.ou∧s.ou≤B
theorem zge {m:Int→Int}(b:∀r,0≤m r∧m r≤B)(r x:Int)(c:0≤x)(d:x≤B+30000):∀a,0≤upd m r x a∧upd m r x a≤B+30000:=by
 intro a;unfold upd;split
 ·exact ⟨c,d⟩
 ·have:=b a;omega
variable {s:MostSt}
theorem zdZ (b:s.small B)(o:MOp)(r:Int):(QF o r s).small (B+30000):=by
 obtain ⟨a,c,e,f⟩:=b;have g:=zaO o;have h:=a r;refine ⟨zge a _ _ (by omega) (by omega),fun d=>by have:=c d;simp only [QF];omega,?_,?_⟩
 ·simp only [QF];split<;>omega
 ·simp only [QF];split<;>omega
theorem zd0 (b:s.small B)(o:MOp)(r:Int):(Yv o r s).small (B+30000):=by
 obtain ⟨c,a,e,f⟩:=b;have g:=zaO o;have h:=a r;refine ⟨fun d=>by have:=c d;simp only [Yv];omega,zge a _ _ (by omega) (by omega),?_,?_⟩
 ·simp only [Yv];split<;>omega
 ·simp only [Yv];split<;>omega
theorem zh (a:s.small B)(o:MOp)(r:Int):(yZ o r s).small (B+60000):=by
 have:=zd0 (zdZ a o r) o (zg o r);rw [show B+60000=B+30000+30000 by omega];exact this
end Go.Proofs.YtklofgfkaaoipaaGreatDoor
namespace Go.Proofs.YtklofgfkaaoipaaGreatDoor
open Go.RowKit Go.Proofs.Tryz
def QJ:List Int→Bool
 |b::a::c=>decide (b≤a)&&QJ (a::c)
 |_=>true
theorem Yt:∀(b:List Int),QJ b=true↔∀a,a+1<b.length→b.getD a 0≤b.getD (a+1) 0
 |[]=>by simp [QJ]
 |[e]=>by simp [QJ]
 |e::f::b=>by
  rw [QJ,Bool.and_eq_true,Yt (f::b),decide_eq_true_eq]
  constructor
  ·rintro ⟨g,h⟩ a c
   cases a with
   |zero=>simpa using g
   |succ a=>have:=h a (by simpa using c);simpa using this
  ·intro d
   refine ⟨by have:=d 0 (by simp);simpa using this,fun a c=> ?_⟩;have:=d (a+1) (by simpa using c);simpa using this
theorem zfx (x y:Int)(B:Bool)(w:World)(a:decide (x<y)=B):Calls prog 36 #[.int .i64 x,.int .i64 y] w fun b c=>b= .returned (.bool B)∧c=w:=by
 subst a;exact zaS x y w
theorem Zo (v:Value)(l:List Int)(w:World)(p:Arr w.heap.size w 1 v l.length (ints l)):
  Calls prog 17 #[v] w fun C D=>C= .returned (.bool (QJ l))∧∃E,D=w.drewN E:=by
 obtain ⟨R,S,rfl,T,d,F,q⟩:=p.open;have G:=Z q;unfold maxLen at d;clear p F q;go_enter func17,ntmps17;go_wp2_with fail;go_loopg [3] l.length (fun H b wr=>∃(c:Nat),c≤l.length∧H=c∧b= .int .i64 ((c:Int)-1)∧Hid (∀b,c≤b+1→b+1<l.length→l.getD b 0≤l.getD (b+1) 0)∧Hid (∃g,wr=w.drewN g))
 case atStart=>exact ⟨l.length,Nat.le_refl _,rfl,rfl,(fun b I r=>by omega),⟨0,rfl⟩⟩
 case round=>
  obtain ⟨c,U,V,rfl,s,h⟩:=hrel;have t:∀j,wr.cell? j=w.cell? j:=fun j=>by obtain ⟨g,d⟩:=h.out;rw [d];rfl
  have u:=Z t;clear t
  by_cases W:2≤c
  ·obtain ⟨a,rfl⟩:∃a,c=a+2:=⟨c-2,by omega⟩
   obtain ⟨x,y,rfl,X,k⟩:=G.out (by omega);have J:wr.cell? ⟨x,y+(a+1),none⟩=some (.int .i64 (l.getD (a+1) 0)):=by rw [u.out,k (a+1) (by omega),yY l (a+1) (by omega)];simp [List.getD,show a+1<l.length by omega]
   have K:wr.cell? ⟨x,y+a,none⟩=some (.int .i64 (l.getD a 0)):=by rw [u.out,k a (by omega),yY l a (by omega)];simp [List.getD,show a<l.length by omega]
   have z:((a+2:Nat):Int)-1=(a:Int)+1:=by omega
   rw [z];have Y:(0:Int)≤(a:Int)+1:=by omega
   have aa:(a:Int)+1<(l.length:Int):=by omega
   have ab:(0:Int)≤(a:Int):=by omega
   have ac:(a:Int)<(l.length:Int):=by omega
   obtain ⟨e,m⟩:∃e,l.getD (a+1) 0=e:=⟨_,rfl⟩;obtain ⟨f,n⟩:∃f,l.getD a 0=f:=⟨_,rfl⟩;rw [m] at J;rw [n] at K;have A:=Z m;have B:=Z n;clear k m n z;have ad:((a:Int)+1).toNat=a+1:=by omega
   have ae:IntKind.i64.wrap (a:Int)=(a:Int):=IntWalk.i64_in _ (by omega)
   by_cases i:e<f
   ·have o:=Z (show decide (e<f)=true by simpa using i)
    have L:=Z (show QJ l=false by
     rw [←Bool.not_eq_true,Yt];intro M;have:=M a (by omega);rw [A.out,B.out] at this;omega)
    clear i;go_wp2_with fail;go_quiet ((go_at_call 36;exact Calls.quiet_of_same (zfx _ _ _ _ o)));go_wp2_with fail;go_ret;obtain ⟨g,d⟩:=h.out;subst d;exact ⟨by rw [L.out];rfl,by first | exact ⟨_,World.drewN_drewN _ _ _⟩ | exact ⟨_,rfl⟩⟩
   ·have o:=Z (show decide (e<f)=false by simpa using i)
    have N:=Z (show ∀b,a+1≤b+1→b+1<l.length→l.getD b 0≤l.getD (b+1) 0 from fun b I r=>by
     by_cases O:b=a
     ·subst O;rw [A.out,B.out];omega
     ·exact s b (by omega) r)
    clear i;go_wp2_with fail;go_quiet ((go_at_call 36;exact Calls.quiet_of_same (zfx _ _ _ _ o)));go_wp2_with fail;go_roundg (a+1)
    case measure=>omega
    case rel=>
     obtain ⟨g,d⟩:=h.out;subst d;exact ⟨a+1,by omega,rfl,by go_num,N,by first | exact ⟨_,World.drewN_drewN _ _ _⟩ | exact ⟨_,rfl⟩⟩
  ·have af:¬(0:Int)<(c:Int)-1:=by omega
   have P:=Z (show QJ l=true by rw [Yt];intro b Q;exact s b (by omega) Q);go_wp2_with fail;go_ret;exact ⟨by rw [P.out];rfl,h⟩
theorem zbo (w:World):(isAgg 3).run prog w= .ok false w:=by kernel_rfl
theorem zk7 (w:World):(isAgg 59).run prog w= .ok false w:=by kernel_rfl
theorem zje (w:World):(isAgg 58).run prog w= .ok false w:=by kernel_rfl
theorem zfD (w:World):(isAgg 23).run prog w= .ok true w:=by kernel_rfl
theorem zcb (w:World):(sizeOf 3).run prog w= .ok 1 w:=by kernel_rfl
theorem ze2 (w:World):(sizeOf 23).run prog w= .ok 2 w:=by kernel_rfl
theorem zi3 (n:Nat)(a b c d:Int)(w:World):(Op.equalIn (n+2) 23 (.agg #[.int .i64 a,.int .i64 b]) (.agg #[.int .i64 c,.int .i64 d])).run prog w= .ok (a==c&&b==d) w:=by
 have u3:=underlying3;have g:=zbo;have h:=zcb;rw [show n+2=(n+1)+1 from rfl,Op.equalIn];simp only [Sem.run_bind,run_underlying underlying23,Result.andThen_ok];simp only [Std.Legacy.Range.forIn_eq_forIn_range',Std.Legacy.Range.size,Nat.sub_zero,Nat.add_sub_cancel,Nat.div_one,List.range'_succ,List.range'_zero,List.forIn_cons,List.forIn_nil];go_simp
 by_cases e:a=c<;>by_cases f:b=d<;>simp [e,f]
theorem zqc (a b:MOp)(w:World):(Op.equalIn 10000 61 (.agg #[.int .i64 a.kind,.int .i64 a.a,.int .i64 a.b,.int .i64 a.k,.int .u64 a.c,.int .i64 a.party]) (.agg #[.int .i64 b.kind,.int .i64 b.a,.int .i64 b.b,.int .i64 b.k,.int .u64 b.c,.int .i64 b.party])).run prog w=
  .ok ((a.kind==b.kind)&&(a.a==b.a)&&(a.b==b.b)&&(a.k==b.k)&&((a.c:Int)==(b.c:Int))&&(a.party==b.party)) w:=by
 have u1:=underlying3;have u2:=underlying59;have u3:=underlying58;have j:=zbo;have k:=zk7;have l:=zje;have c:prog.underlying 61=some (.struct (prog.fieldsOf 61)):=by kernel_rfl
 rw [show (10000:Nat)=9999+1 from rfl,run_equalIn_agg w 9999 61 _ _ c (by kernel_rfl)];simp only [Program.fieldsOf,underlying61];go_simp
 by_cases d:a.kind=b.kind<;>by_cases e:a.a=b.a<;>by_cases f:a.b=b.b<;>by_cases g:a.k=b.k<;>by_cases h:(a.c:Int)=(b.c:Int)<;>by_cases i:a.party=b.party<;>simp [d,e,f,g,h,i]
end Go.Proofs.YtklofgfkaaoipaaGreatDoor
namespace Go.Proofs.YtklofgfkaaoipaaGreatDoor
open Go.Proofs.Tryz
theorem zhZ (o:MOp)(b c:Int)(a:o.kind≠1):qq o b c=qq o 65536 65536:=by
 rw [qq,qq,if_neg a,if_neg a]
theorem zne (o:MOp)(b c:Int)(s:b≤65536)(t:c≤65536)(outs:Nat)(d m:List Int)(a:zl outs d m o (qq o b c)=true):
  zl outs d m o (qq o 65536 65536)=true∧yH outs d o (qq o 65536 65536)=yH outs d o (qq o b c)∧(qq o 65536 65536).1.makes=(qq o b c).1.makes:=by
 by_cases e:o.kind=1
 ·have n:qI o=false:=by simp [qI,e]
  have p:∀f g,qq o f g=zI o.party f g:=fun f g=>by rw [qq,if_pos e]
  rw [p] at a ⊢;rw [p]
  by_cases h:o.party=0
  ·simp only [zI,if_pos h,zl,yH,zX,opK,n,Bool.and_eq_true,Bool.or_eq_true,decide_eq_true_eq,Bool.not_false,Bool.true_or,Bool.and_true,beq_iff_eq,Bool.false_eq_true,if_false] at a ⊢
   obtain ⟨⟨i,j⟩,⟨⟨r,k⟩,l⟩⟩:=a;refine ⟨⟨⟨by omega,j⟩,⟨⟨by omega,k⟩,l⟩⟩,?_,trivial⟩;simp [i]
  ·by_cases q:o.party=1
   ·simp only [zI,if_neg h,if_pos q,zl,yH,zX,opK,n,Bool.and_eq_true,Bool.or_eq_true,decide_eq_true_eq,Bool.not_false,Bool.true_or,Bool.and_true,beq_iff_eq,Bool.false_eq_true,if_false] at a ⊢
    obtain ⟨⟨i,j⟩,⟨⟨r,k⟩,l⟩⟩:=a;refine ⟨⟨⟨by omega,j⟩,⟨⟨by omega,k⟩,l⟩⟩,?_,trivial⟩;simp [i]
   ·simp [zI,h,q,zl,yH] at a
 ·rw [zhZ o b c e] at a ⊢
  exact ⟨a,rfl,rfl⟩
theorem zhB (d e:Int)(i:d≤65536)(j:e≤65536)(outs:Nat)(l:List MOp):∀(b c:List Int) (f:List Int),zZ d e outs l b c=some f→zZ 65536 65536 outs l b c=some f:=by
 induction l with
 |nil=>intro b c f a;exact a
 |cons g l ih=>
  intro b c f a;rw [zZ] at a ⊢
  by_cases h:zl outs b c g (qq g d e)=true
  ·obtain ⟨k,m,n⟩:=zne g d e i j outs b c h
   rw [if_pos h] at a;rw [if_pos k,m,n];exact ih _ _ _ a
  ·rw [if_neg h] at a;cases a
theorem zb2 (ops:List MOp)(a b:Int)(c:qK ops a b=true):qK ops 65536 65536=true:=by
 simp only [qK,zaA,Bool.and_eq_true,decide_eq_true_eq] at c ⊢;obtain ⟨⟨⟨⟨⟨j,d⟩,k⟩,e⟩,f⟩,g⟩:=c;obtain ⟨h,i⟩:=Option.isSome_iff_exists.1 g;rw [zhB a b d e _ _ _ _ h i];exact ⟨⟨⟨⟨⟨by omega,by omega⟩,by omega⟩,by omega⟩,f⟩,rfl⟩
end Go.Proofs.YtklofgfkaaoipaaGreatDoor

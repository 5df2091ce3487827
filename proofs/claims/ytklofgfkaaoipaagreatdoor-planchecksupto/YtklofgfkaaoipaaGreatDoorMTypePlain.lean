/-
  THE PLAIN MIRROR of check.Check: the shapes of a tree's expressions.
-/
import Derived.Test.YtklofgfkaaoipaaGreatDoorMParsePlain
import Derived.Test.YtklofgfkaaoipaaGreatDoorMMem
import Derived.IntWalk
import Derived.WalkSpells
import Derived.OwnWalk
import Derived.Deep.LoopGhost
import Derived.BigRegion
import Derived.Deep.DeepCutAuto
import Derived.Deep.RegionWith
import Derived.Test.YtklofgfkaaoipaaGreatDoorMLexPlain
import Derived.Maps.OwnOps
import Derived.Maps.OwnSet
import Derived.Maps.Views
import Derived.Test.YtklofgfkaaoipaaGreatDoorMParB
import Derived.Deep.QuietTactic
import Derived.BigQuiet
import Derived.WalkLawsBesides
import Derived.Shelf.Abstract
import Derived.Test.YtklofgfkaaoipaaGreatDoorMHd
set_option maxHeartbeats 16000000
set_option maxRecDepth 100000
set_option linter.unusedSimpArgs false
set_option linter.unusedVariables false
namespace Go.Proofs.YtklofgfkaaoipaaGreatDoor
open Go.Proofs.Tryz
def YJ (k:Nat):Int:=
 if k=1∨k=2 then 0 else if k=3∨k=9∨k=10∨k=11∨k=12 then 1 else if k=4∨k=5∨k=6∨k=7∨k=8∨k=13 then 2 else if k=14 then 3 else -1
def zhe:Nat→List MExpr→Bool
 |_, []=>true
 |b,a::c=>decide (YJ a.kind=(a.args.length:Int))&&a.args.all (fun d=>decide (d<b))&&zhe (b+1) c
def znG (n:Nat)(s:MStmt):Bool:=s.kind==1||s.kind==3||(s.kind==2&&decide (s.expr<n))
def zcS (b:List MStmt)(a:List MExpr):Bool:=zhe 0 a&&b.all (znG a.length)
def zbd (x y:List Int):List Int×Bool:=if x=[] then (y,true) else (x,decide (y=[])||decide (x=y))
def zqQ (x y:List Int):List Int×Bool:=if x=[]∨y=[]∨x.getLast? ≠y.head? then ([],false) else (x.dropLast++y.tail,true)
def YL (k n:Nat)(x:List (List Int)):List Int×Bool:=
 if k=9 then (x.getD 0 [],decide (n≤63)) else if k=3∨k=10 then (x.getD 0 [],true) else if k=12 then ([],decide ((x.getD 0 []).length=1))
 else if k=4∨k=5∨k=6∨k=8∨k=13 then zbd (x.getD 0 []) (x.getD 1 []) else if k=7 then zqQ (x.getD 0 []) (x.getD 1 [])
 else if k=14 then (x.getD 1 [],decide (x.getD 1 []=x.getD 2 [])&&(decide (x.getD 0 []=[])||decide (x.getD 0 []=x.getD 1 []))) else ([],true)
def YO (c:List MExpr):Nat→List Nat→List Nat
 |0,a=>a
 |b+1,a=>YO c b (((c.map (·.args)).getD b []).foldl (fun a d=>a.set d (a.getD d 0 ||| a.getD b 0)) a)
def YK (b:List MExpr)(a:Nat):List Nat:=YO b (a+1) ((List.replicate (a+1) 0).set a 1)
structure TS where
 names:List (List Nat×List Int)
 shapes:List (List Int)
def YI (l:List (List Nat×List Int))(x:List Nat):Option (List Int):=l.lookup x
def zP (d:List MExpr)(names:List (List Nat×List Int)):List Nat→Nat→List (List Int)→Except Int (List (List Int))
 |[],_,a=> .ok a
 |h::e,b,a=>
  if h=0 then zP d names e (b+1) a
  else
   let c:=d.getD b ⟨0, [],0, [],0⟩
   let f:=YL c.kind c.num (c.args.map fun i=>a.getD i [])
   if c.kind=2 then match YI names c.name with
    |none=> .error 140
    |some g=>if qN g=0 then .error 141 else zP d names e (b+1) (a.set b g)
   else if f.2=false∨qN f.1=0 then .error 141 else zP d names e (b+1) (a.set b f.1)
def ZO (s:TS)(x:List Nat)(a:List Int):Except Int TS:=if (YI s.names x).isSome∨x=[] then .error 140 else .ok {s with names:=s.names++[(x,a)]}
def QU (c:List MExpr):List MStmt→Nat→TS→Except Int TS
 |[],_,b=> .ok b
 |a::f,e,b=>
  if a.kind=1 then
   if (a.party≠0∧a.party≠1)∨qN a.shape=0 then .error 141
   else match ZO b a.name a.shape with
    |.error d=> .error d
    |.ok g=>if 8<e+1 then .error 5 else QU c f (e+1) g
  else if a.kind=2 then
   match zP c b.names (YK c a.expr) 0 b.shapes with
   |.error d=> .error d
   |.ok h=>match ZO {b with shapes:=h} a.name (h.getD a.expr []) with
    |.error d=> .error d
    |.ok g=>QU c f e g
  else if (YI b.names a.name).isNone then .error 140 else QU c f e b
def zbc (b:List MStmt)(a:List MExpr):Except Int (List (List Int)):=
 if zcS b a then (match QU a b 0 ⟨[],List.replicate a.length []⟩ with | .error c=> .error c | .ok d=> .ok d.shapes) else .error 130
def qL (b:List MStmt)(p:Nat):List (List Int):=(b.filter fun a=>a.kind==1&&a.party==p).map (·.shape)
end Go.Proofs.YtklofgfkaaoipaaGreatDoor
namespace Go.Proofs.YtklofgfkaaoipaaGreatDoor
open Go.RowKit Go.Proofs.Tryz
def zck (k:Nat):Nat:=if k=1 then 2 else if 3≤k∧k≤14 then k else 0
theorem zm4 (k:Nat)(w:World):Calls prog 159 #[.int .i64 k] w fun b c=>b= .returned (.int .i64 (YJ k))∧w=c:=by
 rcases Nat.lt_or_ge k 15 with a | a
 ·have d:k=0∨k=1∨k=2∨k=3∨k=4∨k=5∨k=6∨k=7∨k=8∨k=9∨k=10∨k=11∨k=12∨k=13∨k=14:=by omega
  clear a;rcases d with rfl | rfl | rfl | rfl | rfl | rfl | rfl | rfl | rfl | rfl | rfl | rfl | rfl | rfl | rfl
  all_goals (go_enter func159,ntmps159;go_wp2;go_ret;exact ⟨rfl,rfl⟩)
 have k1:((k:Int)==1)=false:=by simp;omega
 have k2:((k:Int)==2)=false:=by simp;omega
 have k3:((k:Int)==3)=false:=by simp;omega
 have k4:((k:Int)==4)=false:=by simp;omega
 have k5:((k:Int)==5)=false:=by simp;omega
 have k6:((k:Int)==6)=false:=by simp;omega
 have k7:((k:Int)==7)=false:=by simp;omega
 have k8:((k:Int)==8)=false:=by simp;omega
 have k9:((k:Int)==9)=false:=by simp;omega
 have k10:((k:Int)==10)=false:=by simp;omega
 have k11:((k:Int)==11)=false:=by simp;omega
 have k12:((k:Int)==12)=false:=by simp;omega
 have k13:((k:Int)==13)=false:=by simp;omega
 have k14:((k:Int)==14)=false:=by simp;omega
 rw [show YJ k= -1 by unfold YJ;(repeat rw [if_neg (by omega)])];go_enter func159,ntmps159;go_wp2;go_ret;exact ⟨rfl,rfl⟩
theorem zbZ (k:Nat)(w:World):Calls prog 112 #[.int .i64 k] w fun b c=>b= .returned (.int .i64 (zck k))∧w=c:=by
 rcases Nat.lt_or_ge k 15 with a | a
 ·have d:k=0∨k=1∨k=2∨k=3∨k=4∨k=5∨k=6∨k=7∨k=8∨k=9∨k=10∨k=11∨k=12∨k=13∨k=14:=by omega
  clear a;rcases d with rfl | rfl | rfl | rfl | rfl | rfl | rfl | rfl | rfl | rfl | rfl | rfl | rfl | rfl | rfl
  all_goals (go_enter func112,ntmps112;go_wp2;go_ret;exact ⟨rfl,rfl⟩)
 have k1:((k:Int)==1)=false:=by simp;omega
 have k2:((k:Int)==2)=false:=by simp;omega
 have k3:((k:Int)==3)=false:=by simp;omega
 have k4:((k:Int)==4)=false:=by simp;omega
 have k5:((k:Int)==5)=false:=by simp;omega
 have k6:((k:Int)==6)=false:=by simp;omega
 have k7:((k:Int)==7)=false:=by simp;omega
 have k8:((k:Int)==8)=false:=by simp;omega
 have k9:((k:Int)==9)=false:=by simp;omega
 have k10:((k:Int)==10)=false:=by simp;omega
 have k11:((k:Int)==11)=false:=by simp;omega
 have k12:((k:Int)==12)=false:=by simp;omega
 have k13:((k:Int)==13)=false:=by simp;omega
 have k14:((k:Int)==14)=false:=by simp;omega
 rw [show zck k=0 by unfold zck;(repeat rw [if_neg (by omega)])];go_enter func112,ntmps112;go_wp2;go_ret;exact ⟨rfl,rfl⟩
theorem znW (x y:List Int)(f g:Value)(w:World)(h:Arr w.heap.size w 1 f x.length (ints x))(i:Arr w.heap.size w 1 g y.length (ints y)):
  Calls prog 201 #[f,g] w fun a q=>∃j,a= .returned (.tuple #[j,.bool (zbd x y).2])∧((j=f∧(zbd x y).1=x)∨(j=g∧(zbd x y).1=y))∧Below w.heap.size w q:=by
 have m:=Z h;have n:=Z i;obtain ⟨_,_,rfl,-,-,-,-⟩:=h.open;obtain ⟨_,_,rfl,-,-,-,-⟩:=i.open;clear h i
 by_cases b:x.length=0
 ·obtain rfl:=List.eq_nil_of_length_eq_zero b
  simp only [List.length_nil] at m ⊢;have c:=Z (show zbd [] y=(y,true) by simp [zbd]);rw [c.out];clear b;go_enter func201,ntmps201;go_wp2_with fail;go_ret2;exact ⟨_,rfl,by simp,Below.refl _ _⟩
 ·have d:x≠[]:=fun a=>b (by rw [a];rfl)
  have:((x.length:Int)==0)=false:=by simp;omega
  by_cases e:y.length=0
  ·obtain rfl:=List.eq_nil_of_length_eq_zero e
   have c:=Z (show zbd x []=(x,true) by simp [zbd,d]);rw [c.out];simp only [List.length_nil] at n ⊢;clear b e d;go_enter func201,ntmps201;go_wp2_with fail;go_ret2;exact ⟨_,rfl,by simp,Below.refl _ _⟩
  ·have o:y≠[]:=fun a=>e (by rw [a];rfl)
   have k1:((y.length:Int)==0)=false:=by simp;omega
   obtain ⟨k,l⟩:∃k,decide (x=y)=k:=⟨_,rfl⟩;have r:=Z l;have c:=Z (show zbd x y=(x,k) by simp [zbd,d,o,←l]);rw [c.out];clear b e d o l;go_enter func201,ntmps201;go_wp2_with (go_at_call 21;refine (Qu _ _ x y _ m n).mono ?_;rw [r.out];rintro a s ⟨rfl,t,p⟩;have u:=Z (show Below w.heap.size w s by rw [p];exact qC (Below.refl _ _) t);clear p);go_ret2;exact ⟨_,rfl,by simp,u⟩
structure ExAt (B:Nat)(w:World)(ev:Value)(es:List MExpr)(evs:List Value):Prop where
 row:Arr B w 5 ev es.length (ecl es evs)
 args:ZR B w evs (es.map fun e=>ints (e.args.map Int.ofNat))
 ok:∀i,∀h:i<es.length,∀a∈es[i].args,a<i
 small:es.length≤1000
theorem ExAt.later {B B':Nat}{w b:World}{c:Value}{d:List MExpr}{e:List Value}(a:ExAt B w c d e)(f:Below B w b)(g:B≤B'):ExAt B' b c d e:=⟨a.row.later f g,a.args.later f g,a.ok,a.small⟩
theorem zd3:∀(b:List MExpr) (c:List Value) (a:Nat) (f:a<b.length) (g:a<c.length),(ecl b c)[a * 5]? =some (.int .i64 b[a].kind)∧(ecl b c)[a * 5+1]? =some (.string (qx b[a].name))∧(ecl b c)[a * 5+2]? =some (.int .u64 b[a].num)∧(ecl b c)[a * 5+3]? =some c[a]∧(ecl b c)[a * 5+4]? =some (.int .i64 b[a].pos)
 |h::b,i::c,0,_,_=>by simp [ecl]
 |h::b,i::c,a+1,f,g=>by
  have ih:=zd3 b c a (by simpa using f) (by simpa using g);have d:∀e,(ecl (h::b) (i::c))[(a+1) * 5+e]? =(ecl b c)[a * 5+e]? :=fun e=>by
   have:(a+1) * 5+e=a * 5+e+5:=by omega
   rw [this];simp [ecl]
  have j:=d 0;simp only [Nat.add_zero] at j;rw [j,d 1,d 2,d 3,d 4];simpa using ih
theorem zf9 (d:List MExpr):∀(c:Nat) (a:List Nat),(YO d c a).length=a.length
 |0,_=>rfl
 |c+1,a=>by
  rw [YO,zf9 d c];generalize (d.map (·.args)).getD c []=b;have g:∀(b:List Nat) (e:List Nat),(b.foldl (fun a f=>a.set f (a.getD f 0 ||| a.getD c 0)) e).length=e.length:=fun b=>by
   induction b with
   |nil=>exact fun _=>rfl
   |cons f b ih=>intro e;rw [List.foldl_cons,ih];simp
  exact g b a
theorem zlE (C a:Nat)(N:Value)(g:List MExpr)(q:List Value)(w:World)(O:w.cell? ⟨C,1,none⟩=some N)(i:ExAt w.heap.size w N g q)(aT:a<g.length):
  Calls prog 163 #[.pointer (some ⟨C,0,none⟩),.int .i64 a] w fun aw Q=>
   ∃R,aw= .returned R∧Q.ownsRow w.heap.size 3 1 R (a+1) (ints ((YK g a).map Int.ofNat))∧Below w.heap.size w Q:=by
 have S:=Z i;have ax:=World.block_lt_of_cell? w _ O;have aU:=i.small;have aV:q.length=g.length:=by have:=i.args.length;simpa using this
 obtain ⟨_,_,rfl,_,ay,-,T⟩:=i.row.open;obtain ⟨az,aA,rfl,aB,U⟩:=T (by omega);unfold maxLen at ay;have aC:=Z U;obtain ⟨aD,V,m,W,X⟩:=info_parts qD;have Y:=fun (w:World)=>run_make (P:=prog) w 24 3 aD (.int .i64 0) underlying24 V m .i64 .i64 ((a:Int)+1) ((a:Int)+1) (by omega) (by omega) (by rw [X];omega) (by omega)
 have aW:∀(w:World),(Instr.makeSlice 24 (.int .i64 ((a:Int)+1)) (.int .i64 ((a:Int)+1))).run prog w= .ok (.slice (some ⟨w.heap.size,0,none⟩) (a+1) (a+1)) (w.alloc (.cells (ints (List.replicate (a+1) 0)).toArray 3)):=by
  intro w;have:=Y w;rw [W,show ((a:Int)+1).toNat=a+1 by omega,Nat.mul_one,YS] at this;exact this
 obtain ⟨r,A⟩:∃r,YK g a=r:=⟨_,rfl⟩;rw [A];have aE:=Z A;have aX:(a:Int)<1000:=by omega
 have aY:(a:Int)<(g.length:Int):=by omega
 clear i T A U Y V m W X;go_enter func163,ntmps163;go_upto_region 2 with fail;have n:=Z (show (w.alloc (.cells (ints (List.replicate (a+1) 0)).toArray 3)).heap[w.heap.size]? =some (.cells (ints (((List.replicate (a+1) 0:List Nat)).map Int.ofNat)).toArray 3 (0,0)) by rw [List.map_replicate];exact heap_alloc_new _ _);have B:=Z ((Below.refl w.heap.size w).alloc (Nat.le_refl _) (.cells (ints (List.replicate (a+1) 0)).toArray 3));obtain ⟨j,aF⟩:∃j,w.heap.size=j:=⟨_,rfl⟩;generalize w.alloc (.cells (ints (List.replicate (a+1) 0)).toArray 3)=aa at n B ⊢;rw [aF] at n ⊢;have D:w.heap.size≤j:=by omega
 have aZ:=qd n;obtain ⟨aG,aH⟩:=qV n a (by simp);go_wp2_with fail;have E:=Z (Below.set B D a (.int .i64 1));have F:=Z (show (aa.setCell ⟨j,a,none⟩ (.int .i64 1)).heap[j]? =some (.cells (ints ((((List.replicate (a+1) 0).set a 1:List Nat)).map Int.ofNat)).toArray 3 (0,0)) by rw [List.map_set];exact zo n a 1);generalize aa.setCell ⟨j,a,none⟩ (.int .i64 1)=a0 at E F ⊢;clear aG aH;go_loopg [6] (a+1) (fun G H wr=>∃(o:Nat) (s:Int) (e:List Nat),G=o∧H= .int .i64 s∧s=(o:Int)-1∧o≤a+1∧e.length=a+1∧(∀l∈e,l=0∨l=1)∧Hid (YO g o e=r)∧Hid (wr.heap[j]? =some (.cells (ints (e.map Int.ofNat)).toArray 3 (0,0)))∧Hid (Below w.heap.size w wr))
 case atStart=>
  refine ⟨a+1,a,(List.replicate (a+1) 0).set a 1,rfl,rfl,by omega,Nat.le_refl _,by simp,fun l I=> ?_,aE,F,E⟩;rcases List.mem_or_eq_of_mem_set I with i | i
  ·exact .inl (List.eq_of_mem_replicate i)
  ·exact .inr i
 case round=>
  obtain ⟨o,s,e,_,rfl,ab,_,x,aI,J,ac,t⟩:=hrel;clear F E n B;rcases o with _ | b
  ·have m:s= -1:=by omega
   subst m;clear ab;go_wp2_with fail;go_ret;have k:=J.out;simp only [YO] at k;subst k;refine ⟨_,rfl,⟨by simp [ints,x],.inr ⟨j,a+1,_,rfl,D,ac,Nat.le_refl _,by unfold maxLen;omega,by simp [ints,x],?_⟩⟩,t⟩;rw [List.take_of_length_le (by simp [ints,x])]
  ·have m:s=(b:Int):=by omega
   subst m;clear ab;have y:b<g.length:=by omega
   have ad:b<q.length:=by omega
   obtain ⟨-,-,-,ae,-⟩:=zd3 g q b y ad;have af:=(t.cell (p:=⟨az,aA+(b * 5+3),none⟩) aB).trans ((aC (b * 5+3) (by omega)).trans ae);rw [←Nat.add_assoc] at af;have a1:=(t.cell (p:=⟨C,1,none⟩) ax).trans O;have u:=S.args.get b ad (by simpa using y);have K:=S.ok b y;simp only [List.getElem_map,qP,List.length_map] at u;have ag:YO g (b+1) e=YO g b (g[b].args.foldl (fun e c=>e.set c (e.getD c 0 ||| e.getD b 0)) e):=by
    rw [YO];congr 2;simp [List.getD,y]
   have ah:=Z (ag.symm.trans J);generalize g[b].args=h at u K ah;generalize q[b]=a2 at u af;obtain ⟨_,_,rfl,_,aJ,-,ai⟩:=u.open;have aK:=Z ai;have aL:=Z K;have a3:(0:Int)≤(b:Int):=by omega
   have a4:(b:Int)<(g.length:Int):=by omega
   have a5:=t.size;unfold maxLen at aJ;clear u K ag J ai ae;go_wp2_with fail;go_loopg [30] h.length (fun G H aj=>∃(f:Nat) (d:List Nat),f≤h.length∧G=h.length-f∧H= .int .i64 f∧d.length=a+1∧(∀l∈d,l=0∨l=1)∧Hid (YO g b ((h.drop f).foldl (fun e c=>e.set c (e.getD c 0 ||| e.getD b 0)) d)=r)∧Hid (aj.heap[j]? =some (.cells (ints (d.map Int.ofNat)).toArray 3 (0,0)))∧Hid (Below w.heap.size w aj))
   case atStart=>exact ⟨0,e,Nat.zero_le _,rfl,rfl,x,aI,ah,ac,t⟩
   case round=>
    obtain ⟨f,d,_,_,rfl,ak,z,al,v,L⟩:=hrel
    by_cases M:f<h.length
    ·obtain ⟨aM,aN,rfl,aO,am⟩:=aK.out (by omega)
     have aP:_=some (Value.int .i64 (h[f]:Int)):=(L.cell (p:=⟨aM,aN+f,none⟩) aO).trans ((am f (by omega)).trans (by simp [ints,M]));have aQ:=aL.out h[f] (List.getElem_mem M);have an:=List.drop_eq_getElem_cons M;have p:=Z (show YO g b ((h.drop (f+1)).foldl (fun e c=>e.set c (e.getD c 0 ||| e.getD b 0)) (d.set h[f] (d.getD h[f] 0 ||| d.getD b 0)))=r by have k:=al.out;rw [an,List.foldl_cons] at k;exact k);generalize h[f]=c at aP aQ p;obtain ⟨ao,_⟩:=qV v c (by simp;omega);obtain ⟨ap,-⟩:=qV v b (by simp;omega);have aq:(d.map Int.ofNat).getD c 0=((d.getD c 0:Nat):Int):=by simp [List.getD,show c<d.length by omega]
     have ar:(d.map Int.ofNat).getD b 0=((d.getD b 0:Nat):Int):=by simp [List.getD,show b<d.length by omega]
     have au:d.getD c 0=0∨d.getD c 0=1:=z _ (by rw [List.getD_eq_getElem?_getD,List.getElem?_eq_getElem (by omega)];exact List.getElem_mem _);have av:d.getD b 0=0∨d.getD b 0=1:=z _ (by rw [List.getD_eq_getElem?_getD,List.getElem?_eq_getElem (by omega)];exact List.getElem_mem _);rw [aq] at ao;rw [ar] at ap;have a6:=qd v;have a7:(0:Int)≤(c:Int):=by omega
     have a8:(c:Int)<(a:Int)+1:=by omega
     have a9:(b:Int)<(a:Int)+1:=by omega
     have ba:(0:Int)≤(f:Int):=by omega
     have bb:(f:Int)<(h.length:Int):=by omega
     have bc:c≠b:=by omega
     generalize aR:d.getD c 0=bd at ao au p;generalize aS:d.getD b 0=be at ap av p;clear aR aS aq ar an am;rcases au with rfl | rfl<;>rcases av with rfl | rfl
     all_goals
      go_wp2_with fail
      first | go_region | (fail "region")
      all_goals
       go_wp2_with fail;go_roundg (h.length-(f+1))
       case measure=>omega
       case rel=>
        refine ⟨f+1,_,by omega,rfl,by go_num,?_,?_,p,Z (by rw [List.map_set];exact zo v c _),(Below.set L D c _).drew⟩
        ·rw [List.length_set];exact ak
        ·intro l I
         rcases List.mem_or_eq_of_mem_set I with i | i
         ·exact z l i
         ·rw [i];decide
    ·obtain rfl:f=h.length:=by omega
     have k:=al.out;rw [List.drop_length,List.foldl_nil] at k;have p:=Z k;clear k;go_wp2_with fail;go_roundg b
     case measure=>omega
     case rel=>exact ⟨b,(b:Int)-1,d,rfl,by go_num,rfl,by omega,ak,z,p,v,L⟩
end Go.Proofs.YtklofgfkaaoipaaGreatDoor
namespace Go.Proofs.YtklofgfkaaoipaaGreatDoor
open Go.Proofs.Tryz
variable {h:List MExpr}
theorem zga:∀(b:List MExpr) (d:Nat),zhe d b=true→∀a,∀e:a<b.length,YJ b[a].kind=(b[a].args.length:Int)∧∀c∈b[a].args,c<d+a
 |[],_,_,a,e=>absurd e (by simp)
 |h::b,d,f,a,e=>by
  simp only [zhe,Bool.and_eq_true,decide_eq_true_eq,List.all_eq_true] at f;rcases a with _ | a
  ·exact ⟨f.1.1,fun c g=>by simpa using f.1.2 c g⟩
  ·have:=zga b (d+1) f.2 a (by simpa using e)
   simp only [List.getElem_cons_succ];exact ⟨this.1,fun c g=>by have:=this.2 c g;omega⟩
theorem QC {e:List MStmt}(d:zcS e h=true):
  (∀a,∀d:a<h.length,YJ h[a].kind=(h[a].args.length:Int)∧∀f∈h[a].args,f<a)∧∀b∈e,b.kind=1∨b.kind=3∨(b.kind=2∧b.expr<h.length):=by
 simp only [zcS,Bool.and_eq_true,List.all_eq_true] at d;refine ⟨fun a g=>by have:=zga h 0 d.1 a g;simpa using this,fun b i=> ?_⟩;have:=d.2 b i;simp only [znG,Bool.or_eq_true,Bool.and_eq_true,beq_iff_eq,decide_eq_true_eq] at this;rcases this with (c | c) | c
 ·exact .inl c
 ·exact .inr (.inl c)
 ·exact .inr (.inr c)
theorem ze9 (b:List MExpr)(a:Nat):(YK b a).length=a+1:=by unfold YK;rw [zf9];simp
theorem zhd {names:List (List Nat×List Int)}{m:Nat}{d:List Nat}{i:Nat}{c e:List (List Int)}(a:zP h names (m::d) i c= .ok e)(k:i<h.length):
  (m=0∧zP h names d (i+1) c= .ok e)∨
  (m≠0∧h[i].kind=2∧∃b,YI names h[i].name=some b∧qN b≠0∧zP h names d (i+1) (c.set i b)= .ok e)∨
  (m≠0∧h[i].kind≠2∧∃b,YL h[i].kind h[i].num (h[i].args.map fun l=>c.getD l [])=(b,true)∧qN b≠0∧zP h names d (i+1) (c.set i b)= .ok e):=by
 have n:h.getD i ⟨0, [],0, [],0⟩=h[i]:=by simp [List.getD,k]
 unfold zP at a
 split at a
 ·rename_i f
  exact .inl ⟨f,a⟩
 ·rename_i f
  simp only [n] at a
  split at a
  ·rename_i g
   split at a
   ·cases a
   ·rename_i b o
    split at a
    ·cases a
    ·rename_i j
     exact .inr (.inl ⟨f,g,b,o,j,a⟩)
  ·rename_i g
   split at a
   ·cases a
   ·rename_i j
    obtain ⟨p,q⟩:=not_or.1 j;refine .inr (.inr ⟨f,g,_,?_,q,a⟩);rw [Prod.ext_iff];exact ⟨rfl,by simpa using p⟩
end Go.Proofs.YtklofgfkaaoipaaGreatDoor
namespace Go.Proofs.YtklofgfkaaoipaaGreatDoor
open Go.RowKit Go.Proofs.Tryz
variable {B b n M k O C:Nat}{w F W D:World}{E K I J:List Value}{x y:List Int}{f:List Nat→Option Value}{names:List (List Nat×List Int)}{v h A L:Value}{N:Array MapEntry}{e:TypeId}{G:List MStmt}{H:List MExpr}
def zbi (w:World)(r:List Int×Bool)(e:Ending)(a:World):Prop:=
 ∃b,e= .returned (.tuple #[b,.bool r.2])∧a.ownsRow 0 3 1 b r.1.length (ints r.1)∧Below w.heap.size w a
def ShO (w:World)(b:Value)(c:List (List Int)):Prop:=∃a,Arr w.heap.size w 1 b a.length a∧qj 0 w a c
abbrev exV (k n:Nat)(a:ByteArray)(b:Value)(pos:Int):Value:= .agg #[.int .i64 k,.string a,.int .u64 n,b,.int .i64 pos]
theorem qj.single (b:qj B w E [x]):∃a,E=[a]∧w.ownsRow B 3 1 a x.length (ints x):=by
 match E,b with
 |[a],b=>exact ⟨a,rfl,b.1⟩
theorem qj.double (a:qj B w E [x,y]):∃b c,E=[b,c]∧w.ownsRow B 3 1 b x.length (ints x)∧w.ownsRow B 3 1 c y.length (ints y):=by
 match E,a with
 |[b,c],a=>exact ⟨b,c,rfl,a.1,a.2.1⟩
theorem zhs (k n:Nat)(d:ByteArray)(a:Value)(pos:Int)(e:Value)(b:List (List Int))(w:World)(f:∃g h i,a= .slice g h i)(c:k=1∨k=2∨k=11):
  Calls prog 164 #[exV k n d a pos,e] w (zbi w (YL k n b)):=by
 obtain ⟨_,_,_,rfl⟩:=f;have j:=Z (show YL k n b=([],true) by unfold YL;rcases c with rfl | rfl | rfl<;>rfl);rw [j.out];rcases c with rfl | rfl | rfl
 all_goals
  go_enter func164,ntmps164;go_wp2_with fail;go_ret2;exact ⟨_,rfl,World.ownsRow_nil _ _ _ _,(Below.refl _ _).alloc (Nat.le_refl _) _⟩
theorem ziU (k n:Nat)(g:ByteArray)(h:Value)(pos:Int)(i:Value)(x:List Int)(w:World)(q:∃r s t,h= .slice r s t)(u:k=9∨k=3∨k=10∨k=12)(v:ShO w i [x]):
  Calls prog 164 #[exV k n g h pos,i] w (zbi w (YL k n [x])):=by
 obtain ⟨y,z,A,rfl⟩:=q;obtain ⟨_,e,j⟩:=v;obtain ⟨B,rfl,f⟩:=qj.single j;obtain ⟨_,C,rfl,D,_,-,l⟩:=e.open;obtain ⟨E,F,rfl,_,m⟩:=l (by simp);have:w.cell? ⟨E,F,none⟩=some B:=m 0 (by simp);simp only [List.length_cons,List.length_nil,Nat.zero_add] at e D ⊢;have o:=Z f;obtain ⟨_,_,rfl,-,-⟩:=qg f;have:(1:Int)≤(C:Int):=by omega
 have d:=Z ((Below.refl w.heap.size w).alloc (Nat.le_refl _) (.cells #[.int .i64 k,.string g,.int .u64 n,.slice y z A,.int .i64 pos] 146));have p:=Z (Below.owns o d);clear f j m l e;rcases u with rfl | rfl | rfl | rfl
 ·obtain ⟨a,b⟩:∃a,decide (n≤63)=a:=⟨_,rfl⟩
  have c:=Z (show YL 9 n [x]=(x,a) by rw [←b];rfl);have G:decide ((n:Int)≤63)=a:=by rw [←b];simp;omega
  rw [c.out];clear b;go_enter func164,ntmps164;go_wp2_with fail
  first | go_quiet (fail) | (fail "region")
  go_wp2_with fail;go_ret2;exact ⟨_,rfl,Below.owns o (qC d _),qC d _⟩
 ·have c:=Z (show YL 3 n [x]=(x,true) from rfl)
  rw [c.out];go_enter func164,ntmps164;go_wp2_with fail;go_ret2;exact ⟨_,rfl,p,d⟩
 ·have c:=Z (show YL 10 n [x]=(x,true) from rfl)
  rw [c.out];go_enter func164,ntmps164;go_wp2_with fail;go_ret2;exact ⟨_,rfl,p,d⟩
 ·obtain ⟨a,b⟩:∃a,decide (x.length=1)=a:=⟨_,rfl⟩
  have c:=Z (show YL 12 n [x]=([],a) by rw [←b];rfl);have G:((x.length:Int)==1)=a:=by rw [←b,Bool.eq_iff_iff];simp;omega
  rw [c.out];clear b;go_enter func164,ntmps164;go_wp2_with fail
  first | go_quiet (fail) | (fail "region")
  go_wp2_with fail;go_ret2;exact ⟨_,rfl,World.ownsRow_nil _ _ _ _,qC d _⟩
theorem znX {r:List Int}{b c a:Value}(d:(a=b∧r=x)∨(a=c∧r=y))(e:w.ownsRow 0 3 1 b x.length (ints x))(f:w.ownsRow 0 3 1 c y.length (ints y)):w.ownsRow 0 3 1 a r.length (ints r):=by
 rcases d with ⟨rfl,rfl⟩ | ⟨rfl,rfl⟩
 ·exact e
 ·exact f
theorem ziV (k n:Nat)(v:ByteArray)(i:Value)(pos:Int)(j:Value)(x y:List Int)(w:World)(z:∃A B C,i= .slice A B C)(l:k=4∨k=5∨k=6∨k=8∨k=13)(D:ShO w j [x,y]):
  Calls prog 164 #[exV k n v i pos,j] w (zbi w (YL k n [x,y])):=by
 obtain ⟨_,_,_,rfl⟩:=z;obtain ⟨_,a,m⟩:=D;obtain ⟨E,F,rfl,b,c⟩:=qj.double m;obtain ⟨_,G,rfl,H,_,-,o⟩:=a.open;obtain ⟨p,q,rfl,_,d⟩:=o (by simp);have:w.cell? ⟨p,q,none⟩=some E:=d 0 (by simp);have:w.cell? ⟨p,q+1,none⟩=some F:=d 1 (by simp);simp only [List.length_cons,List.length_nil,Nat.zero_add] at a H ⊢;have r:=Z b;have s:=Z c;obtain ⟨_,_,rfl,-,-⟩:=qg b;obtain ⟨_,_,rfl,-,-⟩:=qg c;have:(2:Int)≤(G:Int):=by omega
 obtain ⟨⟨e,I⟩,f⟩:∃e,zbd x y=e:=⟨_,rfl⟩;have J:=Z f;have K:=Z (show YL k n [x,y]=(e,I) by rw [←f];rcases l with rfl | rfl | rfl | rfl | rfl<;>rfl);rw [K.out];clear b c m d o a f;rcases l with rfl | rfl | rfl | rfl | rfl
 all_goals
  go_enter func164,ntmps164;go_wp2_with fail
  first | (go_region_with (go_at_call 201;refine (znW x y _ _ _ ((Arr.of_owns r).later (((Below.refl w.heap.size w).alloc (Nat.le_refl _) _).drew) (((Below.refl w.heap.size w).alloc (Nat.le_refl _) _).drew).size) ((Arr.of_owns s).later (((Below.refl w.heap.size w).alloc (Nat.le_refl _) _).drew) (((Below.refl w.heap.size w).alloc (Nat.le_refl _) _).drew).size)).mono ?_;rw [J.out];rintro _ _ ⟨_,rfl,t,u⟩;have g:=Z ((((Below.refl w.heap.size w).alloc (Nat.le_refl _) _).drew).trans (u.mono (((Below.refl w.heap.size w).alloc (Nat.le_refl _) _).drew).size));have h:=znX t (Below.owns r g) (Below.owns s g);have L:=Z h;obtain ⟨_,_,rfl,-,-⟩:=qg h;clear t h u)) | (fail "region")
  all_goals
   go_wp2_with fail;go_ret2;exact ⟨_,rfl,L,g⟩
theorem zgr:Maps.Keyed prog 9:=Maps.string_keyed underlying9
theorem znY (w:World):(zeroValue 24).run prog w= .ok (.slice none 0 0) w:=by kernel_rfl
def zdx (v:Value):Option (DataW Value×List MemPlace):=some (.held v, [])
def zhK (x:List Nat):Lit:= .string (qx x).data.toList
theorem zgs (x:List Nat)(a:x.length≤10000):keyOf prog 9 (.string (qx x))=some (zhK x):=
 WideMaps.keyOf_string_mk underlying9 (by rw [zf7];unfold maxLen;omega)
def YM (w:World)(b n:Nat)(f:List Nat→Option Value):Prop:=
 ∃c:DataW Value,w.ownsMap prog 9 zdx b n c∧∀a,(∀e∈a,e<256)→∀d,c.atKey (zhK a) d=match f a with | some g=> .held g | none=>d
theorem YM.made (w:World):YM (w.alloc (.map #[] 0)) w.heap.size 0 (fun _=>none):=⟨_,World.ownsMap_made _ _ _ _,fun _ _ _=>rfl⟩
theorem YM.lt (a:YM w b n f):b<w.heap.size:=by obtain ⟨_,c,_⟩:=a;exact c.lt
theorem YM.kept {a:Option Nat}(c:YM w b n f)(d:w.grownBy F a)(e:some b≠a):YM F b n f:=by obtain ⟨g,h,i⟩:=c;exact ⟨g,h.kept d e,i⟩
theorem YM.mono {a:Nat}(c:YM w b n f)(d:n≤a):YM w b a f:=by obtain ⟨e,g,h⟩:=c;exact ⟨e,g.mono d,h⟩
theorem YM.look (j:YM w b n f)(x:List Nat)(k:x.length≤10000)(l:∀m∈x,m<256):
  (Instr.lookup 227 (.map (some b)) (.string (qx x)) true).run prog w= .ok (match f x with | some d=> .tuple #[d,.bool true] | none=> .tuple #[.slice none 0 0,.bool false]) w:=by
 obtain ⟨_,⟨_,_,o,p,_,rfl⟩,q⟩:=j;have e:=q x l;rcases Maps.fit_look true zgr underlying227 (znY _) o p (zgs x k) with ⟨g,_,c⟩ | ⟨h,i,_,_,g,r,c,_⟩
 ·rcases hf:f x with _ | d
  ·rw [g];rfl
  ·exfalso
   have a:=e .nil;rw [c .nil,hf] at a;cases a
 ·obtain rfl:i=(.held h.val, []):=by have:zdx h.val=some i:=r;unfold zdx at this;exact (Option.some.inj this).symm
  rcases hf:f x with _ | d
  ·exfalso
   have a:=e .nil;rw [c .nil,hf] at a;cases a
  ·have a:=e .nil
   rw [c .nil,hf] at a;simp only [DataW.held.injEq] at a;rw [g,a];rfl
theorem zmP {x y:List Nat}(c:∀a∈x,a<256)(d:∀a∈y,a<256)(e:x≠y):zhK x≠zhK y:=by
 intro b
 apply e
 unfold zhK at b;simp only [Lit.string.injEq] at b;have f:qF (qx x)=qF (qx y):=by unfold qF;rw [b]
 rwa [zaB c,zaB d] at f
theorem YM.put (h:YM w b n f)(q:n<1000000)(x:List Nat)(i:x.length≤10000)(j:∀k∈x,k<256)(v:Value):
  ∃a,(Instr.mapUpdate 227 (.map (some b)) (.string (qx x)) v).run prog w= .ok () a∧YM a b (n+1) (fun c=>if c=x then some v else f c)∧w.grownBy a (some b):=by
 obtain ⟨_,e,l⟩:=h;obtain ⟨a,m,o,p⟩:=e.update zgr underlying227 (by unfold maxLen;omega) (zgs x i) (show zdx v=some (.held v, []) from rfl);refine ⟨a,m,⟨_,o,fun c g _=> ?_⟩,p⟩
 by_cases d:c=x
 ·subst d
  simp only [if_true];rw [Maps.atKey_put_same e.isMap (by simp [zhK,WideAt.IsKeyLit])]
 ·simp only [d,if_false]
  rw [Maps.atKey_put_other (zmP g j d),l c g]
theorem zhl (c:Int)(pos:Int)(w:World)(d:yC w):Calls prog 103 #[.int .i64 c,.int .i64 pos] w fun e a=>∃b,e= .returned b∧(∃h i,zH a.heap.size a [(h,i)] c b)∧Below w.heap.size w a:=by
 have j:=Z d;clear d;go_enter func103,ntmps103;go_wp2_with (go_at_call 14;refine (yV _ _ _ _ j).mono ?_;rintro e _ ⟨b,rfl,f,g⟩;have k:=Z f;have l:=Z g;obtain ⟨_,_,rfl,-⟩:=f;clear g);go_ret;exact ⟨_,rfl,⟨_,_,k⟩,l⟩
def Yi (W:World)(e n:Nat)(names:List (List Nat×List Int)):Prop:=
 ∃b,YM W e n b∧∀a,(∀f∈a,f<256)→match YI names a with | none=>b a=none | some c=>∃d,b a=some d∧W.ownsRow 0 3 1 d c.length (ints c)
theorem Yi.later (c:Yi W M n names)(b:Below W.heap.size W D):Yi D M n names:=by
 obtain ⟨d,e,f⟩:=c;refine ⟨d,e.kept (yI b) (by simp),fun g h=> ?_⟩;have a:=f g h
 split at a
 ·exact a
 ·obtain ⟨i,j,k⟩:=a;exact ⟨i,j,Below.owns k b⟩
theorem Yi.kept {g:Option Nat}(l:Yi W M n names)(h:W.grownBy D g)(i:∀b,g=some b→∃c a d,W.heap[b]? =some (Obj.cells c a d)∧a≠3):Yi D M n names:=by
 obtain ⟨m,j,o⟩:=l;refine ⟨m,j.kept h (fun p=> ?_),fun q r=> ?_⟩
 ·obtain ⟨c,a,d,e,_⟩:=i M p.symm
  obtain ⟨_,⟨_,_,k,_⟩,_⟩:=j;rw [e] at k;cases k
 ·have f:=o q r
  split at f
  ·exact f
  ·obtain ⟨s,t,u⟩:=f
   exact ⟨s,t,qp u h fun b v=>by obtain ⟨c,a,d,e,w⟩:=i b v;exact .inr (.inr ⟨c,a,d,e,w⟩)⟩
theorem zbt {t:TypeId}(a:W.ownsRow b t k v n K)(e:W.heap[M]? =some (.map N O))(f:W.grownBy D (some M)):D.ownsRow b t k v n K:=by
 refine a.kept f ?_;rcases a.2 with ⟨rfl,_⟩ | ⟨_,_,_,rfl,_,c,_⟩
 ·exact .inl rfl
 ·refine .inr fun d=> ?_
  simp [Value.ownBlock] at d;subst d;rw [e] at c;cases c
theorem YM.blk (d:YM w b n f):∃a c,w.heap[b]? =some (.map a c):=by
 obtain ⟨_,⟨a,c,e,_⟩,_⟩:=d;exact ⟨a,c,e⟩
theorem Yi.blk (a:Yi W M n names):∃b c,W.heap[M]? =some (.map b c):=by
 obtain ⟨_,d,_⟩:=a;exact d.blk
theorem zhT (l:List (List Nat×List Int))(x y:List Nat)(s:List Int):YI (l++[(x,s)]) y=match YI l y with | some b=>some b | none=>if y=x then some s else none:=by
 unfold YI
 induction l with
 |nil=>
  simp only [List.nil_append,List.lookup]
  by_cases a:y=x
  ·subst a;simp
  ·have:(y==x)=false:=by simp [a]
   simp [this,a]
 |cons c l ih=>
  simp only [List.cons_append,List.lookup]
  split
  ·rfl
  ·exact ih
theorem Yi.put (x:List Nat)(v:Value)(l:List Int)(g:YM W M n f)
  (h:∀x,(∀i∈x,i<256)→match YI names x with | none=>f x=none | some l=>∃v,f x=some v∧W.ownsRow 0 3 1 v l.length (ints l)) (j:YI names x=none)
  (k:YM D M (n+1) (fun a=>if a=x then some v else f a)) (d:W.grownBy D (some M)) (m:W.ownsRow 0 3 1 v l.length (ints l)):Yi D M (n+1) (names++[(x,l)]):=by
 obtain ⟨_,_,e⟩:=g.blk;refine ⟨_,k,fun a o=> ?_⟩;rw [zhT]
 by_cases c:a=x
 ·subst c
  rw [j];simp only [if_true];exact ⟨v,rfl,zbt m e d⟩
 ·have b:=h a o
  rcases hl:YI names a with _ | s
  ·rw [hl] at b
   simp only [c,if_false];exact b
  ·rw [hl] at b
   simp only at b;obtain ⟨p,q,r⟩:=b;simp only [c,if_false];exact ⟨p,q,zbt r e d⟩
structure KSt (B C M n:Nat)(sv ev shv:Value)(vs:List Value)(s:TS)(W:World):Prop where
 blk:W.heap[C]? =some (.cells #[sv,ev,.map (some M),shv] 229 (0,0))
 map:Yi W M n s.names
 shp:W.ownsRow B 24 1 shv vs.length vs
 sh:qj 0 W vs s.shapes
 hC:B≤C
 hM:B≤M
 b0:0<B
 eT:yC W
variable {s:TS}
theorem KSt.later (a:KSt B C M n h A L E s W)(b:Below W.heap.size W D):KSt B C M n h A L E s D:=
 ⟨(b.block _ (qd a.blk)).trans a.blk,a.map.later b,Below.owns a.shp b,a.sh.kept (yI b) (Off.none _ _ _),a.hC,a.hM,a.b0,a.eT.below b⟩
theorem KSt.cells (a:KSt B C M n h A L E s W):
  W.cell? ⟨C,0,none⟩=some h∧W.cell? ⟨C,1,none⟩=some A∧W.cell? ⟨C,2,none⟩=some (.map (some M))∧W.cell? ⟨C,3,none⟩=some L:=by
 have b:=a.blk;refine ⟨?_,?_,?_,?_⟩<;>simp [World.cell?,b]
def zd5 (B C b n:Nat)(d f g:Value)(h:List Value)(W:World)(r:Except Int TS)(e:Ending)(a:World):Prop:=
 Below B W a∧match r with
  |.error i=>∃c j k,e= .returned c∧zH a.heap.size a [(j,k)] i c
  |.ok l=>e= .returned .nilIface∧KSt B C b (n+1) d f g h l a∧W.grownBy a (some b)
abbrev stV (a:MStmt)(b:Value):Value:= .agg #[.int .i64 a.kind,.int .i64 a.party,.string (qx a.name),b,.int .i64 a.expr,.int .i64 a.pos]
abbrev stO (a:MStmt)(b:Value):Obj:= .cells #[.int .i64 a.kind,.int .i64 a.party,.string (qx a.name),b,.int .i64 a.expr,.int .i64 a.pos] 149
theorem qj.map (a:W.heap[M]? =some (.map N O))(b:W.grownBy D (some M)):∀{c:List Value} {d:List (List Int)},qj B W c d→qj B D c d
 |[], [],_=>trivial
 |_::_,_::_,e=>⟨zbt e.1 a b,qj.map a b e.2⟩
theorem zh5 (d:Below W.heap.size W D){x:List Nat}(c:match YI names x with | none=>f x=none | some b=>∃a,f x=some a∧W.ownsRow 0 3 1 a b.length (ints b)):
  match YI names x with | none=>f x=none | some b=>∃a,f x=some a∧D.ownsRow 0 3 1 a b.length (ints b):=by
 split at c
 ·exact c
 ·obtain ⟨a,e,g⟩:=c;exact ⟨a,e,Below.owns g d⟩
theorem KSt.put (a:KSt B C M n h A L E s W)(x:List Nat)(v:Value)(l:List Int)(e:YM W M n f)
  (j:∀x,(∀k∈x,k<256)→match YI s.names x with | none=>f x=none | some l=>∃v,f x=some v∧W.ownsRow 0 3 1 v l.length (ints l)) (m:YI s.names x=none)
  (o:YM D M (n+1) (fun g=>if g=x then some v else f g)) (b:W.grownBy D (some M)) (p:W.ownsRow 0 3 1 v l.length (ints l)):
  KSt B C M (n+1) h A L E {s with names:=s.names++[(x,l)]} D:=by
 obtain ⟨_,_,c⟩:=e.blk;refine ⟨(b.block C (qd a.blk) (fun d=> ?_)).trans a.blk,Yi.put x v l e j m o b p,zbt a.shp c b,a.sh.map c b,a.hC,a.hM,a.b0,?_⟩
 ·obtain rfl:C=M:=by simpa using d
  have i:=a.blk;rw [c] at i;cases i
 ·unfold yC
  rw [←a.eT];refine World.cell?_of_block (b.block 0 (by have:=qd a.blk;omega) fun d=> ?_);have:=a.hM;have:=a.b0;simp at d;omega
theorem zhF (c:KSt B C M n h A L E s W)(ay:n<1000)(a:MStmt)(O v:Value)(l:List Int)(X:∃k Y x,O= .slice k Y x)
  (m:W.ownsRow 0 3 1 v l.length (ints l)) (o:∀x∈a.name,x<256) (P:a.name.length≤10000):
  Calls prog 104 #[.pointer (some ⟨C,0,none⟩),stV a O,v] W (zd5 B C M n h A L E W (ZO s a.name l)):=by
 obtain ⟨y,z,D,rfl⟩:=X;have w:=Z c;obtain ⟨Q,p,q⟩:=c.map;have d:=q a.name o;obtain ⟨_,_,_,_⟩:=c.cells;have:=qd c.blk;have F:B≤W.heap.size:=by have:=c.hC;omega
 have e:=Z ((Below.refl W.heap.size W).alloc (Nat.le_refl _) (stO a (.slice y z D)));have f:=fun (G:Nat)=>(show YM ((W.alloc (stO a (.slice y z D))).drewN G) M n Q from (p.kept (yI (qC e G)) (by simp))).look a.name P o
 have aa:=Z p;have ab:=Z q;have ac:=Z m;obtain ⟨ad,ae,rfl,-,-⟩:=qg m;rcases b:YI s.names a.name with _ | az
 ·rw [b] at d
  simp only at d;rw [d] at f;simp only at f;have R:=f 0
  by_cases i:a.name=[]
  ·have r:=Z (show ZO s a.name l= .error 140 by unfold ZO;rw [if_pos (.inr i)])
   have af:((qx a.name).toList==[])=true:=by rw [zdb _ o,i];rfl
   rw [r.out];clear c p q d b i m;go_enter func104,ntmps104;go_wp2_with fail
   first | go_quiet (fail) | (fail "region")
   go_wp2_with (go_at_call 103;refine (zhl _ _ _ (w.eT.below (qC e _))).mono ?_;rintro ag ah ⟨ai,rfl,⟨H,k,t⟩,u⟩;have I:=Z t;have J:=Z (((qC e _).trans (u.mono (qC e _).size)).mono F);obtain ⟨aj,ak,rfl,-,-,-⟩:=t;clear u);go_ret;exact ⟨J,_,H,k,rfl,I⟩
  ·have af:((qx a.name).toList==[])=false:=by rw [zdb _ o];simpa [yA] using i
   have r:=Z (show ZO s a.name l= .ok {s with names:=s.names++[(a.name,l)]} by unfold ZO;rw [if_neg (by rw [b];simpa using i)]);have al:=Z b;rw [r.out];clear c p q d b i m;go_enter func104,ntmps104;go_wp2_with fail
   first | go_quiet (fail) | (fail "region")
   go_wp2_with fail;have j:=qC e (nq+1);have am:=Z (w.later j);have K:YM ((W.alloc (stO a (.slice y z D))).drewN (nq+1)) M n Q:=aa.kept (yI j) (by simp);have an:=Z K;have ao:=Z (fun ap aq=>zh5 j (ab ap aq));have ar:=Z (Below.owns ac j);have g:=Z j;obtain ⟨_,_,S,T⟩:=K.put (by omega) a.name P o (.slice ad l.length ae);have au:=Z S;have N:=Z T;clear K S T j f R
   first | go_region | (fail "region")
   all_goals
    go_wp2_with fail;go_ret;have av:=am.put a.name _ l an ao al au N ar;exact ⟨(g.mono F).grown N (by have:=g.size;omega) (fun G b=>Nat.le_trans w.hM (Nat.le_of_eq (by simpa using b))),rfl,av,World.grownBy.trans ⟨g.os,g.tape,g.output,g.size,fun aw ax _=>g.block aw ax⟩ N⟩
 ·rw [b] at d
  simp only at d;obtain ⟨_,U,V⟩:=d;obtain ⟨_,_,rfl,-,-⟩:=qg V;rw [U] at f;simp only at f;have R:=f 0;have r:=Z (show ZO s a.name l= .error 140 by unfold ZO;rw [if_pos (.inl (by rw [b];rfl))]);rw [r.out];clear c p q b m U V;go_enter func104,ntmps104;go_wp2_with fail
  first | go_quiet (fail) | (fail "region")
  go_wp2_with (go_at_call 103;refine (zhl _ _ _ (w.eT.below (qC e _))).mono ?_;rintro ag ah ⟨ai,rfl,⟨H,k,t⟩,u⟩;have I:=Z t;have J:=Z (((qC e _).trans (u.mono (qC e _).size)).mono F);obtain ⟨aj,ak,rfl,-,-,-⟩:=t;clear u);go_ret;exact ⟨J,_,H,k,rfl,I⟩
def zkc (k:Nat):Prop:=∀(c:Nat) (f:ByteArray) (d:Value) (g:Int) (e:Value) (a:List (List Int)) (b:World),(∃h i j,d= .slice h i j)→ShO b e a→YJ k=(a.length:Int)→
 Calls prog 164 #[exV k c f d g,e] b (zbi b (YL k c a))
theorem znv (p:1≤k)(q:k≤13)(r:k≠7):zkc k:=by
 intro c d e f g b h i m _;have n:(k=1∨k=2∨k=11)∨(k=9∨k=3∨k=10∨k=12)∨(k=4∨k=5∨k=6∨k=8∨k=13):=by omega
 rcases n with a | a | a
 ·exact zhs k c d e f g b h i a
 ·have j:b.length=1:=by
   have:YJ k=1:=by rcases a with rfl | rfl | rfl | rfl<;>rfl
   omega
  match b,j with
  |[l],_=>exact ziU k c d e f g l h i a m
 ·have j:b.length=2:=by
   have:YJ k=2:=by rcases a with rfl | rfl | rfl | rfl | rfl<;>rfl
   omega
  match b,j with
  |[l,o],_=>exact ziV k c d e f g l o h i a m
theorem zm {base:Nat}(c:w.ownsRow base e 1 v n K)(i:Nat)(h:i<n):
  ∃a d,v= .slice (some ⟨a,0,none⟩) n d∧base≤a∧a<w.heap.size∧v.ownBlock=some a∧w.cell? ⟨a,i,none⟩=K[i]? ∧w.frozen? ⟨a,i,none⟩=false∧∀b,(w.setCell ⟨a,i,none⟩ b).ownsRow base e 1 v n (K.set i b)∧w.grownBy (w.setCell ⟨a,i,none⟩ b) (some a):=by
 obtain ⟨a,d,rfl,f,g⟩:=c.form (by omega);exact ⟨a,d,rfl,f,g,rfl,c.cellAt i (by omega),c.frozenAt i,fun b=>c.stored i b⟩
theorem qj.setAt :∀{f:List Value} {g:List (List Int)} (_:qj B W f g) (b:Nat) (c:Value) (a:List Int),W.ownsRow B 3 1 c a.length (ints a)→qj B W (f.set b c) (g.set b a)
 |[], [],_,_,_,_,_=>trivial
 |_::_,_::_,d,0,_,_,e=>⟨e,d.2⟩
 |_::_,_::_,d,b+1,c,a,e=>⟨d.1,d.2.setAt b c a e⟩
theorem qO.later {l:List (List Int)}(a:qO B w v l)(b:Below w.heap.size w F):qO B F v l:=a.kept (yI b) (Off.none _ _ _) (Off.none _ _ _)
theorem qj.later (b:Below w.heap.size w F){a:List (List Int)}(c:qj B w E a):qj B F E a:=c.kept (yI b) (Off.none _ _ _)
theorem znj {base:Nat}(c:w.ownsRow base e k v n K)(d:∀a,v.ownBlock=some a→a<B)(f:Below B w F):F.ownsRow base e k v n K:=zh9 c fun b g=>f.block b (d b g)
theorem qj.lowB (d:Below B w F):∀{a:List Value} {e:List (List Int)},qj b w a e→(∀c∈a,∀f,c.ownBlock=some f→f<B)→qj b F a e
 |[], [],_,_=>trivial
 |c::_,_::_,g,h=>⟨znj g.1 (h c (by simp)) d,qj.lowB d g.2 fun i j=>h i (by simp [j])⟩
structure TrAt (B:Nat)(w:World)(sv ev:Value)(ss:List MStmt)(es:List MExpr)(svs evs:List Value):Prop where
 stm:Arr B w 6 sv ss.length (scl ss svs)
 sn:qj 0 w svs (ss.map (·.shape))
 sl:∀v∈svs,∀g,v.ownBlock=some g→g<B
 ex:Arr B w 5 ev es.length (ecl es evs)
 en:ZR B w evs (es.map fun e=>ints (e.args.map Int.ofNat))
 sb:∀s∈ss,(∀c∈s.name,c<256)∧s.name.length≤10000
 eb:∀e∈es,(∀c∈e.name,c<256)∧e.name.length≤10000
 kd:∀e∈es,e.kind≠7∧e.kind≠14
 esm:es.length≤1000
 ssm:ss.length≤900
theorem TrAt.later (a:TrAt B w h A G H I J)(b:Below B w F):TrAt B F h A G H I J:=
 ⟨a.stm.later b (Nat.le_refl _),a.sn.lowB b a.sl,a.sl,a.ex.later b (Nat.le_refl _),a.en.later b (Nat.le_refl _),a.sb,a.eb,a.kd,a.esm,a.ssm⟩
theorem TrAt.up {B':Nat}(a:TrAt B w h A G H I J)(b:B≤B'):TrAt B' w h A G H I J:=
 ⟨a.stm.later (Below.refl _ _) b,a.sn,fun c d e f=>Nat.lt_of_lt_of_le (a.sl c d e f) b,a.ex.later (Below.refl _ _) b,a.en.later (Below.refl _ _) b,a.sb,a.eb,a.kd,a.esm,a.ssm⟩
theorem TrAt.exAt (a:TrAt B w h A G H I J)(b:zcS G H=true):ExAt B w A H J:=
 ⟨a.ex,a.en,fun c d e f=>((QC b).1 c d).2 e f,a.esm⟩
theorem ziC (a:YJ k=(n:Int)):1≤k∧k≤14:=by
 unfold YJ at a
 repeat' split at a
 all_goals omega
theorem TrAt.ok (b:TrAt B w h A G H I J)(c:zcS G H=true)(i:Nat)(a:i<H.length):zkc H[i].kind:=by
 have d:=ziC ((QC c).1 i a).1;have e:=b.kd H[i] (List.getElem_mem a);exact znv d.1 (by omega) e.1
theorem zhb:∀(b:List MStmt) (c:List Value) (a:Nat) (f:a<b.length) (g:a<c.length),(scl b c)[a * 6]? =some (.int .i64 b[a].kind)∧(scl b c)[a * 6+1]? =some (.int .i64 b[a].party)∧(scl b c)[a * 6+2]? =some (.string (qx b[a].name))∧(scl b c)[a * 6+3]? =some c[a]∧(scl b c)[a * 6+4]? =some (.int .i64 b[a].expr)∧(scl b c)[a * 6+5]? =some (.int .i64 b[a].pos)
 |h::b,i::c,0,_,_=>by simp [scl]
 |h::b,i::c,a+1,f,g=>by
  have ih:=zhb b c a (by simpa using f) (by simpa using g);have d:∀e,(scl (h::b) (i::c))[(a+1) * 6+e]? =(scl b c)[a * 6+e]? :=fun e=>by
   have:(a+1) * 6+e=a * 6+e+6:=by omega
   rw [this];simp [scl]
  have j:=d 0;simp only [Nat.add_zero] at j;rw [j,d 1,d 2,d 3,d 4,d 5];simpa using ih
theorem TrAt.expr (d:TrAt B w h A G H I J)(k:Nat)(g:k<H.length):
  ∃e f a b i,A= .slice e H.length f∧e=some ⟨a,b,none⟩∧a<B∧Arr B w 1 i H[k].args.length (ints (H[k].args.map Int.ofNat))∧
   w.cell? ⟨a,b+k * 5,none⟩=some (.int .i64 H[k].kind)∧w.cell? ⟨a,b+k * 5+1,none⟩=some (.string (qx H[k].name))∧w.cell? ⟨a,b+k * 5+2,none⟩=some (.int .u64 H[k].num)∧w.cell? ⟨a,b+k * 5+3,none⟩=some i∧w.cell? ⟨a,b+k * 5+4,none⟩=some (.int .i64 H[k].pos):=by
 have C:J.length=H.length:=by have:=d.en.length;simpa using this
 have j:k<J.length:=by omega
 obtain ⟨e,f,q,_,_,-,r⟩:=d.ex.open;obtain ⟨a,b,rfl,s,c⟩:=r (by omega);obtain ⟨t,u,v,x,y⟩:=zd3 H J k g j;have l:=d.en.get k j (by simpa using g);simp only [List.getElem_map,qP,List.length_map] at l;refine ⟨_,f,a,b,J[k],q,rfl,s,l,?_⟩;have z:=c (k * 5) (by omega);have m:=c (k * 5+1) (by omega);have n:=c (k * 5+2) (by omega);have o:=c (k * 5+3) (by omega);have p:=c (k * 5+4) (by omega);simp only [←Nat.add_assoc] at m n o p;exact ⟨z.trans t,m.trans u,n.trans v,o.trans x,p.trans y⟩
theorem TrAt.stmt (d:TrAt B w h A G H I J)(k:Nat)(g:k<G.length):
  ∃e f a b i,h= .slice e G.length f∧e=some ⟨a,b,none⟩∧a<B∧w.ownsRow 0 3 1 i G[k].shape.length (ints G[k].shape)∧
   w.cell? ⟨a,b+k * 6,none⟩=some (.int .i64 G[k].kind)∧w.cell? ⟨a,b+k * 6+1,none⟩=some (.int .i64 G[k].party)∧w.cell? ⟨a,b+k * 6+2,none⟩=some (.string (qx G[k].name))∧w.cell? ⟨a,b+k * 6+3,none⟩=some i∧w.cell? ⟨a,b+k * 6+4,none⟩=some (.int .i64 G[k].expr)∧w.cell? ⟨a,b+k * 6+5,none⟩=some (.int .i64 G[k].pos):=by
 have E:I.length=G.length:=by have:=d.sn.length;simpa using this
 have j:k<I.length:=by omega
 obtain ⟨e,f,r,_,_,-,s⟩:=d.stm.open;obtain ⟨a,b,rfl,t,c⟩:=s (by omega);obtain ⟨u,v,x,y,z,C⟩:=zhb G I k g j;have l:=d.sn.get k j (by simpa using g);simp only [List.getElem_map] at l;refine ⟨_,f,a,b,I[k],r,rfl,t,l,?_⟩;have D:=c (k * 6) (by omega);have m:=c (k * 6+1) (by omega);have n:=c (k * 6+2) (by omega);have o:=c (k * 6+3) (by omega);have p:=c (k * 6+4) (by omega);have q:=c (k * 6+5) (by omega);simp only [←Nat.add_assoc] at m n o p q;exact ⟨D.trans u,m.trans v,n.trans x,o.trans y,p.trans z,q.trans C⟩
theorem zoh (g:Nat)(m:Array Value)(y:∀o w,(callFunc g o).run prog w= .ok (.enter g o) w)(a:Option Addr)(b k n c:Nat)(p:Nat→Value)(w:World)(h:0<n→a=some ⟨b,k,none⟩∧b<w.heap.size)(z:n≤1000000)(i:∀e,e<n→w.cell? ⟨b,k+e,none⟩=some (p e))(j:∀l e,e<n→Below w.heap.size w l→Calls prog g (#[p e]++m) l (qM (.bool false) l)):
  Calls prog 165 #[.slice a n c,.func (.func g) #[] m] w (qM (.int .i64 (-1)) w):=by
 go_enter func165,ntmps165;go_wp2_with fail;go_loopg [8] n (fun s t wr=>∃d:Nat,d≤n∧s=n-d∧t= .int .i64 d∧Hid (Below w.heap.size w wr))
 case atStart=>exact ⟨0,Nat.zero_le _,rfl,rfl,Z (Below.refl _ _)⟩
 case round=>
  obtain ⟨d,_,_,rfl,f⟩:=hrel
  by_cases q:d<n
  ·obtain ⟨rfl,u⟩:=h (by omega)
   have:=(f.cell (p:=⟨b,k+d,none⟩) u).trans (i d q);have:(0:Int)≤(d:Int):=by omega
   have:(d:Int)<(n:Int):=by omega
   have v:=j wr d q f;have:=Z j;have:=Z i;have:=Z h;clear j i h;go_wp2_with (go_at_fn g;refine v.mono ?_;rintro _ _ ⟨rfl,r⟩;have x:=Z (f.trans (r.mono f.size));clear r);go_roundg (n-(d+1))
   case measure=>omega
   case rel=>exact ⟨d+1,by omega,rfl,by go_num,x⟩
  ·obtain rfl:d=n:=by omega
   clear j i h;go_wp2_with fail;go_ret;exact ⟨rfl,f⟩
theorem zcm (g:Nat)(e:Array Value)(p:∀j w,(callFunc g j).run prog w= .ok (.enter g j) w)(a:Option Addr)(b f n c:Nat)(h:Nat→Value)(w:World)(k:0<n→a=some ⟨b,f,none⟩∧b<w.heap.size)(q:n≤1000000)(l:∀d,d<n→w.cell? ⟨b,f+d,none⟩=some (h d))(m:∀i d,d<n→Below w.heap.size w i→Calls prog g (#[h d]++e) i (qM (.bool false) i)):
  Calls prog 106 #[.slice a n c,.func (.func g) #[] e] w (qM (.bool false) w):=by
 have r:=Z (zoh g e p a b f n c h w k q l m);clear m l k;go_enter func106,ntmps106;go_wp2_with (go_at_call 165;refine r.mono ?_;rintro _ _ ⟨rfl,o⟩;have s:=Z o;clear o);go_ret;exact ⟨rfl,s⟩
theorem zoi (g:Nat)(m:Array Value)(y:∀o w,(callFunc g o).run prog w= .ok (.enter g o) w)(a:Option Addr)(b k n c:Nat)(p:Nat→Value)(w:World)(h:0<n→a=some ⟨b,k,none⟩∧b<w.heap.size)(z:n≤1000000)(i:∀e,e<n→w.cell? ⟨b,k+e,none⟩=some (p e))(j:∀l e,e<n→Below w.heap.size w l→Calls prog g (#[p e]++m) l (qM (.bool false) l)):
  Calls prog 168 #[.slice a n c,.func (.func g) #[] m] w (qM (.int .i64 (-1)) w):=by
 go_enter func168,ntmps168;go_wp2_with fail;go_loopg [8] n (fun s t wr=>∃d:Nat,d≤n∧s=n-d∧t= .int .i64 d∧Hid (Below w.heap.size w wr))
 case atStart=>exact ⟨0,Nat.zero_le _,rfl,rfl,Z (Below.refl _ _)⟩
 case round=>
  obtain ⟨d,_,_,rfl,f⟩:=hrel
  by_cases q:d<n
  ·obtain ⟨rfl,u⟩:=h (by omega)
   have:=(f.cell (p:=⟨b,k+d,none⟩) u).trans (i d q);have:(0:Int)≤(d:Int):=by omega
   have:(d:Int)<(n:Int):=by omega
   have v:=j wr d q f;have:=Z j;have:=Z i;have:=Z h;clear j i h;go_wp2_with (go_at_fn g;refine v.mono ?_;rintro _ _ ⟨rfl,r⟩;have x:=Z (f.trans (r.mono f.size));clear r);go_roundg (n-(d+1))
   case measure=>omega
   case rel=>exact ⟨d+1,by omega,rfl,by go_num,x⟩
  ·obtain rfl:d=n:=by omega
   clear j i h;go_wp2_with fail;go_ret;exact ⟨rfl,f⟩
theorem zoe (g:Nat)(e:Array Value)(p:∀j w,(callFunc g j).run prog w= .ok (.enter g j) w)(a:Option Addr)(b f n c:Nat)(h:Nat→Value)(w:World)(k:0<n→a=some ⟨b,f,none⟩∧b<w.heap.size)(q:n≤1000000)(l:∀d,d<n→w.cell? ⟨b,f+d,none⟩=some (h d))(m:∀i d,d<n→Below w.heap.size w i→Calls prog g (#[h d]++e) i (qM (.bool false) i)):
  Calls prog 113 #[.slice a n c,.func (.func g) #[] e] w (qM (.bool false) w):=by
 have r:=Z (zoi g e p a b f n c h w k q l m);clear m l k;go_enter func113,ntmps113;go_wp2_with (go_at_call 168;refine r.mono ?_;rintro _ _ ⟨rfl,o⟩;have s:=Z o;clear o);go_ret;exact ⟨rfl,s⟩
theorem zok (g:Nat)(o:Array Value)(J:∀p w,(callFunc g p).run prog w= .ok (.enter g p) w)(a:Option Addr)(b f n c:Nat)(q r s t u v:Nat→Value)(w:World)(j:0<n→a=some ⟨b,f,none⟩∧b<w.heap.size)(K:n≤1000000)(k:∀d,d<n→w.cell? ⟨b,f+d * 6,none⟩=some (q d)∧w.cell? ⟨b,f+d * 6+1,none⟩=some (r d)∧w.cell? ⟨b,f+d * 6+2,none⟩=some (s d)∧w.cell? ⟨b,f+d * 6+3,none⟩=some (t d)∧w.cell? ⟨b,f+d * 6+4,none⟩=some (u d)∧w.cell? ⟨b,f+d * 6+5,none⟩=some (v d))(l:∀m d,d<n→Below w.heap.size w m→Calls prog g (#[.agg #[q d,r d,s d,t d,u d,v d]]++o) m (qM (.bool false) m)):
  Calls prog 200 #[.slice a n c,.func (.func g) #[] o] w (qM (.int .i64 (-1)) w):=by
 go_enter func200,ntmps200;go_wp2_with fail;go_loopg [8] n (fun F G wr=>∃e:Nat,e≤n∧F=n-e∧G= .int .i64 e∧Hid (Below w.heap.size w wr))
 case atStart=>exact ⟨0,Nat.zero_le _,rfl,rfl,Z (Below.refl _ _)⟩
 case round=>
  obtain ⟨e,_,_,rfl,h⟩:=hrel
  by_cases x:e<n
  ·obtain ⟨rfl,i⟩:=j (by omega)
   obtain ⟨y,z,A,B,C,D⟩:=k e x;have:=(h.cell (p:=⟨b,f+e * 6,none⟩) i).trans y;have:=(h.cell (p:=⟨b,f+e * 6+1,none⟩) i).trans z;have:=(h.cell (p:=⟨b,f+e * 6+2,none⟩) i).trans A;have:=(h.cell (p:=⟨b,f+e * 6+3,none⟩) i).trans B;have:=(h.cell (p:=⟨b,f+e * 6+4,none⟩) i).trans C;have:=(h.cell (p:=⟨b,f+e * 6+5,none⟩) i).trans D;clear y z A B C D;have:(0:Int)≤(e:Int):=by omega
   have:(e:Int)<(n:Int):=by omega
   have H:=l wr e x h;have:=Z l;have:=Z k;have:=Z j;clear l k j;go_wp2_with (go_at_fn g;refine H.mono ?_;rintro _ _ ⟨rfl,E⟩;have I:=Z (h.trans (E.mono h.size));clear E);go_roundg (n-(e+1))
   case measure=>omega
   case rel=>exact ⟨e+1,by omega,rfl,by go_num,I⟩
  ·obtain rfl:e=n:=by omega
   clear l k j;go_wp2_with fail;go_ret;exact ⟨rfl,h⟩
theorem zog (g:Nat)(f:Array Value)(u:∀p w,(callFunc g p).run prog w= .ok (.enter g p) w)(a:Option Addr)(b e n c:Nat)(h i j k l m:Nat→Value)(w:World)(q:0<n→a=some ⟨b,e,none⟩∧b<w.heap.size)(v:n≤1000000)(r:∀d,d<n→w.cell? ⟨b,e+d * 6,none⟩=some (h d)∧w.cell? ⟨b,e+d * 6+1,none⟩=some (i d)∧w.cell? ⟨b,e+d * 6+2,none⟩=some (j d)∧w.cell? ⟨b,e+d * 6+3,none⟩=some (k d)∧w.cell? ⟨b,e+d * 6+4,none⟩=some (l d)∧w.cell? ⟨b,e+d * 6+5,none⟩=some (m d))(s:∀o d,d<n→Below w.heap.size w o→Calls prog g (#[.agg #[h d,i d,j d,k d,l d,m d]]++f) o (qM (.bool false) o)):
  Calls prog 161 #[.slice a n c,.func (.func g) #[] f] w (qM (.bool false) w):=by
 have x:=Z (zok g f u a b e n c h i j k l m w q v r s);clear s r q;go_enter func161,ntmps161;go_wp2_with (go_at_call 200;refine x.mono ?_;rintro _ _ ⟨rfl,t⟩;have y:=Z t;clear t);go_ret;exact ⟨rfl,y⟩
theorem Arr.slots (f:Arr B w k v n K):
  ∃c a d b,v= .slice c n b∧n≤b∧(0<n→c=some ⟨a,d,none⟩∧a<B)∧∀e,e<n * k→w.cell? ⟨a,d+e,none⟩=K[e]? :=by
 obtain ⟨c,b,rfl,h,-,-,i⟩:=f.open;rcases Nat.eq_zero_or_pos n with g | g
 ·subst g
  exact ⟨c,0,0,b,rfl,h,fun f=>absurd f (Nat.lt_irrefl _),fun e j=>by simp at j⟩
 ·obtain ⟨a,d,rfl,l,m⟩:=i g
  exact ⟨_,a,d,b,rfl,h,fun _=>⟨rfl,l⟩,m⟩
theorem zhf:∀a b,(callFunc 160 a).run prog b= .ok (.enter 160 a) b:=enters_of func160 (by kernel_rfl) rfl
theorem zhg:∀a b,(callFunc 162 a).run prog b= .ok (.enter 162 a) b:=enters_of func162 (by kernel_rfl) rfl
theorem znL (a i:Nat)(c:a<i)(b:Nat)(W:World)(d:W.cell? ⟨b,0,none⟩=some (.int .i64 i)):
  Calls prog 160 (#[.int .i64 a]++#[.pointer (some ⟨b,0,none⟩)]) W (qM (.bool false) W):=by
 show Calls prog 160 #[.int .i64 a,.pointer (some ⟨b,0,none⟩)] W _;have:¬(a:Int)<0:=by omega
 have:¬(i:Int)≤(a:Int):=by omega
 go_enter func160,ntmps160;go_wp2_with fail;go_ret;exact ⟨by simp_all,Below.refl _ _⟩
theorem znM (s:MStmt)(b:Value)(n:Nat)(a:s.kind=1∨s.kind=3∨(s.kind=2∧s.expr<n))(g:∃c d e,b= .slice c d e)(tb:Nat)(h:Option Addr)(i:Nat)(W:World)(j:W.cell? ⟨tb,1,none⟩=some (.slice h n i)):
  Calls prog 162 (#[stV s b]++#[.pointer (some ⟨tb,0,none⟩)]) W (qM (.bool false) W):=by
 show Calls prog 162 #[stV s b,.pointer (some ⟨tb,0,none⟩)] W _;obtain ⟨c,d,e,rfl⟩:=g;obtain ⟨_,_,_,_,f,_⟩:=s;simp only at a;have:=World.block_lt_of_cell? W _ j;rcases a with a | a | ⟨a,_⟩
 ·subst a
  go_enter func162,ntmps162;go_wp2_with fail;go_ret;exact ⟨rfl,(Below.refl _ _).alloc (Nat.le_refl _) _⟩
 ·subst a
  go_enter func162,ntmps162;go_wp2_with fail;go_ret;exact ⟨rfl,(Below.refl _ _).alloc (Nat.le_refl _) _⟩
 ·subst a
  have:¬(f:Int)<0:=by omega
  have:¬(n:Int)≤(f:Int):=by omega
  go_enter func162,ntmps162;go_wp2_with fail;go_ret;exact ⟨by simp_all,(Below.refl _ _).alloc (Nat.le_refl _) _⟩
theorem znN (I J:Value)(d:List MStmt)(c:List MExpr)(g am:List Value)(w:World)(e:TrAt w.heap.size w I J d c g am)(x:zcS d c=true):
  Calls prog 102 #[.agg #[I,J]] w (qM (.bool true) w):=by
 have K:=Z e;have L:=Z (QC x).1;have an:=Z (QC x).2;have aR:=e.esm;have aS:=e.ssm;obtain ⟨n,_,_,k,rfl,_,-,-⟩:=e.ex.slots;obtain ⟨l,_,_,m,rfl,_,M,N⟩:=e.stm.slots;have aT:=Z M;have aU:=Z N;have O:=Z ((Below.refl w.heap.size w).alloc (Nat.le_refl _) (.cells #[.slice l d.length m,.slice n c.length k] 71));have P:=Z (heap_alloc_new w (.cells #[.slice l d.length m,.slice n c.length k] 71));have ao:(w.alloc (.cells #[.slice l d.length m,.slice n c.length k] 71)).heap.size=w.heap.size+1:=by simp
 clear e x M N;go_enter func102,ntmps102;go_wp2_with fail;generalize w.alloc (.cells #[.slice l d.length m,.slice n c.length k] 71)=Q at O P ao ⊢;go_loopg [8] c.length (fun ap aq wr=>∃a:Nat,a≤c.length∧ap=c.length-a∧aq= .int .i64 a∧Hid (Below Q.heap.size Q wr))
 case atStart=>exact ⟨0,Nat.zero_le _,rfl,rfl,Z (Below.refl _ _)⟩
 case round=>
  obtain ⟨a,_,_,rfl,o⟩:=hrel;have aV:=o.size;have s:=(o.block w.heap.size (by omega)).trans P;have aW:=(yL s).1;have k1:=(yL s).2;have ar:=Z s;have h:=Z (O.trans (o.mono (by omega)));clear s
  by_cases y:a<c.length
  ·obtain ⟨au,av,_,_,_,R,aw,_,S,_,_,_,ax,_⟩:=(K.later h).expr a y
   obtain ⟨rfl,rfl⟩:n=au∧k=av:=by simpa using R
   subst aw;have t:=(L a y).1;have T:=Z (L a y).2;obtain ⟨p,U,V,q,rfl,ay,z,u⟩:=S.slots;simp only [Nat.mul_one] at u;generalize az:c[a].args=i at t T z u ay ax;have W:=fun w=>zm4 c[a].kind w
   rw [t] at W;have aX:(0:Int)≤(a:Int):=by omega
   have aY:(a:Int)<(c.length:Int):=by omega
   have X:=qm wr (.cells #[.int .i64 (a:Int)] 3) (.cells #[.int .i64 c[a].kind,.string (qx c[a].name),.int .u64 c[a].num,.slice p i.length q,.int .i64 c[a].pos] 146);have A:=Z X.drew;have aA:=Z (show ((wr.alloc (.cells #[.int .i64 (a:Int)] 3)).alloc (.cells #[.int .i64 c[a].kind,.string (qx c[a].name),.int .u64 c[a].num,.slice p i.length q,.int .i64 c[a].pos] 146)).drew.cell? ⟨wr.heap.size,0,none⟩=some (.int .i64 (a:Int)) by
    have:=heap_alloc2_old wr (.cells #[.int .i64 (a:Int)] 3) (.cells #[.int .i64 c[a].kind,.string (qx c[a].name),.int .u64 c[a].num,.slice p i.length q,.int .i64 c[a].pos] 146);simp [World.cell?,World.drew,this])
   have B:=Z z;have aB:=Z u;have Y:wr.heap.size<((wr.alloc (.cells #[.int .i64 (a:Int)] 3)).alloc (.cells #[.int .i64 c[a].kind,.string (qx c[a].name),.int .u64 c[a].num,.slice p i.length q,.int .i64 c[a].pos] 146)).drew.heap.size:=by simp [World.drew];omega
   have aa:=Z Y;have ab:i.length≤1000000:=by
    have aZ:=t;have:YJ c[a].kind≤3:=by unfold YJ;repeat' split<;>omega
    omega
   have aC:=Z ab;clear X z u Y S t R ab az;go_wp2_with fail
   first | (go_region_with (first | (go_at_call 159;refine (W _).mono ?_;rintro ac ad ⟨rfl,rfl⟩) | (go_at_call 106;refine (zcm 160 #[.pointer (some ⟨wr.heap.size,0,none⟩)] zhf p U V i.length q (fun b=> .int .i64 ((i.getD b 0:Nat):Int)) _ (fun e=>⟨(B e).1,by have:=(B e).2;have:=aa.out;have:=h.size;omega⟩) aC (fun b f=>(A.cell (p:=⟨U,V+b,none⟩) (Nat.lt_of_lt_of_le (B (by omega)).2 h.size)).trans ((aB b f).trans (by simp [ints,List.getD,f]))) (fun C b f D=>znL _ a (T _ (by rw [List.getD_eq_getElem?_getD,List.getElem?_eq_getElem f];exact List.getElem_mem _)) _ C ((D.cell (p:=⟨wr.heap.size,0,none⟩) aa).trans aA))).mono ?_;rintro ac ad ⟨rfl,r⟩;have E:=Z (A.trans (r.mono A.size));clear r))) | (fail "region")
   all_goals
    go_wp2_with fail;go_roundg (c.length-(a+1))
    case measure=>omega
    case rel=>exact ⟨a+1,by omega,rfl,by go_num,o.trans (E.mono o.size)⟩
  ·obtain rfl:a=c.length:=by omega
   have v:=K.later h;obtain ⟨aD,aE,aF,aG,ae,-,F,j⟩:=v.stm.slots;obtain ⟨rfl,rfl⟩:l=aD∧m=aG:=by simpa using ae
   have a0:g.length=d.length:=by have:=v.sn.length;simpa using this
   have af:=v.sn;have ag:=zog 162 #[.pointer (some ⟨w.heap.size,0,none⟩)] zhg l aE aF d.length m
    (fun b=> .int .i64 (d.getD b ⟨0,0, [], [],0,0⟩).kind) (fun b=> .int .i64 (d.getD b ⟨0,0, [], [],0,0⟩).party) (fun b=> .string (qx (d.getD b ⟨0,0, [], [],0,0⟩).name)) (fun b=>g.getD b .nilIface) (fun b=> .int .i64 (d.getD b ⟨0,0, [], [],0,0⟩).expr) (fun b=> .int .i64 (d.getD b ⟨0,0, [], [],0,0⟩).pos) wr
    (fun e=>⟨(F e).1,Nat.lt_of_lt_of_le (F e).2 h.size⟩) (by omega) (fun b f=>by
     obtain ⟨aH,aI,aJ,aK,aL,aM⟩:=zhb d g b f (by omega);have aN:=j (b * 6) (by omega);have ah:=j (b * 6+1) (by omega);have ai:=j (b * 6+2) (by omega);have aj:=j (b * 6+3) (by omega);have ak:=j (b * 6+4) (by omega);have al:=j (b * 6+5) (by omega);simp only [←Nat.add_assoc] at ah ai aj ak al;have G:d.getD b ⟨0,0, [], [],0,0⟩=d[b]:=by simp [List.getD,f]
     have H:g.getD b .nilIface=g[b]'(by omega):=by simp [List.getD,show b<g.length by omega]
     simp only [G,H];exact ⟨aN.trans aH,ah.trans aI,ai.trans aJ,aj.trans aK,ak.trans aL,al.trans aM⟩)
    (fun C b f D=>by
     have G:d.getD b ⟨0,0, [], [],0,0⟩=d[b]:=by simp [List.getD,f]
     have H:g.getD b .nilIface=g[b]'(by omega):=by simp [List.getD,show b<g.length by omega]
     simp only [G,H];have aO:=af.get b (by omega) (by simpa using f);obtain ⟨_,_,aP,-,-⟩:=qg aO;exact znM d[b] _ c.length (an _ (List.getElem_mem f)) ⟨_,_,_,aP⟩ w.heap.size _ k C ((D.cell (p:=⟨w.heap.size,1,none⟩) (qd ar)).trans k1))
   have aQ:=Z ag;clear ag v j F af ae;go_wp2_with (go_at_call 161;refine aQ.mono ?_;rintro ac ad ⟨rfl,r⟩;have E:=Z r;clear r);go_ret;exact ⟨rfl,h.trans (E.mono h.size)⟩
end Go.Proofs.YtklofgfkaaoipaaGreatDoor

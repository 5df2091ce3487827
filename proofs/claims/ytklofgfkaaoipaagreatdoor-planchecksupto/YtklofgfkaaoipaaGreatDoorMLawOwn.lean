/-
  THE CONTRACTS of twainlaw18.shapes, twainlaw18.Own.
-/
import Derived.Test.YtklofgfkaaoipaaGreatDoorMPlanCheck
import Derived.Test.YtklofgfkaaoipaaGreatDoorMRefSame1
import Derived.Test.YtklofgfkaaoipaaGreatDoorMMem
import Derived.Deep.RegionLaw
import Derived.Deep.RegionHeld3
import Derived.Deep.LoopGhost
import Derived.Test.YtklofgfkaaoipaaGreatDoorMHd
set_option maxHeartbeats 16000000
set_option maxRecDepth 100000
set_option linter.unusedSimpArgs false
set_option linter.unusedVariables false
namespace Go.Proofs.YtklofgfkaaoipaaGreatDoor
open Go.RowKit Go.Proofs.Tryz
variable {w W A h:World}{p:MPlan}{v:PVals}{a:Addr}{o:Obj}{x E:Value}{D F:List Value}{L l:List (List Int)}{M k n:Nat}{s:List Int}{t:TypeId}
def yW (l:List (List Int)):List (List Int):=(l.take 100).map (·.take 5)
structure PlanIn (B:Nat)(w:World)(p:MPlan)(v:PVals):Prop where
 ops:Arr B w 6 v.ops p.ops.length (qz p.ops)
 slots:Arr B w 1 v.slots p.slots.length (ints p.slots)
 shapes:ZS B w v.shapes p.shapes
 in0:ZS B w v.in0 p.in0
 in1:ZS B w v.in1 p.in1
 hc:∀o∈p.ops,o.c<18446744073709551616
theorem PlanIn.later {B B':Nat}{d:World}(a:PlanIn B w p v)(b:Below B w d)(c:B≤B'):PlanIn B' d p v:=
 ⟨a.ops.later b c,a.slots.later b c,a.shapes.later b c,a.in0.later b c,a.in1.later b c,a.hc⟩
theorem zmo {v:Value}(b:W.cell? a=some v):(W.alloc o).cell? a=some v:=cell_later ((Below.refl _ _).alloc (Nat.le_refl _) o) b
theorem zke {v:Value}(b:W.cell? a=some v):(W.alloc o).drew.cell? a=some v:=cell_later ((Below.refl _ _).alloc (Nat.le_refl _) o).drew b
structure Inner (w:World)(x:Value)(us:List Value)(L:List (List Int))(Bk:Nat)(v5:Value)(M:Nat)(s:List Int)(w5:World):Prop where
 ou:w5.ownsRow w.heap.size 24 1 x us.length us
 nest:qj w.heap.size w5 us L
 own:w5.ownsRow Bk 3 1 v5 M (ints s)
 below:Below w.heap.size w w5
 ge:w.heap.size≤Bk
theorem zdp {wr:World}(g:qj w.heap.size wr D L)(h:wr.ownsRow w.heap.size 24 1 x D.length D)(i:Below w.heap.size w wr)(b:w.heap.size≤wr.heap.size)
  (j:A.ownsRow wr.heap.size 3 1 E M ([]++ints s)) (k:((wr.alloc (.cells #[] 3)).drew).grownBy A (Value.slice (some ⟨wr.heap.size,0,none⟩) 0 0).ownBlock):Inner w x D L wr.heap.size E M s A:=by
 have c:wr.grownBy A (some wr.heap.size):=by
  have l:wr.grownBy (wr.alloc (.cells #[] 3)).drew none:=⟨rfl,rfl,rfl,by show _≤(wr.alloc _).heap.size;rw [World.size_alloc];omega,fun d a _=>(World.grownBy_alloc wr (.cells #[] 3) none).block d a (by simp)⟩;exact (l.but _).andThen k fun n m=> .inr m
 have e:∀f,Off wr w.heap.size f (some wr.heap.size):=fun f d a=> .inr (.inl (by obtain rfl:=Option.some.inj a;exact Nat.le_refl _))
 exact ⟨qp h c (e _),g.kept c (e _),j,i.grown c b (fun d a=>by obtain rfl:=Option.some.inj a;exact b),b⟩
theorem zdq {b:World}{d:Nat}{y:Value}(a:Inner w x D L d E M s A)(e:M=s.length)
  (f:b.ownsRow w.heap.size 24 1 y (D.length+1) (D++#[E].toList)) (c:A.grownBy b x.ownBlock):qO w.heap.size b y (L++[s])∧Below w.heap.size w b:=by
 subst e;refine ⟨⟨D++[E],by simpa using f,(a.nest.kept c (Off.owned a.ou (by decide))).append ⟨qk (qp a.own c (Off.owned a.ou (by decide))) a.ge,trivial⟩⟩,a.below.grown c a.below.size fun g h=>(a.ou.lt g h).1⟩
theorem Z6 (v:Value)(l:List (List Int))(w:World)(X:ZS w.heap.size w v l):
  Calls prog 12 #[v] w fun Y M=>∃A,Y= .returned A∧qO w.heap.size M A (yW l)∧Below w.heap.size w M:=by
 obtain ⟨f,N,O,P⟩:=X;obtain ⟨ar,au,rfl,av,aa,ab,Q⟩:=O.open;have ac:=Z Q;have ad:=Z P;have D:=Z N;unfold maxLen at aa;clear O ab Q P N;go_enter func12,ntmps12;go_wp2_with fail;go_loopg [3,4] f.length (fun ae af ag wr=>∃a:Nat,a≤f.length∧a≤100∧ae=f.length-a∧ag= .int .i64 a∧Hid (qO w.heap.size wr af ((l.take a).map (·.take 5)))∧Hid (Below w.heap.size w wr))
 case atStart=>exact ⟨0,Nat.zero_le _,by omega,rfl,rfl,qO.nil _ _,Below.refl _ _⟩
 case round=>
  obtain ⟨a,aw,ax,ay,rfl,E,g⟩:=hrel
  by_cases R:a<f.length
  ·by_cases az:a<100
   ·obtain ⟨c,d,rfl,o,S⟩:=ac.out (by omega)
    have T:a<l.length:=by have:=D.out;omega
    have q:=ad.get a R (by simpa using T);simp only [List.getElem_map,qP] at q;obtain ⟨j,e,F,ah,ai,_,_⟩:=q.open;have r:wr.cell? ⟨c,d+a,none⟩=some (.slice j l[a].length e):=by rw [g.cell (p:=⟨c,d+a,none⟩) o,S a (by omega)];simp [R,F]
    have B:=g.size;have k:=Z (show (l.take (a+1)).map (·.take 5)=(l.take a).map (·.take 5)++[l[a].take 5] by rw [List.take_succ_eq_append_getElem T,List.map_append];rfl);rw [F] at q;generalize l[a]=b at q r ah k;have U:=Z q;unfold maxLen at ai;have aA:(0:Int)≤a:=by omega
    have aB:(a:Int)<f.length:=by omega
    clear S q F;have C:w.cell? ⟨c,d+a,none⟩=some (.slice j b.length e):=by rw [←g.cell (p:=⟨c,d+a,none⟩) o];exact r
    obtain ⟨s,V,G⟩:=E.out;have aC:s.length≤100:=by have:=G.length;rw [List.length_map,List.length_take] at this;omega
    have W:=Z G;clear G
    by_cases aj:b.length≤5
    ·have H:=Z (show Arr w.heap.size ((wr.alloc (.cells #[] 3)).drew) 1 (.slice j b.length e) b.length (ints (b.take 5)) by
      have:=U.out;rw [List.take_of_length_le aj];exact this.later ((g.alloc B _).drew) (Nat.le_refl _))
     have ak:((5:Int)<(b.length:Int))=False:=eq_false (by omega);have aD:(0:Int)≤(b.length:Int):=by omega
     have al:(b.length:Int)≤(e:Int):=by omega
     go_wp2_with fail
     first | (go_region_held3 (fun I=>I.cell? ⟨c,d+a,none⟩=some (.slice j b.length e)) (first | exact r | exact zke r | exact m | exact zmo m | exact t) (first | (refine zcO (by rfl) _ _ 24 (by rfl) 3 (.int .i64 0) 1 8 underlying24 qD rfl (by decide) 0 b.length wr.heap.size w.heap.size (.slice (some ⟨wr.heap.size,0,none⟩) 0 0) (.slice j b.length e) [] (ints (b.take 5)) (World.ownsRow.drew (World.ownsRow_made wr #[] 0 (Nat.le_refl _) (by unfold maxLen;omega) rfl)) H (by rfl) (by rfl) (zaV _) (by simp) (by omega) (by unfold maxLen;omega) ?_;intro am an h u J;rw [Nat.zero_add] at h;obtain ⟨K,L,rfl,-⟩:=qg h;have i:=Z (zdp W V g B h u);have m:=i.below.cell (p:=⟨c,d+a,none⟩) o;rw [C] at m;clear h u J) | (refine yU (by rfl) _ _ 27 (by rfl) 24 (.slice none 0 0) 1 24 underlying27 Qn rfl (by decide) #[.slice K b.length L] s.length w.heap.size _ s i.ou (by rfl) (by rfl) rfl (by intro A x;simp at x;subst x;rfl) i.below.size (by omega) (by unfold maxLen;omega) ?_;intro ao ap aq y z;have n:=Z (zdq i (by rw [List.length_take];omega) y z);have t:=n.2.cell (p:=⟨c,d+a,none⟩) o;rw [C] at t;clear y z))) | (fail "region")
     all_goals
      (try refine NoPanic.normal ?_)
      go_wp2_with fail;go_roundg (f.length-(a+1))
      case measure=>omega
      case rel=>exact ⟨a+1,by omega,by omega,rfl,by go_num,by rw [k.out];exact n.1,n.2⟩
    ·have H:=Z (show Arr w.heap.size ((wr.alloc (.cells #[] 3)).drew) 1 (.slice j 5 e) 5 (ints (b.take 5)) by
      have:=U.take 5 (by omega);rw [show ints (b.take 5)=(ints b).take (5 * 1) by simp [ints,List.map_take]];exact this.later ((g.alloc B _).drew) (Nat.le_refl _))
     have ak:(5:Int)<(b.length:Int):=by omega
     have al:(5:Int)≤(e:Int):=by omega
     go_wp2_with fail
     first | (go_region_held3 (fun I=>I.cell? ⟨c,d+a,none⟩=some (.slice j b.length e)) (first | exact r | exact zke r | exact m | exact zmo m | exact t) (first | (refine zcO (by rfl) _ _ 24 (by rfl) 3 (.int .i64 0) 1 8 underlying24 qD rfl (by decide) 0 5 wr.heap.size w.heap.size (.slice (some ⟨wr.heap.size,0,none⟩) 0 0) (.slice j 5 e) [] (ints (b.take 5)) (World.ownsRow.drew (World.ownsRow_made wr #[] 0 (Nat.le_refl _) (by unfold maxLen;omega) rfl)) H (by rfl) (by rfl) (zaV _) (by simp) (by omega) (by unfold maxLen;omega) ?_;intro am an h u J;rw [Nat.zero_add] at h;obtain ⟨K,L,rfl,-⟩:=qg h;have i:=Z (zdp W V g B h u);have m:=i.below.cell (p:=⟨c,d+a,none⟩) o;rw [C] at m;clear h u J) | (refine yU (by rfl) _ _ 27 (by rfl) 24 (.slice none 0 0) 1 24 underlying27 Qn rfl (by decide) #[.slice K 5 L] s.length w.heap.size _ s i.ou (by rfl) (by rfl) rfl (by intro A x;simp at x;subst x;rfl) i.below.size (by omega) (by unfold maxLen;omega) ?_;intro ao ap aq y z;have n:=Z (zdq i (by rw [List.length_take];omega) y z);have t:=n.2.cell (p:=⟨c,d+a,none⟩) o;rw [C] at t;clear y z))) | (fail "region")
     all_goals
      (try refine NoPanic.normal ?_)
      go_wp2_with fail;go_roundg (f.length-(a+1))
      case measure=>omega
      case rel=>exact ⟨a+1,by omega,by omega,rfl,by go_num,by rw [k.out];exact n.1,n.2⟩
   ·obtain rfl:a=100:=by omega
    have k:=Z (show yW l=(l.take 100).map (·.take 5) from rfl);go_wp2_with fail;go_ret;exact ⟨_,rfl,by rw [k.out];exact E,g⟩
  ·obtain rfl:a=f.length:=by omega
   have k:=Z (show yW l=(l.take f.length).map (·.take 5) by rw [yW,D.out,List.take_length,List.take_of_length_le (by have:=D.out;omega)]);go_wp2_with fail;go_ret;exact ⟨_,rfl,by rw [k.out];exact E,g⟩
def qR (p:MPlan):MPlan:=⟨p.ops.take 3000,p.e0,p.e1,p.slots.take 3000,p.arena,p.need,yW p.shapes,yW p.in0,yW p.in1⟩
structure BSt (w:World)(p:MPlan)(v:PVals)(W:World):Prop where
 box:W.heap[w.heap.size]? =some (.cells (qn p v) 30 (0,0))
 res:W.heap[w.heap.size+1]? =some (.cells zp 30 (0,0))
 below:Below w.heap.size w W
theorem BSt.kept {f:Option Nat}(a:BSt w p v W)(c:W.grownBy h f)(d:∀b,f=some b→w.heap.size+1<b):BSt w p v h:=
 ⟨(c.block _ (lt_of_block a.box) (fun e=>by have:=d _ e.symm;omega)).trans a.box,(c.block _ (lt_of_block a.res) (fun e=>by have:=d _ e.symm;omega)).trans a.res,a.below.grown c a.below.size (fun b g=>by have:=d b g;omega)⟩
theorem BSt.later (a:BSt w p v W)(b:Below W.heap.size W h):BSt w p v h:=a.kept (yI b) (fun _ c=>by cases c)
theorem BSt.set {v':PVals}(a:BSt w p v W)(j:Nat)(x:Value)(b:(qn p v).setIfInBounds j x=qn p v'):BSt w p v' (W.setCell ⟨w.heap.size,j,none⟩ x):=
 ⟨by rw [heap_setCell a.box,b],(qe (by omega) _).trans a.res,a.below.setCell (p:=⟨w.heap.size,j,none⟩) (Nat.le_refl _) _⟩
theorem BSt.free (a:BSt w p v W)(j:Nat):W.frozen? ⟨w.heap.size,j,none⟩=false:=by simp [World.frozen?,a.box]
theorem BSt.lt (a:BSt w p v W):w.heap.size+1<W.heap.size:=lt_of_block a.res
theorem zh1 (a:BSt w p v W)(c:(W.alloc (.cells #[] t)).grownBy h (Value.slice (some ⟨W.heap.size,0,none⟩) 0 0).ownBlock):BSt w p v h∧W.grownBy h (some W.heap.size):=by
 have b:W.grownBy h (some W.heap.size):=((World.grownBy_alloc W (.cells #[] t) none).but _).andThen c fun f d=> .inr d
 exact ⟨a.kept b (fun g e=>by obtain rfl:=Option.some.inj e;exact a.lt),b⟩
theorem zoz (W:World)(B:Nat)(t:TypeId):Off W B t (some W.heap.size):=fun b a=> .inr (.inl (by obtain rfl:=Option.some.inj a;exact Nat.le_refl _))
theorem Zs (a:BSt w p v W)(b:W.ownsRow w.heap.size t k x n F)(c:30≠t)(j:Nat)(y:Value):(W.setCell ⟨w.heap.size,j,none⟩ y).ownsRow w.heap.size t k x n F:=qp b (qh _ _ _ _) (Off.block a.box c)
theorem zca (a:BSt w p v W)(b:qO w.heap.size W x l)(j:Nat)(y:Value):qO w.heap.size (W.setCell ⟨w.heap.size,j,none⟩ y) x l:=b.kept (qh _ _ _ _) (Off.block a.box (by decide)) (Off.block a.box (by decide))
theorem zcN (a:qO w.heap.size W x l)(b:Below W.heap.size W h):qO w.heap.size h x l:=a.kept (yI b) (Off.none _ _ _) (Off.none _ _ _)
theorem Yx (a:W.ownsRow w.heap.size t k x n F)(b:Below W.heap.size W h):h.ownsRow w.heap.size t k x n F:=qp a (yI b) (Off.none _ _ _)
theorem zh7 (l:List MOp)(m:Nat):qz (l.take m)=(qz l).take (m * 6):=by
 induction l generalizing m with
 |nil=>simp [qz]
 |cons b l ih=>
  cases m with
  |zero=>simp [qz]
  |succ m=>
   have a:(m+1) * 6=m * 6+6:=by omega
   have:=ih m;simp only [qz] at this;rw [a];simp [qz,MOp.cells,this]
theorem zjI (l:List MOp):∀b∈qz l,b.oneCell'=true:=by
 intro b a;simp only [qz,List.mem_flatMap] at a;obtain ⟨c,_,a⟩:=a;simp only [List.mem_cons,List.not_mem_nil,or_false] at a;rcases a with rfl | rfl | rfl | rfl | rfl | rfl<;>rfl
theorem yQ :(prog.info? 30).map (·.size)=some (qn p v).size:=by rw [zk5];rfl
theorem zkl (n:Nat)(a:Nat)(b:a=min n 3000):(if (3000:Int)<(n:Int) then (3000:Int) else (n:Int))=(a:Int):=by
 subst b;split<;>omega
theorem zd4 (p:MPlan)(v:PVals)(w:World)(U:PlanIn w.heap.size w p v):
  Calls prog 5 #[.agg (qn p v)] w fun ar aJ=>∃aK,ar= .returned (.agg (qn (qR p) aK))∧PlanOwn w.heap.size aJ (qR p) aK∧Below w.heap.size w aJ:=by
 obtain ⟨bj,bk,au,V,E⟩:=v;obtain ⟨av,Y,aL,bl,aU,-,-⟩:=U.ops.open;obtain ⟨aa,W,aM,bm,aV,-,-⟩:=U.slots.open;simp only at aL aM;subst aL aM;have az:=Z U;have ab:=Z (show BSt w p ⟨.slice av p.ops.length Y,.slice aa p.slots.length W,au,V,E⟩ ((w.alloc (.cells (qn p ⟨.slice av p.ops.length Y,.slice aa p.slots.length W,au,V,E⟩) 30)).alloc (.cells zp 30)) from ⟨heap_alloc2_old _ _ _,heap_alloc2_new _ _ _,qm _ _ _⟩);obtain ⟨b,aw⟩:∃aA,aA=min p.ops.length 3000:=⟨_,rfl⟩;obtain ⟨a,ax⟩:∃aA,aA=min p.slots.length 3000:=⟨_,rfl⟩;have bn:=zkl p.ops.length b aw;have bo:=zkl p.slots.length a ax;have aN:Arr w.heap.size w 6 (.slice av b Y) b (qz (p.ops.take 3000)):=by
  have aB:=U.ops;have:=Arr.take aB b (by omega);rw [←zh7,show p.ops.take b=p.ops.take 3000 by rw [aw,List.take_eq_take_iff];omega] at this;exact this
 have aO:Arr w.heap.size w 1 (.slice aa a W) a (ints (p.slots.take 3000)):=by
  have aB:=U.slots;have:=Arr.take aB a (by omega);rw [show (ints p.slots).take (a * 1)=ints (p.slots.take 3000) by rw [Nat.mul_one,show p.slots.take 3000=p.slots.take a by rw [ax,List.take_eq_take_iff];omega];simp [ints,List.map_take]] at this;exact this
 have aW:=Z aN;have aX:=Z aO;have aY:=Z (show (p.ops.take 3000).length=b by rw [List.length_take,aw];omega);have aZ:=Z (show (p.slots.take 3000).length=a by rw [List.length_take,ax];omega);have F:b≤3000:=by omega
 have bp:a≤3000:=by omega
 have bq:b≤Y:=by omega
 have br:a≤W:=by omega
 unfold maxLen at aU aV;clear U aN aO aw ax;simp only [qn] at ab ⊢;simp only [zp] at ab;go_enter func5,ntmps5;go_upto_region 1 with fail;generalize World.alloc (World.alloc w _) _=aC at ab ⊢;have y:=ab;clear ab;obtain ⟨⟨k,G,H,l,I⟩,⟨J,K,c7,L,M,N,O,P⟩,m,n,o⟩:=qv y.box;simp only at k l m n o;have bs:w.heap.size<aC.heap.size:=by have:=y.lt;omega
 go_upto_region 2 with (at_builtin;refine zgk rfl _ _ 22 rfl 61 _ 6 48 underlying22 zmL rfl (by decide) 0 b w.heap.size w.heap.size (.slice (some ⟨aC.heap.size,0,none⟩) 0 0) (.slice av b Y) [] _ (World.ownsRow_made aC #[] 0 y.below.size (by unfold maxLen;omega) rfl) (aW.later (y.below.alloc y.below.size _) (Nat.le_refl _)) rfl rfl (zjI _) (by rw [World.size_alloc];have:=y.below.size;omega) (by omega) (by unfold maxLen;omega) ?_;intro u1 a0 c ac _;rw [Nat.zero_add] at c;obtain ⟨e,f,rfl,-⟩:=qg c;have ad:=Z (zh1 y ac);have aP:=Z c;have a1:=ad.1.free 0;obtain ⟨⟨z,ae,af,A,ag⟩,⟨ah,ai,aj,ak,al,am,an,ao⟩,B,C,D⟩:=qv ad.1.box;simp only at z A B C D;clear c ac k G H l I J K c7 L M N O P m n o);have x:=Z (ad.1.set (v':=⟨.slice e b f,.slice aa p.slots.length W,au,V,E⟩) 0 (.slice e b f) rfl);have X:=Z (Zs ad.1 aP (by decide) 0 (.slice e b f));clear z ae af A ag ah ai aj ak al am an ao B C D a1 y ad aP;generalize World.setCell a0 _ _=aD at x X ⊢;obtain ⟨⟨k,G,H,l,I⟩,⟨J,K,c7,L,M,N,O,P⟩,m,n,o⟩:=qv x.box;simp only at k l m n o;have bt:w.heap.size<aD.heap.size:=by have:=x.lt;omega
 go_upto_region 3 with (at_builtin;refine zgk rfl _ _ 24 rfl 3 _ 1 8 underlying24 qD rfl (by decide) 0 a w.heap.size w.heap.size (.slice (some ⟨aD.heap.size,0,none⟩) 0 0) (.slice aa a W) [] _ (World.ownsRow_made aD #[] 0 x.below.size (by unfold maxLen;omega) rfl) (aX.later (x.below.alloc x.below.size _) (Nat.le_refl _)) rfl rfl (zaV _) (by rw [World.size_alloc];have:=x.below.size;omega) (by omega) (by unfold maxLen;omega) ?_;intro u2 a2 c ac _;rw [Nat.zero_add] at c;obtain ⟨g,h,rfl,-⟩:=qg c;have Q:=Z (zh1 x ac);have aQ:=Z c;have a3:=Q.1.free 3;obtain ⟨⟨z,ae,af,A,ag⟩,⟨ah,ai,aj,ak,al,am,an,ao⟩,B,C,D⟩:=qv Q.1.box;simp only at z A B C D;clear c ac k G H l I J K c7 L M N O P m n o);have R:=Z (Q.1.set (v':=⟨.slice e b f,.slice g a h,au,V,E⟩) 3 (.slice g a h) rfl);have aE:=Z (Zs Q.1 aQ (by decide) 3 (.slice g a h));have aF:=Z (Zs Q.1 (qp X Q.2 (zoz _ _ _)) (by decide) 3 (.slice g a h));clear z ae af A ag ah ai aj ak al am an ao B C D a3 x Q aQ X;generalize World.setCell a2 _ _=bu at R aF aE ⊢;obtain ⟨⟨k,G,H,l,I⟩,⟨J,K,c7,L,M,N,O,P⟩,m,n,o⟩:=qv R.box;simp only at k l m n o;go_upto_region 4 with (go_at_call 12;go_must (refine (Z6 _ p.shapes _ (az.shapes.later R.below R.below.size)).mono ?_;rintro ar a4 ⟨u3,rfl,c,d⟩;obtain ⟨i,j,rfl⟩:=c.form;have S:=Z (R.later d);have aR:=Z (c.base R.below.size);have X:=Z (Yx aF d);have aS:=Z (Yx aE d);have a5:=S.free 13;obtain ⟨⟨z,ae,af,A,ag⟩,⟨ah,ai,aj,ak,al,am,an,ao⟩,B,C,D⟩:=qv S.box;simp only at z A B C D;clear c d aF aE k G H l I J K c7 L M N O P m n o));have ay:=Z (S.set (v':=⟨.slice e b f,.slice g a h,.slice i (yW p.shapes).length j,V,E⟩) 13 (.slice i (yW p.shapes).length j) rfl);have aG:=Z (Zs S X (by decide) 13 (.slice i (yW p.shapes).length j));have aH:=Z (Zs S aS (by decide) 13 (.slice i (yW p.shapes).length j));have aI:=Z (zca S aR 13 (.slice i (yW p.shapes).length j));clear z ae af A ag ah ai aj ak al am an ao B C D a5 R S aR X aS;generalize World.setCell a4 _ _=bv at ay aG aH aI ⊢;have ap:=Z (ay.later (Below.refl _ _).drew);obtain ⟨⟨k,G,H,l,I⟩,⟨J,K,c7,L,M,N,O,P⟩,m,n,o⟩:=qv ay.box;simp only at k l m n o;clear k G H l I J K c7 L M N O P m;go_cut [27] from 27 to 36 (fun bw aT=>∃(q:Option Addr) (r:Nat) (s:Option Addr) (t:Nat),Hid (BSt w p ⟨.slice e b f,.slice g a h,.slice i (yW p.shapes).length j,.slice q (yW p.in0).length r,.slice s (yW p.in1).length t⟩ aT)∧Hid (PlanOwn w.heap.size aT (qR p) ⟨.slice e b f,.slice g a h,.slice i (yW p.shapes).length j,.slice q (yW p.in0).length r,.slice s (yW p.in1).length t⟩))
 case first=>
  first | (go_region_with (first | ((with_reducible show Calls _ _ #[V] _ _);go_at_call 12;refine (Z6 _ p.in0 _ (az.in0.later ap.below ap.below.size)).mono ?_;rintro ar bx ⟨u4,rfl,c,d⟩;obtain ⟨q,r,rfl⟩:=c.form;have aq:=Z (ap.later d);have a6:=Z (c.base ap.below.size);have a7:=Z (Yx (Yx aG (Below.refl _ _).drew) d);have a8:=Z (Yx (Yx aH (Below.refl _ _).drew) d);have a9:=Z (zcN (zcN aI (Below.refl _ _).drew) d);have ba:=(qv aq.box).2.2.2.2;simp only at ba;clear c d) | ((with_reducible show Calls _ _ #[E] _ _);go_at_call 12;refine (Z6 _ p.in1 _ (az.in1.later aq.below aq.below.size)).mono ?_;rintro ar bz ⟨u5,rfl,c,d⟩;obtain ⟨s,t,rfl⟩:=c.form;have u:=Z (aq.later d);have bb:=Z (c.base aq.below.size);have bc:=Z (Yx a7 d);have bd:=Z (Yx a8 d);have be:=Z (zcN a9 d);have bf:=Z (zcN a6 d);have bg:=(qv u.box).2.2.2.1;have bh:=(qv u.box).2.2.2.2;have bA:=u.free 14;have bB:=u.free 15;simp only at bg bh;clear c d))) | (fail "region")
  all_goals
   go_wp2_with fail;go_meet;have F:=u.set (v':=⟨.slice e b f,.slice g a h,.slice i (yW p.shapes).length j,.slice q (yW p.in0).length r,E⟩) 14 (.slice q (yW p.in0).length r) rfl;refine ⟨q,r,s,t,F.set 15 _ rfl,?_,?_,?_,?_,?_⟩
   ·show World.ownsRow _ w.heap.size _ 6 (.slice e b f) (p.ops.take 3000).length (qz (p.ops.take 3000))
    rw [aY.out];exact Zs F (Zs u bc (by decide) 14 _) (by decide) 15 (.slice s (yW p.in1).length t)
   ·show World.ownsRow _ w.heap.size _ 1 (.slice g a h) (p.slots.take 3000).length (ints (p.slots.take 3000))
    rw [aZ.out];exact Zs F (Zs u bd (by decide) 14 _) (by decide) 15 (.slice s (yW p.in1).length t)
   ·exact zca F (zca u be 14 _) 15 _
   ·exact zca F (zca u bf 14 _) 15 _
   ·exact zca F (zca u bb 14 _) 15 _
 case rest=>
  obtain ⟨q,r,s,t,T,bi⟩:=hcut;clear n o ay ap aG aH aI;go_wp2_with (first | ((with_reducible show wpList _ _ _ (⟨some 37,Op.load 30 _,_,_,_,_⟩::_) _ _);go_must (refine wpList_load_row rfl 30 _ rfl w.heap.size rfl _ (qn p ⟨.slice e b f,.slice g a h,.slice i (yW p.shapes).length j,.slice q (yW p.in0).length r,.slice s (yW p.in1).length t⟩) _ _ T.box underlying30 rfl yQ ?_)) | ((with_reducible show wpList _ _ _ (⟨_,Op.store 30 (.tmp 2) _,_,_,_,_⟩::_) _ _);go_must (refine wpList_store_row rfl 30 _ _ rfl (w.heap.size+1) (qn p ⟨.slice e b f,.slice g a h,.slice i (yW p.shapes).length j,.slice q (yW p.in0).length r,.slice s (yW p.in1).length t⟩) rfl rfl 30 _ T.res yQ rfl (by simp [Value.oneCell',qn]) ?_)));refine bodyPost_ret (results_cell_row rfl _ _ (w.heap.size+1) 30 (qn p ⟨.slice e b f,.slice g a h,.slice i (yW p.shapes).length j,.slice q (yW p.in0).length r,.slice s (yW p.in1).length t⟩) _ _ rfl (setRow_heap _ _ _ _ _ _ T.res) underlying30 rfl yQ) rfl ?_;exact ⟨⟨.slice e b f,.slice g a h,.slice i (yW p.shapes).length j,.slice q (yW p.in0).length r,.slice s (yW p.in1).length t⟩,rfl,bi.kept (YE _ _ _) (Off.block T.res (by decide)) (Off.block T.res (by decide)) (Off.block T.res (by decide)),below_setRow T.below (Nat.le_succ _) _⟩
end Go.Proofs.YtklofgfkaaoipaaGreatDoor

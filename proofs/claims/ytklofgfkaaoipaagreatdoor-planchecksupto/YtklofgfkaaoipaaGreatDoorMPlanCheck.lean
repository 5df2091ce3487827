/-
  WORDS for plans in memory, and the contract of plan.Check, where it is one.
-/
import Derived.Test.YtklofgfkaaoipaaGreatDoorMMost
import Derived.Test.YtklofgfkaaoipaaGreatDoorMSlots
import Derived.Test.YtklofgfkaaoipaaGreatDoorMAlone
import Derived.Test.YtklofgfkaaoipaaGreatDoorMNeedEq
import Derived.Test.YtklofgfkaaoipaaGreatDoorMMCheck
import Derived.Test.YtklofgfkaaoipaaGreatDoorMHd
set_option maxHeartbeats 16000000
set_option maxRecDepth 100000
set_option linter.unusedSimpArgs false
set_option linter.unusedVariables false
namespace Go.Proofs.YtklofgfkaaoipaaGreatDoor
open Go.RowKit Go.Proofs.Tryz
variable {B B':Nat}{w W h:World}
structure MPlan where
 ops:List MOp
 e0:Int
 e1:Int
 slots:List Int
 arena:Int
 need:MNeed
 shapes:List (List Int)
 in0:List (List Int)
 in1:List (List Int)
structure PVals where
 ops:Value
 slots:Value
 shapes:Value
 in0:Value
 in1:Value
def qn (p:MPlan)(v:PVals):Array Value:=
 #[v.ops,.int .i64 p.e0,.int .i64 p.e1,v.slots,.int .i64 p.arena,.int .i64 p.need.tri,.int .i64 p.need.bits,.int .i64 p.need.ots,.int .i64 p.need.t0,.int .i64 p.need.t1,.int .i64 p.need.rounds,.int .i64 p.need.w0,.int .i64 p.need.w1,v.shapes,v.in0,v.in1]
structure PlanAt (B:Nat)(w:World)(p:MPlan)(v:PVals):Prop where
 ops:Arr B w 6 v.ops p.ops.length (qz p.ops)
 slots:Arr B w 1 v.slots p.slots.length (ints p.slots)
 shapes:ZS B w v.shapes p.shapes
 in0:ZS B w v.in0 p.in0
 in1:ZS B w v.in1 p.in1
 l1:p.ops.length≤1000000
 l3:p.shapes.length≤1000000000
 l4:p.in0.length≤1000000000
 l5:p.in1.length≤1000000000
 hc:∀o∈p.ops,o.c<18446744073709551616
variable {p:MPlan}{v:PVals}
theorem PlanAt.later {d:World}(a:PlanAt B w p v)(b:Below B w d)(c:B≤B'):PlanAt B' d p v:=
 ⟨a.ops.later b c,a.slots.later b c,a.shapes.later b c,a.in0.later b c,a.in1.later b c,a.l1,a.l3,a.l4,a.l5,a.hc⟩
theorem zap (v:Value)(l:List (List Int))(w:World)(d:ZS w.heap.size w v l)(k:l.length≤1000000000)(a:Int)(e:Ya l=a):
  Calls prog 15 #[v] w fun b c=>b= .returned (.int .i64 a)∧c=w:=by
 obtain ⟨f,m,g,h⟩:=d;subst e;exact (zl7 v f l w g h (by omega)).mono fun b c ⟨i,j⟩=>⟨i,j.symm⟩
structure CSt (w:World)(p:MPlan)(v:PVals)(W:World):Prop where
 box:W.heap[w.heap.size]? =some (.cells (qn p v) 30 (0,0))
 below:Below w.heap.size w W
theorem CSt.later (a:CSt w p v W)(b:Below W.heap.size W h):CSt w p v h:=⟨(b.block _ (qd a.box)).trans a.box,a.below.trans (b.mono a.below.size)⟩
theorem CSt.drewN (a:CSt w p v W)(n:Nat):CSt w p v (W.drewN n):=⟨a.box,⟨a.below.os,a.below.tape,a.below.output,a.below.size,a.below.block⟩⟩
theorem CSt.drew (a:CSt w p v W):CSt w p v W.drew:=⟨a.box,a.below.drew⟩
theorem CSt.lt (a:CSt w p v W):w.heap.size<W.heap.size:=qd a.box
theorem CSt.cells (a:CSt w p v W):
  (W.cell? ⟨w.heap.size,0,none⟩=some v.ops∧W.cell? ⟨w.heap.size,1,none⟩=some (.int .i64 p.e0)∧W.cell? ⟨w.heap.size,2,none⟩=some (.int .i64 p.e1)∧W.cell? ⟨w.heap.size,3,none⟩=some v.slots∧W.cell? ⟨w.heap.size,4,none⟩=some (.int .i64 p.arena))∧
  (W.cell? ⟨w.heap.size,5,none⟩=some (.int .i64 p.need.tri)∧W.cell? ⟨w.heap.size,6,none⟩=some (.int .i64 p.need.bits)∧W.cell? ⟨w.heap.size,7,none⟩=some (.int .i64 p.need.ots)∧W.cell? ⟨w.heap.size,8,none⟩=some (.int .i64 p.need.t0)∧
  W.cell? ⟨w.heap.size,9,none⟩=some (.int .i64 p.need.t1)∧W.cell? ⟨w.heap.size,10,none⟩=some (.int .i64 p.need.rounds)∧W.cell? ⟨w.heap.size,11,none⟩=some (.int .i64 p.need.w0)∧W.cell? ⟨w.heap.size,12,none⟩=some (.int .i64 p.need.w1))∧
  (W.cell? ⟨w.heap.size,13,none⟩=some v.shapes∧W.cell? ⟨w.heap.size,14,none⟩=some v.in0∧W.cell? ⟨w.heap.size,15,none⟩=some v.in1):=by
 have:=a.box;refine ⟨⟨?_,?_,?_,?_,?_⟩,⟨?_,?_,?_,?_,?_,?_,?_,?_⟩,?_,?_,?_⟩<;>simp [World.cell?,this,qn]
def Y9 (p:MPlan):Bool:=
 decide (p.in0.length+p.in1.length≤8)&&(Ya p.in0==p.e0)&&(Ya p.in1==p.e1)&&qK p.ops p.e0 p.e1&&QJ (qw p.ops)&&decide (zbH p.ops≤65536)&&
 decide ((Qb p.ops).1=p.slots)&&((Qb p.ops).2==p.arena)&&Z8 (zy p.ops) p.need&&(Ya p.shapes==(Ql p.ops:Int))
theorem Y0 (g:ByteArray)(w:World)(c:yC w):
  Calls prog 13 #[.string g] w fun d a=>∃b,d= .returned b∧(∃h,zH a.heap.size a h 180 b)∧Below w.heap.size w a:=by
 have i:=Z c;clear c;go_enter func13,ntmps13;go_wp2_with (go_at_call 14;go_must (refine (yV _ _ _ _ i).mono ?_;rintro d l ⟨b,rfl,e,f⟩;have j:=Z e;have k:=Z f;clear e f));go_ret;exact ⟨_,rfl,⟨_,j⟩,k⟩
theorem zbI (p:MPlan)(v:PVals)(w:World)(x:PlanAt w.heap.size w p v)(aj:yC w)(V:Y9 p=true):
  Calls prog 6 #[.agg (qn p v)] w (qM .nilIface w):=by
 simp only [Y9,Bool.and_eq_true,decide_eq_true_eq,beq_iff_eq] at V;obtain ⟨⟨⟨⟨⟨⟨⟨⟨⟨bk,ak⟩,al⟩,W⟩,am⟩,an⟩,ao⟩,ap⟩,aq⟩,ar⟩:=V;obtain ⟨bl,F,G,bm,bn⟩:=v;obtain ⟨H,I,au,aN,aO,aP,av⟩:=x.ops.open;obtain ⟨J,K,aw⟩:=x.in0.form;obtain ⟨L,M,ax⟩:=x.in1.form;simp only at aw ax au;subst aw ax au;have aQ:=Z av;clear av aP aO aN;have q:=Z x;have A:=Z aj;have X:=(show CSt w p ⟨.slice H p.ops.length I,F,G,.slice J p.in0.length K,.slice L p.in1.length M⟩ (w.alloc (.cells (qn p ⟨.slice H p.ops.length I,F,G,.slice J p.in0.length K,.slice L p.in1.length M⟩) 30)) from ⟨heap_alloc_new _ _,(Below.refl _ _).alloc (Nat.le_refl _) _⟩);simp only [qn] at X ⊢;have B:=Z X;have N:=zb2 _ _ _ W;have ay:p.ops.length≤16384:=by
  simp only [qK,Bool.and_eq_true,decide_eq_true_eq] at N;exact N.1.2
 have aR:=Z N;have aS:=Z ay;have O:=Z x.l1;clear N ay;have aT:=Z ak;have aU:=Z al;have aV:=Z W;have aW:=Z am;have aX:=Z an;have aY:=Z ao;have aZ:=Z ap;have a0:=Z aq;have a1:=Z ar;clear x aj ak al W am an ao ap aq ar X;go_enter func6,ntmps6;go_wp2_with fail;generalize w.alloc _=a2 at B ⊢;obtain ⟨⟨a,f,g,b,h⟩,⟨i,j,c7,k,l,m,n,o⟩,c,d,e⟩:=B.cells;simp only at a b c d e;refine wp_loop_rounds 3 ?_;rw [rounds_succ];go_wp2_with fail;go_quiet ((go_at_call 15;exact Calls.quiet_of_same (zap _ p.in0 _ (q.in0.later (B.drewN _).below (B.drewN _).below.size) q.l4 p.e0 aT)));rename Nat=>nq
 have C:=Z (B.drewN nq);generalize a2.drewN nq=a3 at C ⊢;clear a f g b h i j c7 k l m n o c d e;obtain ⟨⟨a,f,g,b,h⟩,⟨i,j,c7,k,l,m,n,o⟩,c,d,e⟩:=C.cells;simp only at a b c d e;go_wp2_with fail;rw [rounds_succ];go_wp2_with fail;go_quiet ((go_at_call 15;exact Calls.quiet_of_same (zap _ p.in1 _ (q.in1.later (C.drewN _).below (C.drewN _).below.size) q.l5 p.e1 aU)));rename Nat=>az
 have y:=Z (C.drewN az);generalize a3.drewN az=bo at y ⊢;clear a f g b h i j c7 k l m n o c d e;obtain ⟨⟨a,f,g,b,h⟩,⟨i,j,c7,k,l,m,n,o⟩,c,d,e⟩:=y.cells;simp only at a b c d e;go_wp2_with fail;rw [rounds_succ];have a4:=aX.out;go_upto_region 13 with (first | (go_at_call 16;go_must (refine (Zv _ p.ops p.e0 p.e1 _ aV (q.ops.later y.below y.below.size) q.hc (A.below y.below)).mono ?_;rintro t bp ⟨rfl,aA⟩;have Y:=y.later aA;clear aA a f g b h i j c7 k l m n o c d e;obtain ⟨⟨a,f,g,b,h⟩,⟨i,j,c7,k,l,m,n,o⟩,c,d,e⟩:=Y.cells;simp only at a b c d e;have P:=Z Y;clear Y)) | (go_at_call 18;go_must (refine (ZK _ p.ops _ (q.ops.later P.below P.below.size) O q.hc (A.below P.below)).mono ?_;rintro t bq ⟨br,rfl,D,aB⟩;have aa:=P.later aB;clear aB a f g b h i j c7 k l m n o c d e;obtain ⟨⟨a,f,g,b,h⟩,⟨i,j,c7,k,l,m,n,o⟩,c,d,e⟩:=aa.cells;simp only at a b c d e;have a5:=Z D;have a6:=Z aa;clear aa D)) | (go_at_call 17;go_must (refine (Zo _ (qw p.ops) _ (Arr.of_owns a5)).mono ?_;rw [aW.out];rintro t bs ⟨rfl,a7,rfl⟩;have ab:=a6.drewN a7;clear a f g b h i j c7 k l m n o c d e;obtain ⟨⟨a,f,g,b,h⟩,⟨i,j,c7,k,l,m,n,o⟩,c,d,e⟩:=ab.cells;simp only at a b c d e;have Q:=Z ab;clear ab)) | (go_at_call 19;go_must (refine (zcA _ p.ops _ aR (q.ops.later Q.below Q.below.size) aS q.hc (A.below Q.below)).mono ?_;unfold qM;rintro t bt ⟨rfl,aC⟩;have ac:=Q.later aC;clear aC a f g b h i j c7 k l m n o c d e;obtain ⟨⟨a,f,g,b,h⟩,⟨i,j,c7,k,l,m,n,o⟩,c,d,e⟩:=ac.cells;simp only at a b c d e;have R:=Z ac;clear ac)) | (go_at_call 20;go_must (refine (zdi _ p.ops _ (q.ops.later R.below R.below.size) O q.hc (A.below R.below)).mono ?_;rw [aY.out,aZ.out];rintro t bu ⟨bv,rfl,D,aD⟩;have ad:=R.later aD;clear aD a f g b h i j c7 k l m n o c d e;obtain ⟨⟨a,f,g,b,h⟩,⟨i,j,c7,k,l,m,n,o⟩,c,d,e⟩:=ad.cells;simp only at a b c d e;have aE:=Z D;have ae:=Z ad;clear ad D)));have z:=Z (show decide (p.slots=p.slots)=true by simp);obtain ⟨bw,bx,a8,bz,a9⟩:=qg aE;subst a8;have aF:=Z (Arr.of_owns aE);have aG:=Z (q.slots.later ae.below ae.below.size);obtain ⟨af,S⟩:∃af,zy p.ops=af:=⟨_,rfl⟩;have ba:=Z S;have bb:=zaH af p.need;rw [←S,a0.out,S] at bb;clear a9 a4 S;go_cut [83] from 65 (fun bc bd=>bc= .bool false∧Hid (CSt w p ⟨.slice H p.ops.length I,F,G,.slice J p.in0.length K,.slice L p.in1.length M⟩ bd))
 case first=>
  go_region_with (first | (go_at_call 21;go_must (refine (Qu _ _ p.slots p.slots _ (by first | exact aF | exact Arr.drew aF) (by first | exact aG | exact Arr.drew aG)).mono ?_;rw [z.out];rintro t bA ⟨rfl,be,aH⟩;have T:=ae.drew.drewN be;rw [←aH] at T;clear aH a f g b h i j c7 k l m n o c d e;obtain ⟨⟨a,f,g,b,h⟩,⟨i,j,c7,k,l,m,n,o⟩,c,d,e⟩:=T.cells;simp only at a b c d e;have U:=Z T;clear T)) | (go_at_call 22;go_must (refine (za4 _ p.ops _ (q.ops.later U.below U.below.size) O q.hc (A.below U.below)).mono ?_;unfold qM;rw [ba.out];unfold MNeed.arr;rintro t bB ⟨rfl,aI⟩;have ag:=U.later aI;clear aI a f g b h i j c7 k l m n o c d e;obtain ⟨⟨a,f,g,b,h⟩,⟨i,j,c7,k,l,m,n,o⟩,c,d,e⟩:=ag.cells;simp only at a b c d e;have bf:=Z ag;clear ag)))
  all_goals (go_wp2_with fail;go_meet;exact ⟨rfl,bf⟩)
 case rest=>
  obtain ⟨rfl,aJ⟩:=hcut;clear a f g b h i j c7 k l m n o c d e;obtain ⟨⟨a,f,g,b,h⟩,⟨i,j,c7,k,l,m,n,o⟩,c,d,e⟩:=aJ.cells;simp only at a b c d e;go_wp2_with fail;clear a f g b h i j c7 k l m n o c d e;go_loopg [7,89] p.ops.length (fun bg bh bi wr=>∃r:Nat,r≤p.ops.length∧bg=p.ops.length-r∧bi= .int .i64 r∧bh= .int .i64 (Ql (p.ops.take r):Nat)∧Hid (CSt w p ⟨.slice H p.ops.length I,F,G,.slice J p.in0.length K,.slice L p.in1.length M⟩ wr))
  case atStart=>exact ⟨0,Nat.zero_le _,rfl,rfl,rfl,aJ⟩
  case round=>
   obtain ⟨r,bC,V,rfl,rfl,s⟩:=hrel;have aK:=za2 (p.ops.take r);rw [List.length_take] at aK;have bD:=O.out
   by_cases aL:r<p.ops.length
   ·obtain ⟨bE,bF,rfl,bj,aM⟩:=aQ.out (by omega)
    obtain ⟨a,f,g,b,h,i⟩:=y8 aM s.below bj rfl r aL;have z:=Z (ZG p.ops r aL);generalize p.ops[r]=u at a f g b h i z;clear aM
    by_cases ah:u.kind=18
    ·have E:=Z (show qI u=true by simp [qI,ah])
     go_wp2_with fail;go_roundg (p.ops.length-(r+1))
     case measure=>omega
     case rel=>exact ⟨r+1,by omega,rfl,by go_num,by rw [z.out,E.out];go_num,Z (s.later ((Below.refl _ _).alloc (Nat.le_refl _) _))⟩
    ·by_cases ai:u.kind=19
     ·have E:=Z (show qI u=true by simp [qI,ai])
      go_wp2_with fail;go_roundg (p.ops.length-(r+1))
      case measure=>omega
      case rel=>exact ⟨r+1,by omega,rfl,by go_num,by rw [z.out,E.out];go_num,Z (s.later ((Below.refl _ _).alloc (Nat.le_refl _) _))⟩
     ·have E:=Z (show ¬qI u=true by simp [qI,ah,ai])
      have bG:(u.kind==18)=false:=by simp [ah]
      have bH:(u.kind==19)=false:=by simp [ai]
      go_wp2_with fail;go_roundg (p.ops.length-(r+1))
      case measure=>omega
      case rel=>exact ⟨r+1,by omega,rfl,by go_num,by rw [z.out,if_neg E.out];rfl,Z (s.later ((Below.refl _ _).alloc (Nat.le_refl _) _))⟩
   ·obtain rfl:r=p.ops.length:=by omega
    rw [List.take_length] at aK ⊢;obtain ⟨⟨a,f,g,b,h⟩,⟨i,j,c7,k,l,m,n,o⟩,c,d,e⟩:=s.cells;simp only at a b c d e;go_wp2_with (go_at_call 15;go_must (refine (zap _ p.shapes _ (q.shapes.later s.below s.below.size) q.l3 _ a1).mono ?_;rintro t bI ⟨rfl,rfl⟩));go_ret;exact ⟨rfl,s.below⟩
def zpB:MNeed:=⟨0,0,0,0,0,0,0,0⟩
def zqp:MPlan:=⟨[],0,0, [],0,zpB, [], [], []⟩
def zqT:Value:= .slice none 0 0
def pv0:PVals:=⟨.slice none 0 0,.slice none 0 0,.slice none 0 0,.slice none 0 0,.slice none 0 0⟩
structure PlanOwn (B:Nat)(W:World)(p:MPlan)(v:PVals):Prop where
 ops:W.ownsRow B 61 6 v.ops p.ops.length (qz p.ops)
 slots:W.ownsRow B 3 1 v.slots p.slots.length (ints p.slots)
 shapes:qO B W v.shapes p.shapes
 in0:qO B W v.in0 p.in0
 in1:qO B W v.in1 p.in1
theorem PlanOwn.kept {c:Option Nat}(a:PlanOwn B W p v)(b:W.grownBy h c)(f:Off W B 61 c)(d:Off W B 3 c)(e:Off W B 24 c):PlanOwn B h p v:=
 ⟨qp a.ops b f,qp a.slots b d,a.shapes.kept b e d,a.in0.kept b e d,a.in1.kept b e d⟩
theorem PlanOwn.zero (B:Nat)(W:World):PlanOwn B W zqp pv0:=⟨World.ownsRow_nil _ _ _ _,World.ownsRow_nil _ _ _ _,qO.nil _ _,qO.nil _ _,qO.nil _ _⟩
theorem PlanOwn.base (a:PlanOwn B W p v)(b:B'≤B):PlanOwn B' W p v:=⟨qk a.ops b,qk a.slots b,a.shapes.base b,a.in0.base b,a.in1.base b⟩
theorem PlanOwn.at (a:PlanOwn B W p v)(b:p.ops.length≤1000000)(c:p.shapes.length≤1000000000)(d:p.in0.length≤1000000000)(e:p.in1.length≤1000000000)(f:∀g∈p.ops,g.c<18446744073709551616):PlanAt W.heap.size W p v:=
 ⟨Arr.of_owns a.ops,by have:=Arr.of_owns a.slots;exact this,a.shapes.sh,a.in0.sh,a.in1.sh,b,c,d,e,f⟩
theorem zmL:(prog.info? 61).map (fun a=>(a.zero,a.size,a.bytes))=some (some (.agg #[.int .i64 0,.int .i64 0,.int .i64 0,.int .i64 0,.int .u64 0,.int .i64 0]),6,48):=by kernel_rfl
def zp:Array Value:=#[.slice none 0 0,.int .i64 0,.int .i64 0,.slice none 0 0,.int .i64 0,.int .i64 0,.int .i64 0,.int .i64 0,.int .i64 0,.int .i64 0,.int .i64 0,.int .i64 0,.int .i64 0,.slice none 0 0,.slice none 0 0,.slice none 0 0]
theorem zk5:(prog.info? 30).map (·.size)=some 16:=by kernel_rfl
end Go.Proofs.YtklofgfkaaoipaaGreatDoor

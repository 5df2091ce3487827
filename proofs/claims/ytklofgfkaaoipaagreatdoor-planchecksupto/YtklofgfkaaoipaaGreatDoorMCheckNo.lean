/-
  THE CONTRACT of plan.Check, where it is no plan.
-/
import Derived.Test.YtklofgfkaaoipaaGreatDoorMPlanCheck
import Derived.Test.YtklofgfkaaoipaaGreatDoorMHd
set_option maxHeartbeats 16000000
set_option maxRecDepth 100000
set_option linter.unusedSimpArgs false
set_option linter.unusedVariables false
namespace Go.Proofs.YtklofgfkaaoipaaGreatDoor
open Go.RowKit Go.Proofs.Tryz
def zpc (w:World)(e:Ending)(a:World):Prop:=∃b,e= .returned b∧(∃c,zH a.heap.size a c 180 b)∧Below w.heap.size w a
theorem zgY (p:MPlan)(v:PVals)(w:World)(R:PlanAt w.heap.size w p v)(aY:yC w)(aI:Y9 p=false):
  Calls prog 6 #[.agg (qn p v)] w (zpc w):=by
 obtain ⟨bS,aa,ab,bT,bU⟩:=v;obtain ⟨ac,ad,aZ,bp,bq,br,a0⟩:=R.ops.open;obtain ⟨ae,af,a1⟩:=R.in0.form;obtain ⟨ag,ah,a2⟩:=R.in1.form;simp only at a1 a2 aZ;subst a1 a2 aZ;have bs:=Z a0;have q:=Z R;have u:=Z aY;have bt:=Z aI;have aJ:=(show CSt w p ⟨.slice ac p.ops.length ad,aa,ab,.slice ae p.in0.length af,.slice ag p.in1.length ah⟩ (w.alloc (.cells (qn p ⟨.slice ac p.ops.length ad,aa,ab,.slice ae p.in0.length af,.slice ag p.in1.length ah⟩) 30)) from ⟨heap_alloc_new _ _,(Below.refl _ _).alloc (Nat.le_refl _) _⟩);simp only [qn] at aJ ⊢;have M:=Z aJ;have S:=Z R.l1;have bV:=R.l4;have bW:=R.l5;obtain ⟨aE,a3⟩:∃ar,Ya p.in0=ar:=⟨_,rfl⟩;obtain ⟨aF,a4⟩:∃ar,Ya p.in1=ar:=⟨_,rfl⟩;obtain ⟨a5,a6⟩:∃ar,Ya p.shapes=ar:=⟨_,rfl⟩;have a7:=Z a3;have a8:=Z a4;have T:=Z a6;clear R aY aI aJ a0 br bq bp a3 a4 a6
 by_cases bu:p.in0.length+p.in1.length≤8
 rotate_left
 ·as_aux_lemma=>
   go_enter func6,ntmps6;go_wp2_with fail;generalize w.alloc _=a9 at M ⊢;obtain ⟨⟨a,f,g,b,h⟩,⟨i,j,c7,k,l,m,n,o⟩,c,d,e⟩:=M.cells;simp only at a b c d e;go_wp2_with (go_at_call 13;go_must (refine (Y0 _ _ (u.below M.below)).mono ?_;rintro r P ⟨Q,rfl,s,t⟩;have y:=Z s;have z:=Z (M.below.trans (t.mono M.below.size));clear s t));go_ret;exact ⟨_,rfl,y,z⟩
 go_enter func6,ntmps6;go_wp2_with fail;generalize w.alloc _=a9 at M ⊢;obtain ⟨⟨a,f,g,b,h⟩,⟨i,j,c7,k,l,m,n,o⟩,c,d,e⟩:=M.cells;simp only at a b c d e;refine wp_loop_rounds 3 ?_;rw [rounds_succ];go_wp2_with fail;go_quiet ((go_at_call 15;exact Calls.quiet_of_same (zap _ p.in0 _ (q.in0.later (M.drewN _).below (M.drewN _).below.size) q.l4 aE a7)));rename Nat=>nq
 have U:=Z (M.drewN nq);generalize a9.drewN nq=bv at U ⊢;clear a f g b h i j c7 k l m n o c d e;obtain ⟨⟨a,f,g,b,h⟩,⟨i,j,c7,k,l,m,n,o⟩,c,d,e⟩:=U.cells;simp only at a b c d e
 by_cases au:aE=p.e0
 rotate_left
 ·have bw:(aE != p.e0)=true:=by simp [au]
  clear au
  as_aux_lemma=>
   go_wp2_with (go_at_call 13;go_must (refine (Y0 _ _ (u.below U.below)).mono ?_;rintro r P ⟨Q,rfl,s,t⟩;have y:=Z s;have z:=Z (U.below.trans (t.mono U.below.size));clear s t));go_ret;exact ⟨_,rfl,y,z⟩
 have bw:(aE != p.e0)=false:=by simp [au]
 have bx:=Z au;clear au;go_wp2_with fail;rw [rounds_succ];go_wp2_with fail;go_quiet ((go_at_call 15;exact Calls.quiet_of_same (zap _ p.in1 _ (q.in1.later (U.drewN _).below (U.drewN _).below.size) q.l5 aF a8)));rename Nat=>ba
 have x:=Z (U.drewN ba);generalize bv.drewN ba=bX at x ⊢;clear a f g b h i j c7 k l m n o c d e;obtain ⟨⟨a,f,g,b,h⟩,⟨i,j,c7,k,l,m,n,o⟩,c,d,e⟩:=x.cells;simp only at a b c d e
 by_cases av:aF=p.e1
 rotate_left
 ·have bz:(aF != p.e1)=true:=by simp [av]
  clear av
  as_aux_lemma=>
   go_wp2_with (go_at_call 13;go_must (refine (Y0 _ _ (u.below x.below)).mono ?_;rintro r P ⟨Q,rfl,s,t⟩;have y:=Z s;have z:=Z (x.below.trans (t.mono x.below.size));clear s t));go_ret;exact ⟨_,rfl,y,z⟩
 have bz:(aF != p.e1)=false:=by simp [av]
 have bA:=Z av;clear av;go_wp2_with fail;rw [rounds_succ];go_wp2_with fail;rcases g3:qK p.ops p.e0 p.e1 with _ | _
 ·have ap:=Z g3
  clear g3
  as_aux_lemma=>
   go_wp2_with (first | (go_at_call 16;go_must (refine (zec _ p.ops p.e0 p.e1 _ ap (q.ops.later x.below x.below.size) S q.hc (u.below x.below)).mono ?_;rintro r aK ⟨⟨bY,bZ,rfl⟩,H⟩;have E:=x.later H;clear H a f g b h i j c7 k l m n o c d e;obtain ⟨⟨a,f,g,b,h⟩,⟨i,j,c7,k,l,m,n,o⟩,c,d,e⟩:=E.cells;simp only at a b c d e;have B:=Z E;clear E)) | (go_at_call 13;go_must (refine (Y0 _ _ (u.below B.below)).mono ?_;rintro r P ⟨Q,rfl,s,t⟩;have y:=Z s;have z:=Z (B.below.trans (t.mono B.below.size));clear s t)));go_ret;exact ⟨_,rfl,y,z⟩
 have aG:=zb2 _ _ _ g3;have bb:p.ops.length≤16384:=by
  simp only [qK,Bool.and_eq_true,decide_eq_true_eq] at aG;exact aG.1.2
 have bc:=Z aG;have bd:=Z bb;have ap:=Z g3;clear g3 aG bb;rcases g4:QJ (qw p.ops) with _ | _
 ·have aw:=Z g4
  clear g4
  as_aux_lemma=>
   go_wp2_with (first | (go_at_call 16;go_must (refine (Zv _ p.ops p.e0 p.e1 _ ap (q.ops.later x.below x.below.size) q.hc (u.below x.below)).mono ?_;rintro r aK ⟨rfl,H⟩;have E:=x.later H;clear H a f g b h i j c7 k l m n o c d e;obtain ⟨⟨a,f,g,b,h⟩,⟨i,j,c7,k,l,m,n,o⟩,c,d,e⟩:=E.cells;simp only at a b c d e;have B:=Z E;clear E)) | (go_at_call 18;go_must (refine (ZK _ p.ops _ (q.ops.later B.below B.below.size) S q.hc (u.below B.below)).mono ?_;rintro r be ⟨bf,rfl,I,V⟩;have ax:=Z I;clear I;have J:=B.later V;clear V a f g b h i j c7 k l m n o c d e;obtain ⟨⟨a,f,g,b,h⟩,⟨i,j,c7,k,l,m,n,o⟩,c,d,e⟩:=J.cells;simp only at a b c d e;have ay:=Z J;clear J)) | (go_at_call 17;go_must (refine (Zo _ (qw p.ops) _ (Arr.of_owns ax)).mono ?_;rw [aw.out];rintro r bg ⟨rfl,az,rfl⟩;have K:=ay.drewN az;clear a f g b h i j c7 k l m n o c d e;obtain ⟨⟨a,f,g,b,h⟩,⟨i,j,c7,k,l,m,n,o⟩,c,d,e⟩:=K.cells;simp only at a b c d e;have F:=Z K;clear K)) | (go_at_call 13;go_must (refine (Y0 _ _ (u.below F.below)).mono ?_;rintro r P ⟨Q,rfl,s,t⟩;have y:=Z s;have z:=Z (F.below.trans (t.mono F.below.size));clear s t)));go_ret;exact ⟨_,rfl,y,z⟩
 have aw:=Z g4;clear g4
 by_cases aL:zbH p.ops≤65536
 rotate_left
 ·have b0:65536<zbH p.ops:=by omega
  clear aL
  as_aux_lemma=>
   go_wp2_with (first | (go_at_call 16;go_must (refine (Zv _ p.ops p.e0 p.e1 _ ap (q.ops.later x.below x.below.size) q.hc (u.below x.below)).mono ?_;rintro r aK ⟨rfl,H⟩;have E:=x.later H;clear H a f g b h i j c7 k l m n o c d e;obtain ⟨⟨a,f,g,b,h⟩,⟨i,j,c7,k,l,m,n,o⟩,c,d,e⟩:=E.cells;simp only at a b c d e;have B:=Z E;clear E)) | (go_at_call 18;go_must (refine (ZK _ p.ops _ (q.ops.later B.below B.below.size) S q.hc (u.below B.below)).mono ?_;rintro r be ⟨bf,rfl,I,V⟩;have ax:=Z I;clear I;have J:=B.later V;clear V a f g b h i j c7 k l m n o c d e;obtain ⟨⟨a,f,g,b,h⟩,⟨i,j,c7,k,l,m,n,o⟩,c,d,e⟩:=J.cells;simp only at a b c d e;have ay:=Z J;clear J)) | (go_at_call 17;go_must (refine (Zo _ (qw p.ops) _ (Arr.of_owns ax)).mono ?_;rw [aw.out];rintro r bg ⟨rfl,az,rfl⟩;have K:=ay.drewN az;clear a f g b h i j c7 k l m n o c d e;obtain ⟨⟨a,f,g,b,h⟩,⟨i,j,c7,k,l,m,n,o⟩,c,d,e⟩:=K.cells;simp only at a b c d e;have F:=Z K;clear K)) | (go_at_call 19;go_must (refine (zcA _ p.ops _ bc (q.ops.later F.below F.below.size) bd q.hc (u.below F.below)).mono ?_;unfold qM;rintro r bB ⟨rfl,aA⟩;have ai:=F.later aA;clear aA a f g b h i j c7 k l m n o c d e;obtain ⟨⟨a,f,g,b,h⟩,⟨i,j,c7,k,l,m,n,o⟩,c,d,e⟩:=ai.cells;simp only at a b c d e;have W:=Z ai;clear ai)) | (go_at_call 13;go_must (refine (Y0 _ _ (u.below W.below)).mono ?_;rintro r P ⟨Q,rfl,s,t⟩;have y:=Z s;have z:=Z (W.below.trans (t.mono W.below.size));clear s t)));go_ret;exact ⟨_,rfl,y,z⟩
 obtain ⟨aM,bh⟩:∃aM,Qb p.ops=aM:=⟨_,rfl⟩;obtain ⟨aj,aN⟩:=aM;have aO:=Z bh;clear bh;go_upto_region 13 with (first | (go_at_call 16;go_must (refine (Zv _ p.ops p.e0 p.e1 _ ap (q.ops.later x.below x.below.size) q.hc (u.below x.below)).mono ?_;rintro r aK ⟨rfl,H⟩;have E:=x.later H;clear H a f g b h i j c7 k l m n o c d e;obtain ⟨⟨a,f,g,b,h⟩,⟨i,j,c7,k,l,m,n,o⟩,c,d,e⟩:=E.cells;simp only at a b c d e;have B:=Z E;clear E)) | (go_at_call 18;go_must (refine (ZK _ p.ops _ (q.ops.later B.below B.below.size) S q.hc (u.below B.below)).mono ?_;rintro r be ⟨bf,rfl,I,V⟩;have ax:=Z I;clear I;have J:=B.later V;clear V a f g b h i j c7 k l m n o c d e;obtain ⟨⟨a,f,g,b,h⟩,⟨i,j,c7,k,l,m,n,o⟩,c,d,e⟩:=J.cells;simp only at a b c d e;have ay:=Z J;clear J)) | (go_at_call 17;go_must (refine (Zo _ (qw p.ops) _ (Arr.of_owns ax)).mono ?_;rw [aw.out];rintro r bg ⟨rfl,az,rfl⟩;have K:=ay.drewN az;clear a f g b h i j c7 k l m n o c d e;obtain ⟨⟨a,f,g,b,h⟩,⟨i,j,c7,k,l,m,n,o⟩,c,d,e⟩:=K.cells;simp only at a b c d e;have F:=Z K;clear K)) | (go_at_call 19;go_must (refine (zcA _ p.ops _ bc (q.ops.later F.below F.below.size) bd q.hc (u.below F.below)).mono ?_;unfold qM;rintro r bB ⟨rfl,aA⟩;have ai:=F.later aA;clear aA a f g b h i j c7 k l m n o c d e;obtain ⟨⟨a,f,g,b,h⟩,⟨i,j,c7,k,l,m,n,o⟩,c,d,e⟩:=ai.cells;simp only at a b c d e;have W:=Z ai;clear ai)) | (go_at_call 20;go_must (refine (zdi _ p.ops _ (q.ops.later W.below W.below.size) S q.hc (u.below W.below)).mono ?_;rw [aO.out];simp only;rintro r b1 ⟨b2,rfl,I,bi⟩;have bj:=Z I;clear I;have aP:=W.later bi;clear bi a f g b h i j c7 k l m n o c d e;obtain ⟨⟨a,f,g,b,h⟩,⟨i,j,c7,k,l,m,n,o⟩,c,d,e⟩:=aP.cells;simp only at a b c d e;have aq:=Z aP;clear aP)));have bC:=Z aL;clear aL;obtain ⟨b3,b4,bD,b5,bE⟩:=qg bj;subst bD;have X:=Z (Arr.of_owns bj);have Y:=Z (q.slots.later aq.below aq.below.size);clear bE
 by_cases aB:aj=p.slots
 rotate_left
 ·have N:=Z (show decide (aj=p.slots)=false by simpa using aB)
  clear aB
  as_aux_lemma=>
   go_cut [83] from 65 (fun ak al=>ak= .bool true∧Hid (CSt w p ⟨.slice ac p.ops.length ad,aa,ab,.slice ae p.in0.length af,.slice ag p.in1.length ah⟩ al))
   case first=>
    first | (go_region_with (go_at_call 21;go_must (refine (Qu _ _ aj p.slots _ (by first | exact X | exact Arr.drew X) (by first | exact Y | exact Arr.drew Y)).mono ?_;rw [N.out];rintro r aQ ⟨rfl,am,L⟩;have A:=aq.drew.drewN am;rw [←L] at A;clear L;clear a f g b h i j c7 k l m n o c d e;obtain ⟨⟨a,f,g,b,h⟩,⟨i,j,c7,k,l,m,n,o⟩,c,d,e⟩:=A.cells;simp only at a b c d e;have G:=Z A;clear A))) | (fail "region")
    all_goals (go_wp2_with fail;go_meet;exact ⟨rfl,G⟩)
   case rest=>
    obtain ⟨rfl,C⟩:=hcut;clear a f g b h i j c7 k l m n o c d e;obtain ⟨⟨a,f,g,b,h⟩,⟨i,j,c7,k,l,m,n,o⟩,c,d,e⟩:=C.cells;simp only at a b c d e;go_wp2_with (go_at_call 13;go_must (refine (Y0 _ _ (u.below C.below)).mono ?_;rintro r P ⟨Q,rfl,s,t⟩;have y:=Z s;have z:=Z (C.below.trans (t.mono C.below.size));clear s t));go_ret;exact ⟨_,rfl,y,z⟩
 have N:=Z (show decide (aj=p.slots)=true by simpa using aB);have bF:=Z aB;clear aB
 by_cases aC:aN=p.arena
 rotate_left
 ·have bG:(aN != p.arena)=true:=by simp [aC]
  clear aC
  as_aux_lemma=>
   go_cut [83] from 65 (fun ak al=>ak= .bool true∧Hid (CSt w p ⟨.slice ac p.ops.length ad,aa,ab,.slice ae p.in0.length af,.slice ag p.in1.length ah⟩ al))
   case first=>
    first | (go_region_with (go_at_call 21;go_must (refine (Qu _ _ aj p.slots _ (by first | exact X | exact Arr.drew X) (by first | exact Y | exact Arr.drew Y)).mono ?_;rw [N.out];rintro r aQ ⟨rfl,am,L⟩;have A:=aq.drew.drewN am;rw [←L] at A;clear L;clear a f g b h i j c7 k l m n o c d e;obtain ⟨⟨a,f,g,b,h⟩,⟨i,j,c7,k,l,m,n,o⟩,c,d,e⟩:=A.cells;simp only at a b c d e;have G:=Z A;clear A))) | (fail "region")
    all_goals (go_wp2_with fail;go_meet;exact ⟨rfl,G⟩)
   case rest=>
    obtain ⟨rfl,C⟩:=hcut;clear a f g b h i j c7 k l m n o c d e;obtain ⟨⟨a,f,g,b,h⟩,⟨i,j,c7,k,l,m,n,o⟩,c,d,e⟩:=C.cells;simp only at a b c d e;go_wp2_with (go_at_call 13;go_must (refine (Y0 _ _ (u.below C.below)).mono ?_;rintro r P ⟨Q,rfl,s,t⟩;have y:=Z s;have z:=Z (C.below.trans (t.mono C.below.size));clear s t));go_ret;exact ⟨_,rfl,y,z⟩
 have bG:(aN != p.arena)=false:=by simp [aC]
 have bH:=Z aC;clear aC;obtain ⟨aH,bk⟩:∃aH,zy p.ops=aH:=⟨_,rfl⟩;have aR:=Z bk;clear bk;have bl:=zaH aH p.need;rcases gX:Z8 aH p.need with _ | _
 ·rw [gX] at bl
  clear gX
  as_aux_lemma=>
   go_cut [83] from 65 (fun ak al=>ak= .bool true∧Hid (CSt w p ⟨.slice ac p.ops.length ad,aa,ab,.slice ae p.in0.length af,.slice ag p.in1.length ah⟩ al))
   case first=>
    go_region_with (first | (go_at_call 21;go_must (refine (Qu _ _ aj p.slots _ (by first | exact X | exact Arr.drew X) (by first | exact Y | exact Arr.drew Y)).mono ?_;rw [N.out];rintro r aQ ⟨rfl,am,L⟩;have A:=aq.drew.drewN am;rw [←L] at A;clear L;clear a f g b h i j c7 k l m n o c d e;obtain ⟨⟨a,f,g,b,h⟩,⟨i,j,c7,k,l,m,n,o⟩,c,d,e⟩:=A.cells;simp only at a b c d e;have G:=Z A;clear A)) | (go_at_call 22;go_must (refine (za4 _ p.ops _ (q.ops.later G.below G.below.size) S q.hc (u.below G.below)).mono ?_;unfold qM;rw [aR.out];unfold MNeed.arr;rintro r bI ⟨rfl,aD⟩;have an:=G.later aD;clear aD a f g b h i j c7 k l m n o c d e;obtain ⟨⟨a,f,g,b,h⟩,⟨i,j,c7,k,l,m,n,o⟩,c,d,e⟩:=an.cells;simp only at a b c d e;have aS:=Z an;clear an)))
    all_goals (go_wp2_with fail;go_meet;exact ⟨rfl,aS⟩)
   case rest=>
    obtain ⟨rfl,C⟩:=hcut;clear a f g b h i j c7 k l m n o c d e;obtain ⟨⟨a,f,g,b,h⟩,⟨i,j,c7,k,l,m,n,o⟩,c,d,e⟩:=C.cells;simp only at a b c d e;go_wp2_with (go_at_call 13;go_must (refine (Y0 _ _ (u.below C.below)).mono ?_;rintro r P ⟨Q,rfl,s,t⟩;have y:=Z s;have z:=Z (C.below.trans (t.mono C.below.size));clear s t));go_ret;exact ⟨_,rfl,y,z⟩
 rw [gX] at bl;have bJ:=Z gX;clear gX;go_cut [83] from 65 (fun ak al=>ak= .bool false∧Hid (CSt w p ⟨.slice ac p.ops.length ad,aa,ab,.slice ae p.in0.length af,.slice ag p.in1.length ah⟩ al))
 case first=>
  go_region_with (first | (go_at_call 21;go_must (refine (Qu _ _ aj p.slots _ (by first | exact X | exact Arr.drew X) (by first | exact Y | exact Arr.drew Y)).mono ?_;rw [N.out];rintro r aQ ⟨rfl,am,L⟩;have A:=aq.drew.drewN am;rw [←L] at A;clear L;clear a f g b h i j c7 k l m n o c d e;obtain ⟨⟨a,f,g,b,h⟩,⟨i,j,c7,k,l,m,n,o⟩,c,d,e⟩:=A.cells;simp only at a b c d e;have G:=Z A;clear A)) | (go_at_call 22;go_must (refine (za4 _ p.ops _ (q.ops.later G.below G.below.size) S q.hc (u.below G.below)).mono ?_;unfold qM;rw [aR.out];unfold MNeed.arr;rintro r bI ⟨rfl,aD⟩;have an:=G.later aD;clear aD a f g b h i j c7 k l m n o c d e;obtain ⟨⟨a,f,g,b,h⟩,⟨i,j,c7,k,l,m,n,o⟩,c,d,e⟩:=an.cells;simp only at a b c d e;have aS:=Z an;clear an)))
  all_goals (go_wp2_with fail;go_meet;exact ⟨rfl,aS⟩)
 case rest=>
  obtain ⟨rfl,C⟩:=hcut;clear a f g b h i j c7 k l m n o c d e;obtain ⟨⟨a,f,g,b,h⟩,⟨i,j,c7,k,l,m,n,o⟩,c,d,e⟩:=C.cells;simp only at a b c d e;go_wp2_with fail;clear a f g b h i j c7 k l m n o c d e;go_loopg [7,89] p.ops.length (fun bK bL bM wr=>∃D:Nat,D≤p.ops.length∧bK=p.ops.length-D∧bM= .int .i64 D∧bL= .int .i64 (Ql (p.ops.take D):Nat)∧Hid (CSt w p ⟨.slice ac p.ops.length ad,aa,ab,.slice ae p.in0.length af,.slice ag p.in1.length ah⟩ wr))
  case atStart=>exact ⟨0,Nat.zero_le _,rfl,rfl,rfl,C⟩
  case round=>
   obtain ⟨D,b6,aI,rfl,rfl,O⟩:=hrel;have aT:=za2 (p.ops.take D);rw [List.length_take] at aT;have b7:=S.out
   by_cases bm:D<p.ops.length
   ·obtain ⟨b8,b9,rfl,bN,bn⟩:=bs.out (by omega)
    obtain ⟨a,f,g,b,h,i⟩:=y8 bn O.below bN rfl D bm;have N:=Z (ZG p.ops D bm);generalize p.ops[D]=ao at a f g b h i N;clear bn
    by_cases aU:ao.kind=18
    ·have T:=Z (show qI ao=true by simp [qI,aU])
     go_wp2_with fail;go_roundg (p.ops.length-(D+1))
     case measure=>omega
     case rel=>exact ⟨D+1,by omega,rfl,by go_num,by rw [N.out,T.out];go_num,Z (O.later ((Below.refl _ _).alloc (Nat.le_refl _) _))⟩
    ·by_cases aV:ao.kind=19
     ·have T:=Z (show qI ao=true by simp [qI,aV])
      go_wp2_with fail;go_roundg (p.ops.length-(D+1))
      case measure=>omega
      case rel=>exact ⟨D+1,by omega,rfl,by go_num,by rw [N.out,T.out];go_num,Z (O.later ((Below.refl _ _).alloc (Nat.le_refl _) _))⟩
     ·have T:=Z (show ¬qI ao=true by simp [qI,aU,aV])
      have ca:(ao.kind==18)=false:=by simp [aU]
      have cb:(ao.kind==19)=false:=by simp [aV]
      go_wp2_with fail;go_roundg (p.ops.length-(D+1))
      case measure=>omega
      case rel=>exact ⟨D+1,by omega,rfl,by go_num,by rw [N.out,if_neg T.out];rfl,Z (O.later ((Below.refl _ _).alloc (Nat.le_refl _) _))⟩
   ·obtain rfl:D=p.ops.length:=by omega
    rw [List.take_length] at aT ⊢;obtain ⟨aW,aX⟩:∃aW,Ql p.ops=aW:=⟨_,rfl⟩;have bO:=Z aX;rw [aX] at aT ⊢;clear aX;obtain ⟨⟨a,f,g,b,h⟩,⟨i,j,c7,k,l,m,n,o⟩,c,d,e⟩:=O.cells;simp only at a b c d e;have cc:(a5 != (aW:Int))=true:=by
     rw [bne_iff_ne];intro bP;have bo:=bt.out;rw [←Bool.not_eq_true] at bo
     apply bo
     have bQ:(Qb p.ops).1=p.slots:=by rw [aO.out];exact bF
     have bR:(Qb p.ops).2=p.arena:=by rw [aO.out];exact bH
     simp only [Y9,Bool.and_eq_true,decide_eq_true_eq,beq_iff_eq];exact ⟨⟨⟨⟨⟨⟨⟨⟨⟨bu,a7.trans bx⟩,a8.trans bA⟩,ap⟩,aw⟩,bC⟩,bQ⟩,bR⟩,by rw [aR.out];exact bJ⟩,by rw [T.out,bO.out];exact bP⟩
    go_wp2_with (first | (go_at_call 15;go_must (refine (zap _ p.shapes _ (q.shapes.later O.below O.below.size) q.l3 a5 T).mono ?_;rintro r cd ⟨rfl,rfl⟩)) | (go_at_call 13;go_must (refine (Y0 _ _ (u.below O.below)).mono ?_;rintro r P ⟨Q,rfl,s,t⟩;have y:=Z s;have z:=Z (O.below.trans (t.mono O.below.size));clear s t)));go_ret;exact ⟨_,rfl,y,z⟩
end Go.Proofs.YtklofgfkaaoipaaGreatDoor

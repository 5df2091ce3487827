/-
  THE CONTRACT of twainref18.Good.
-/
import Derived.Test.YtklofgfkaaoipaaGreatDoorMRefMake3
import Derived.Test.YtklofgfkaaoipaaGreatDoorMMakeW
import Derived.Test.YtklofgfkaaoipaaGreatDoorMHeapLaw
import Derived.Test.YtklofgfkaaoipaaGreatDoorMRefSame1
import Derived.Test.YtklofgfkaaoipaaGreatDoorMHd
set_option maxHeartbeats 16000000
set_option maxRecDepth 100000
set_option linter.unusedSimpArgs false
set_option linter.unusedVariables false
namespace Go.Proofs.YtklofgfkaaoipaaGreatDoor
open Go.RowKit Go.Proofs.Tryz
theorem QT (v:Value)(l:List (List Int))(w:World)(b:ZS w.heap.size w v l)(c:l.length≤1000000000)(a:Int)(d:Ya l=a):
  Calls prog 23 #[v] w fun e f=>e= .returned (.int .i64 a)∧f=w:=by
 subst d;exact zg7 v l w b c
theorem zha (a b:MNeed)(w:World):(binOp .eql 26 (.agg #[.int .i64 a.tri,.int .i64 a.bits,.int .i64 a.ots,.int .i64 a.t0,.int .i64 a.t1,.int .i64 a.rounds,.int .i64 a.w0,.int .i64 a.w1])
  (.agg #[.int .i64 b.tri,.int .i64 b.bits,.int .i64 b.ots,.int .i64 b.t0,.int .i64 b.t1,.int .i64 b.rounds,.int .i64 b.w0,.int .i64 b.w1])).run prog w= .ok (.bool (Z8 a b)) w:=by
 have u1:=underlying3;have o:=zbo;have p:=zfD;have q:=zcb;have r:=ze2;have g:=fun a b h i w=>zi3 9997 a b h i w
 simp only [show (9997+2:Nat)=9999 from rfl] at g;have j:prog.underlying 26=some (.struct (prog.fieldsOf 26)):=by kernel_rfl
 rw [run_eql_struct,show (10000:Nat)=9999+1 from rfl,run_equalIn_agg w 9999 26 _ _ j (by kernel_rfl)];simp only [Program.fieldsOf,underlying26];go_simp;simp only [Z8]
 by_cases c:a.tri=b.tri<;>(first | (simp [c];done) | skip)
 by_cases d:a.bits=b.bits<;>(first | (simp [d];done) | skip)
 by_cases e:a.ots=b.ots<;>(first | (simp [e];done) | skip)
 by_cases f:a.rounds=b.rounds<;>(first | (simp [f];done) | skip)
 all_goals by_cases k:a.t0=b.t0<;>by_cases l:a.t1=b.t1<;>by_cases m:a.w0=b.w0<;>by_cases n:a.w1=b.w1<;>simp [c,d,e,f,k,l,m,n]
theorem zol {o:MOp}{b c:Int}(a:(qq o b c).2=true):o.kind≤19:=by
 by_cases d:o.kind=1
 ·omega
 by_cases e:o.kind=17
 ·omega
 have f:qq o b c=qu o.kind:=by unfold qq;rw [if_neg d,if_neg e]
 rw [f] at a;rcases zS _ a with a | a | a | a | a | a | a | a | a | a | a | a | a | a | a | a | a<;>omega
theorem zdF (p:MPlan)(v:PVals)(w:World)(J:PlanAt w.heap.size w p v):
  Calls prog 7 #[.agg (qn p v)] w (qM (.bool (Y9 p)) w):=by
 obtain ⟨cb,aK,aL,cc,cd⟩:=v;obtain ⟨aM,aN,a9,bE,bF,bG,ba⟩:=J.ops.open;obtain ⟨U,V,af⟩:=J.in0.form;obtain ⟨W,X,bb⟩:=J.in1.form;simp only at af bb a9;subst af bb a9;have bH:=Z ba;have r:=Z J;have aO:=(show CSt w p ⟨.slice aM p.ops.length aN,aK,aL,.slice U p.in0.length V,.slice W p.in1.length X⟩ (w.alloc (.cells (qn p ⟨.slice aM p.ops.length aN,aK,aL,.slice U p.in0.length V,.slice W p.in1.length X⟩) 30)) from ⟨heap_alloc_new _ _,(Below.refl _ _).alloc (Nat.le_refl _) _⟩);simp only [qn] at aO ⊢;have s:=Z aO;have bc:=Z J.l1;have ce:=J.l4;have cf:=J.l5;obtain ⟨K,bd⟩:∃ag,Ya p.in0=ag:=⟨_,rfl⟩;obtain ⟨L,be⟩:∃ag,Ya p.in1=ag:=⟨_,rfl⟩;obtain ⟨aP,bf⟩:∃ag,Ya p.shapes=ag:=⟨_,rfl⟩;have ah:=Z bd;have ai:=Z be;have B:=Z bf;obtain ⟨z,aQ⟩:∃z,Y9 p=z:=⟨_,rfl⟩;rw [aQ];have P:=Z aQ;clear J aO ba bG bF bE bd be bf aQ;go_enter func7,ntmps7;go_upto_region 1 with fail;generalize w.alloc _=aR at s ⊢;obtain ⟨⟨b,g,h,c,i⟩,⟨j,k,c7,l,m,n,o,q⟩,d,e,f⟩:=s.cells;simp only at b c d e f
 by_cases cg:8<p.in0.length+p.in1.length
 ·have bI:decide ((8:Int)<(p.in0.length:Int)+(p.in1.length:Int))=true:=decide_eq_true (by omega)
  have u:=Z (show z=false by rw [←P.out];unfold Y9;rw [decide_eq_false (show ¬(p.in0.length+p.in1.length≤8) by omega)];simp);go_quiet (fail);go_wp2_with fail;go_ret;exact ⟨by rw [u.out];rfl,by first | exact qC s.below _ | exact s.below⟩
 have bI:decide ((8:Int)<(p.in0.length:Int)+(p.in1.length:Int))=false:=decide_eq_false (by omega)
 by_cases ay:K=p.e0
 rotate_left
 ·have bJ:(K != p.e0)=true:=by simpa using ay
  have u:=Z (show z=false by rw [←P.out];unfold Y9;rw [ah.out,show (K==p.e0)=false by simpa using ay];simp);go_quiet ((first | ((with_reducible show Calls _ _ #[.slice U p.in0.length V] _ _);exact Calls.quiet_of_same (QT _ p.in0 _ (r.in0.later (s.drewN _).below (s.drewN _).below.size) r.l4 K ah)) | ((with_reducible show Calls _ _ #[.slice W p.in1.length X] _ _);exact Calls.quiet_of_same (QT _ p.in1 _ (r.in1.later (s.drewN _).below (s.drewN _).below.size) r.l5 L ai))));go_wp2_with fail;go_ret;exact ⟨by rw [u.out];rfl,by first | exact qC s.below _ | exact s.below⟩
 have bJ:(K != p.e0)=false:=by simp [ay]
 by_cases az:L=p.e1
 rotate_left
 ·have bK:(L != p.e1)=true:=by simpa using az
  have u:=Z (show z=false by rw [←P.out];unfold Y9;rw [ai.out,show (L==p.e1)=false by simpa using az];simp);go_quiet ((first | ((with_reducible show Calls _ _ #[.slice U p.in0.length V] _ _);exact Calls.quiet_of_same (QT _ p.in0 _ (r.in0.later (s.drewN _).below (s.drewN _).below.size) r.l4 K ah)) | ((with_reducible show Calls _ _ #[.slice W p.in1.length X] _ _);exact Calls.quiet_of_same (QT _ p.in1 _ (r.in1.later (s.drewN _).below (s.drewN _).below.size) r.l5 L ai))));go_wp2_with fail;go_ret;exact ⟨by rw [u.out];rfl,by first | exact qC s.below _ | exact s.below⟩
 have bK:(L != p.e1)=false:=by simp [az]
 go_quiet ((first | ((with_reducible show Calls _ _ #[.slice U p.in0.length V] _ _);exact Calls.quiet_of_same (QT _ p.in0 _ (r.in0.later (s.drewN _).below (s.drewN _).below.size) r.l4 K ah)) | ((with_reducible show Calls _ _ #[.slice W p.in1.length X] _ _);exact Calls.quiet_of_same (QT _ p.in1 _ (r.in1.later (s.drewN _).below (s.drewN _).below.size) r.l5 L ai))));rename Nat=>nq
 have M:=Z (s.drewN nq);clear b g h c i j k c7 l m n o q d e f s;generalize aR.drewN nq=ch at M ⊢;obtain ⟨⟨b,g,h,c,i⟩,⟨j,k,c7,l,m,n,o,q⟩,d,e,f⟩:=M.cells;simp only at b c d e f;obtain ⟨aA,Y⟩:∃aA,qK p.ops p.e0 p.e1=aA:=⟨_,rfl⟩;have bL:=Z Y;have bg:=Z (show Qr p.ops p.e0 p.e1=aA by rw [zeW,Y]);cases aA with
 |false=>
  have u:=Z (show z=false by rw [←P.out];unfold Y9;rw [Y];simp);clear Y;go_wp2_with (go_at_call 24;go_must (refine (zdH _ p.ops _ _ _ (r.ops.later M.below M.below.size) bc).mono ?_;unfold Yf;rw [bg.out];rintro C aB ⟨u2,rfl,aj⟩;have aa:=Z (M.later aj);clear aj));go_ret;exact ⟨by rw [u.out];rfl,aa.below⟩
 |true=>
  have ak:=zb2 _ _ _ Y;have F:=Z ak;have ci:p.ops.length≤16384:=by simp only [qK,Bool.and_eq_true,decide_eq_true_eq] at ak;exact ak.1.2
  obtain ⟨t,aS⟩:∃t,qw p.ops=t:=⟨_,rfl⟩;have ab:=Z aS;have bh:t.length=p.ops.length:=by rw [←aS,QP,if_pos ak]
  have bi:=Z bh;clear Y ak aS bh;go_upto_region 8 with (first | (go_at_call 24;go_must (refine (zdH _ p.ops _ _ _ (r.ops.later M.below M.below.size) bc).mono ?_;unfold Yf;rw [bg.out];rintro C aB ⟨u2,rfl,aj⟩;have aa:=Z (M.later aj);clear aj b g h c i j k c7 l m n o q d e f;obtain ⟨⟨b,g,h,c,i⟩,⟨j,k,c7,l,m,n,o,q⟩,d,e,f⟩:=aa.cells;simp only at b c d e f)) | (go_at_call 25;go_must (refine (zbJ _ p.ops _ F (r.ops.later aa.below aa.below.size)).mono ?_;unfold qY;rw [ab.out];rintro C cj ⟨aT,rfl,bj,bk⟩;have bl:=Z (aa.later bk);have bM:=Z bj;clear bj bk b g h c i j k c7 l m n o q d e f;obtain ⟨⟨b,g,h,c,i⟩,⟨j,k,c7,l,m,n,o,q⟩,d,e,f⟩:=bl.cells;simp only at b c d e f)));go_wp2_with fail;clear b g h c i j k c7 l m n o q d e f;go_loopg [6,56] p.ops.length (fun bN bO bP wr=>∃a:Nat,a≤p.ops.length∧bN=p.ops.length-a∧bP= .int .i64 a∧bO= .int .i64 (Ql (p.ops.take a):Nat)∧Hid (∀x,x+1<a→t.getD x 0≤t.getD (x+1) 0)∧Hid (CSt w p ⟨.slice aM p.ops.length aN,aK,aL,.slice U p.in0.length V,.slice W p.in1.length X⟩ wr)∧Hid (wr.ownsRow aB.heap.size 3 1 aT t.length (ints t)))
  case atStart=>exact ⟨0,Nat.zero_le _,rfl,rfl,rfl,Z (fun x aC=>absurd aC (Nat.not_lt_zero _)),bl,bM⟩
  case round=>
   obtain ⟨a,ck,cl,rfl,rfl,aD,A,G⟩:=hrel;have bm:=za2 (p.ops.take a);rw [List.length_take] at bm
   by_cases aU:a<p.ops.length
   ·obtain ⟨cm,cn,rfl,bQ,bn⟩:=bH.out (by omega)
    have aE:=fun (aR:World) (bR:Below w.heap.size w aR)=>y8 bn bR bQ rfl a aU
    have al:=Z (ZG p.ops a aU);have aV:=Z (zol (zQ F a aU));generalize p.ops[a]=D at aE al aV;have bo:=Z aE;clear aE bn;have co:(0:Int)≤(a:Int):=by omega
    have cp:(a:Int)<(p.ops.length:Int):=by omega
    go_upto_region 11 with fail
    by_cases af:a=0
    ·have bS:decide ((0:Int)<(a:Int))=false:=decide_eq_false (by omega)
     have bT:decide (0<a)=false:=decide_eq_false (by omega);have bU:=Z af;clear af;go_quiet (fail);rename Nat=>E
     have y:=Z (A.drewN E);have Q:=Z (show (wr.drewN E).ownsRow _ _ _ _ _ _ from G);have am:=Z (show ∀x,x+1<a+1→t.getD x 0≤t.getD (x+1) 0 from fun x aC=>by have:=bU.out;omega);clear A G aD;generalize wr.drewN E=aF at y Q ⊢;obtain ⟨bV,k1,k2,k3,k4,k5⟩:=bo.out aF y.below;obtain ⟨⟨b,g,h,c,i⟩,⟨j,k,c7,l,m,n,o,q⟩,d,e,f⟩:=y.cells;simp only at b c d e f
     by_cases an:D.kind<18
     ·have B:=Z (show ¬qI D=true by simp [qI];omega)
      have aW:decide ((18:Int)≤D.kind)=false:=decide_eq_false (by omega);clear an;go_wp2_with fail;go_roundg (p.ops.length-(a+1))
      case measure=>omega
      case rel=>exact ⟨a+1,by omega,rfl,by go_num,by rw [al.out,if_neg B.out];rfl,am,y,Q⟩
     ·have B:=Z (show qI D=true by have:=aV.out;simp [qI];omega)
      have aW:decide ((18:Int)≤D.kind)=true:=decide_eq_true (by omega);clear an;go_wp2_with fail;go_roundg (p.ops.length-(a+1))
      case measure=>omega
      case rel=>exact ⟨a+1,by omega,rfl,by go_num,by rw [al.out,if_pos B.out];go_num,am,y,Q⟩
    ·have bW:a<t.length:=by have:=bi.out;omega
     obtain ⟨cq,cr,rfl,cs,ct⟩:=G.form (by omega);have aX:=Q3 G a bW;have aY:=Q3 G (a-1) (by omega);have bS:decide ((0:Int)<(a:Int))=true:=decide_eq_true (by omega);have bT:decide (0<a)=true:=decide_eq_true (by omega);have cu:(0:Int)≤(a:Int)-1:=by omega
     have cv:(a:Int)-1<(t.length:Int):=by omega
     have cw:((a:Int)-1).toNat=a-1:=by omega
     have cx:(a:Int)<(t.length:Int):=by omega
     obtain ⟨aZ,a0⟩:∃a1,t.getD a 0=a1:=⟨_,rfl⟩;obtain ⟨a2,a3⟩:∃a1,t.getD (a-1) 0=a1:=⟨_,rfl⟩;rw [a0] at aX;rw [a3] at aY;have bp:=Z a0;have bq:=Z a3;clear a0 a3
     by_cases aG:aZ<a2
     ·have a4:decide (aZ<a2)=true:=decide_eq_true aG
      have u:=Z (show z=false by
       rw [←P.out];unfold Y9;have bX:QJ (qw p.ops)=false:=by
        rw [ab.out];refine Bool.eq_false_iff.2 fun bY=> ?_
        have:=(Yt t).1 bY (a-1) (by omega);rw [show a-1+1=a by omega,bp.out,bq.out] at this;omega
       rw [bX];simp)
      clear aG;go_quiet (fail);rename Nat=>E
      have y:=Z (A.drewN E);clear aX aY;generalize wr.drewN E=aF at y ⊢;go_wp2_with fail;go_ret;exact ⟨by rw [u.out];rfl,y.below⟩
     ·have a4:decide (aZ<a2)=false:=decide_eq_false aG
      have am:=Z (show ∀x,x+1<a+1→t.getD x 0≤t.getD (x+1) 0 from fun x aC=>by
       by_cases bZ:x+1<a
       ·exact aD x bZ
       ·obtain rfl:x=a-1:=by omega
        rw [show a-1+1=a by omega,bp.out,bq.out];omega)
      clear aG;go_quiet (fail);rename Nat=>E
      have y:=Z (A.drewN E);have Q:=Z (show (wr.drewN E).ownsRow _ _ _ _ _ _ from G);clear A G aD aX aY;generalize wr.drewN E=aF at y Q ⊢;obtain ⟨bV,k1,k2,k3,k4,k5⟩:=bo.out aF y.below;obtain ⟨⟨b,g,h,c,i⟩,⟨j,k,c7,l,m,n,o,q⟩,d,e,f⟩:=y.cells;simp only at b c d e f
      by_cases an:D.kind<18
      ·have B:=Z (show ¬qI D=true by simp [qI];omega)
       have aW:decide ((18:Int)≤D.kind)=false:=decide_eq_false (by omega);clear an;go_wp2_with fail;go_roundg (p.ops.length-(a+1))
       case measure=>omega
       case rel=>exact ⟨a+1,by omega,rfl,by go_num,by rw [al.out,if_neg B.out];rfl,am,y,Q⟩
      ·have B:=Z (show qI D=true by have:=aV.out;simp [qI];omega)
       have aW:decide ((18:Int)≤D.kind)=true:=decide_eq_true (by omega);clear an;go_wp2_with fail;go_roundg (p.ops.length-(a+1))
       case measure=>omega
       case rel=>exact ⟨a+1,by omega,rfl,by go_num,by rw [al.out,if_pos B.out];go_num,am,y,Q⟩
   ·obtain rfl:a=p.ops.length:=by omega
    rw [List.take_length] at bm ⊢;have br:=Z (show QJ (qw p.ops)=true by
     rw [ab.out];exact (Yt t).2 fun x aC=>aD.out x (by have:=bi.out;omega))
    have b0:=Z (zm6 F br);obtain ⟨N,ao⟩:∃N,zbH p.ops=N:=⟨_,rfl⟩;have bs:=Z (show zf2 p.ops t=N by have:=b0.out;rw [ab.out] at this;rw [this,ao]);obtain ⟨⟨b,g,h,c,i⟩,⟨j,k,c7,l,m,n,o,q⟩,d,e,f⟩:=A.cells;simp only at b c d e f
    by_cases aH:65536<N
    ·have a4:decide (65536<N)=true:=decide_eq_true aH
     have u:=Z (show z=false by rw [←P.out];unfold Y9;rw [ao,decide_eq_false (show ¬(N≤65536) by omega)];simp);clear aH ao;go_wp2_with (go_at_call 26;go_must (refine (zdI _ aT p.ops t aB.heap.size _ F ab (r.ops.later A.below A.below.size) G).mono ?_;rw [bs.out];unfold qM;rintro C b1 ⟨rfl,ap⟩;have R:=Z (A.later ap);clear ap b g h c i j k c7 l m n o q d e f;obtain ⟨⟨b,g,h,c,i⟩,⟨j,k,c7,l,m,n,o,q⟩,d,e,f⟩:=R.cells;simp only at b c d e f));go_ret;exact ⟨by rw [u.out];rfl,R.below⟩
    have a4:decide (65536<N)=false:=decide_eq_false aH;obtain ⟨b2,a5⟩:∃a6,(Qb p.ops).1=a6:=⟨_,rfl⟩;obtain ⟨b3,a7⟩:∃a6,(Qb p.ops).2=a6:=⟨_,rfl⟩;have b4:=Z a5;have b5:=Z a7;have bt:z=(decide (b2=p.slots)&&(b3==p.arena)&&Z8 (zy p.ops) p.need&&(aP==(Ql p.ops:Int))):=by
     rw [←P.out];unfold Y9;rw [decide_eq_true (show p.in0.length+p.in1.length≤8 by omega),ah.out,ai.out,B.out,bL.out,br.out,ao,decide_eq_true (show N≤65536 by omega),a5,a7,show (K==p.e0)=true by simpa using ay,show (L==p.e1)=true by simpa using az];simp
    have aI:=Z bt;clear aH ao a5 a7 bt;go_upto_region 19 with (first | (go_at_call 26;go_must (refine (zdI _ aT p.ops t aB.heap.size _ F ab (r.ops.later A.below A.below.size) G).mono ?_;rw [bs.out];unfold qM;rintro C b1 ⟨rfl,ap⟩;have R:=Z (A.later ap);clear ap b g h c i j k c7 l m n o q d e f;obtain ⟨⟨b,g,h,c,i⟩,⟨j,k,c7,l,m,n,o,q⟩,d,e,f⟩:=R.cells;simp only at b c d e f)) | (go_at_call 27;go_must (refine (zg6 _ p.ops _ F (r.ops.later R.below R.below.size)).mono ?_;rintro C cy ⟨u6,aq,b6,rfl,bu,bv,bw⟩;obtain ⟨bx,bz⟩:=zl0 F bu;rw [b4.out] at bx;rw [b5.out] at bz;subst bx;subst bz;have H:=Z (R.later bw);have bA:=Z bv;clear bw bv bu b g h c i j k c7 l m n o q d e f;obtain ⟨⟨b,g,h,c,i⟩,⟨j,k,c7,l,m,n,o,q⟩,d,e,f⟩:=H.cells;simp only at b c d e f)));obtain ⟨cz,cA,b7,aE,b8⟩:=qg bA;subst b7;have ac:=Z (Arr.of_owns bA);have ad:=Z (r.slots.later H.below H.below.size);clear b8;cases O:decide (aq=p.slots) with
    |false=>
     have ar:=Z O;have u:=Z (show z=false by rw [aI.out,O];simp);clear O
     as_aux_lemma=>
      obtain ⟨⟨b,g,h,c,i⟩,⟨j,k,c7,l,m,n,o,q⟩,d,e,f⟩:=H.cells;simp only at b c d e f;go_quiet ((go_at_call 11;exact Calls.quiet_of (YW _ _ aq p.slots _ _ ar (ac.drewS _) (ad.drewS _))));go_wp2_with fail;go_ret;exact ⟨by rw [u.out];rfl,qC H.below _⟩
    |true=>
     have ar:=Z O;cases bB:(b6==p.arena) with
     |false=>
      have u:=Z (show z=false by rw [aI.out,bB];simp);clear O
      as_aux_lemma=>
       obtain ⟨⟨b,g,h,c,i⟩,⟨j,k,c7,l,m,n,o,q⟩,d,e,f⟩:=H.cells;simp only at b c d e f;go_quiet ((go_at_call 11;exact Calls.quiet_of (YW _ _ aq p.slots _ _ ar (ac.drewS _) (ad.drewS _))));go_wp2_with fail;go_ret;exact ⟨by rw [u.out];rfl,qC H.below _⟩
     |true=>
      obtain ⟨aJ,au⟩:∃aJ,zy p.ops=aJ:=⟨_,rfl⟩;have bC:=Z au;have bD:=zha aJ p.need;cases ae:Z8 aJ p.need with
      |false=>
       rw [ae] at bD;have u:=Z (show z=false by rw [aI.out,au,ae];simp);clear O au ae
       as_aux_lemma=>
        first | (go_region_with (first | (go_at_call 11;go_must (refine (YW _ _ aq p.slots _ _ ar (by first | exact ac | exact Arr.drew ac) (by first | exact ad | exact Arr.drew ad)).mono ?_;rintro C b9 ⟨rfl,a8,av⟩;have I:=H.drew.drewN a8;rw [←av] at I;clear av;clear b g h c i j k c7 l m n o q d e f;obtain ⟨⟨b,g,h,c,i⟩,⟨j,k,c7,l,m,n,o,q⟩,d,e,f⟩:=I.cells;simp only at b c d e f;have S:=Z I;clear I)) | (go_at_call 28;go_must (refine (zdJ _ p.ops _ F (r.ops.later S.below S.below.size)).mono ?_;unfold qM;rw [bC.out];unfold MNeed.arr;rintro C ca ⟨rfl,aw⟩;have T:=S.later aw;clear aw;clear b g h c i j k c7 l m n o q d e f;obtain ⟨⟨b,g,h,c,i⟩,⟨j,k,c7,l,m,n,o,q⟩,d,e,f⟩:=T.cells;simp only at b c d e f;have ax:=Z T;clear T)))) | (fail "region")
        all_goals
         go_wp2_with fail;go_ret;exact ⟨by rw [u.out];rfl,ax.below⟩
      |true=>
       rw [ae] at bD;have u:=Z (show z=(aP==(Ql p.ops:Int)) by rw [aI.out,O,bB,au,ae];simp);clear O au ae
       as_aux_lemma=>
        first | (go_region_with (first | (go_at_call 11;go_must (refine (YW _ _ aq p.slots _ _ ar (by first | exact ac | exact Arr.drew ac) (by first | exact ad | exact Arr.drew ad)).mono ?_;rintro C b9 ⟨rfl,a8,av⟩;have I:=H.drew.drewN a8;rw [←av] at I;clear av;clear b g h c i j k c7 l m n o q d e f;obtain ⟨⟨b,g,h,c,i⟩,⟨j,k,c7,l,m,n,o,q⟩,d,e,f⟩:=I.cells;simp only at b c d e f;have S:=Z I;clear I)) | (go_at_call 28;go_must (refine (zdJ _ p.ops _ F (r.ops.later S.below S.below.size)).mono ?_;unfold qM;rw [bC.out];unfold MNeed.arr;rintro C ca ⟨rfl,aw⟩;have T:=S.later aw;clear aw;clear b g h c i j k c7 l m n o q d e f;obtain ⟨⟨b,g,h,c,i⟩,⟨j,k,c7,l,m,n,o,q⟩,d,e,f⟩:=T.cells;simp only at b c d e f;have ax:=Z T;clear T)) | (go_at_call 23;go_must (refine (QT _ p.shapes _ (r.shapes.later ax.below ax.below.size) r.l3 aP B).mono ?_;rintro C cB ⟨rfl,rfl⟩)))) | (fail "region")
        all_goals
         go_wp2_with fail;go_ret;exact ⟨by rw [u.out];rfl,ax.below⟩
end Go.Proofs.YtklofgfkaaoipaaGreatDoor

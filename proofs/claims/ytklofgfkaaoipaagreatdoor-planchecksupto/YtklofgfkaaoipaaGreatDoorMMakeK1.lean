/-
  THE CONTRACT of circ.Make at kind 1 and any of its forms.
-/
import Derived.Test.YtklofgfkaaoipaaGreatDoorMGate
import Derived.Test.YtklofgfkaaoipaaGreatDoorMHd
set_option maxHeartbeats 16000000
set_option maxRecDepth 100000
set_option linter.unusedSimpArgs false
set_option linter.unusedVariables false
namespace Go.Proofs.YtklofgfkaaoipaaGreatDoor
open Go.RowKit Go.Proofs.Tryz
theorem zpv (f:Nat)(aZ:f<2)(w:World):
  Calls prog 47 #[.int .i64 1,.int .u64 f] w (Ye w 1 f):=by
 obtain ⟨ao,R⟩:∃ao,Ye w 1 f=ao:=⟨_,rfl⟩;rw [R];have a0:=Z R;clear R;have x:f=0∨f=1:=by omega
 clear aZ;rcases x with x | x
 all_goals
  rw [x]
  try rw [show ((0:Nat):Int)=0 from rfl]
  try rw [show ((1:Nat):Int)=1 from rfl]
  have ap:=Z x;clear x
  as_aux_lemma=>
   go_enter func47,ntmps47;go_wp2_with fail;go_loopw [37] (fun t wr=>∃n:Nat,∃a:List Int×List Gate,n≤1∧t= .int .i64 n∧Hid (Zb 128 f n=a)∧zE (w.heap.size+1+1) (w.heap.size+1) wr 128 a.2∧wr.heap[w.heap.size]? =some (.cells #[.int .i64 0,.slice none 0 0,.slice none 0 0] 109 (0,0))∧
     wr.heap[w.heap.size+1+1]? =some (.cells (ints (ZT a.1)).toArray 186 (0,0))∧Below w.heap.size w wr) (fun t _=>2-(intOf t).toNat)
   case atStart=>
    have J:=znJ w (.cells #[.int .i64 0,.slice none 0 0,.slice none 0 0] 109) (.cells #[.int .i64 128,.slice none 0 0,.slice none 0 0] 183) (.cells Tryz.zeroCells186 186);refine ⟨0,_,by omega,rfl,rfl,⟨by omega,?_,_,J.2.1,World.ownsRow_nil _ _ _ _⟩,J.1,?_,J.2.2.2⟩
    ·simp
    ·show _=some (Obj.cells (ints (ZT [])).toArray _ _)
     rw [zde];exact J.2.2.1
   case round=>
    obtain ⟨n,a,_,rfl,C,q,g,e,h⟩:=hrel;have aq:a.1.length=64 * n:=by have:=(Zc 128 f n).1;rw [C.out] at this;exact this
    have ar:a.2.length≤70000:=by have:=(Zc 128 f n).2;rw [C.out] at this;omega
    have S:=h.size
    by_cases a1:n=0
    ·subst a1
     go_wp2_with fail;refine (QE _ _ _ (by omega) (by omega)).mono ?_;rintro r a2 ⟨rfl,o⟩;go_wp2_with fail;refine (QE _ _ _ (by omega) (by omega)).mono ?_;rintro r T ⟨rfl,u⟩;go_wp2_with (first | ((with_reducible show wpList _ _ _ (⟨_,Op.store _ (.tmp 10) _,_,_,_,_⟩::_) _ _);refine zbg (.tmp 10) (.tmp 43) (.tmp 11) (.tmp 48) rfl rfl rfl rfl rfl _ _ _ _ rfl (qt _ _) (qt _ _) rfl rfl rfl rfl ?_;intro au k1 k2 D) | ((with_reducible show wpList _ _ _ (⟨_,Op.load _ (.tmp 10),_,_,_,_⟩::_) _ _);refine wpList_load_row rfl 185 _ rfl T.heap.size rfl 185 _ _ _ k1 underlying185 rfl (qQ _ (qt _ _)) ?_) | ((with_reducible show wpList _ _ _ (⟨_,Op.load _ (.tmp 11),_,_,_,_⟩::_) _ _);refine wpList_load_row rfl 185 _ rfl (T.heap.size+1) rfl 185 _ _ _ k2 underlying185 rfl (qQ _ (qt _ _)) ?_));have av:=((q.below o).below u).below D;have K:=((o.trans (u.mono o.size)).trans (D.mono (Nat.le_trans o.size u.size)));have L:=(((h.trans (o.mono h.size)).trans (u.mono (Nat.le_trans h.size o.size))).trans (D.mono (Nat.le_trans (Nat.le_trans h.size o.size) u.size)))
     first
     |have k:∃i,qX 128 (qy 0 64) (qy 1 64) a.2 63=i:=⟨_,rfl⟩
      obtain ⟨i,k⟩:=k;have d:=zci _ _ 128 a.2 (qy 0 64) (qy 1 64) au (qt _ _) (qt _ _) av (by omega) (Nat.le_trans ar (by decide));have E:=(Yp 128 (qy 0 64) (qy 1 64) a.2 63).1;rw [k] at d E;have U:=Z k;clear k;refine d.mono ?_;rintro r a3 ⟨rfl,V,v⟩;have S:=h.size;have W:=v.keep ((K.block _ (lt_of_block e)).trans e) (by decide) (by omega);have X:=v.keep ((K.block _ (lt_of_block g)).trans g) (by decide) (by omega);have Y:=v.below (B:=w.heap.size) (by have:=L.size;omega) (by omega) (by omega);clear d k1 k2 o u D e g q;go_wp2_with ((with_reducible show wpList _ _ _ (⟨_,Op.store _ (.tmp 65) _,_,_,_,_⟩::_) _ _);refine QG (.tmp 65) (.tmp 64) rfl rfl (w.heap.size+1+1) 0 a.1 i.1 aq (by omega) E W rfl rfl ?_;intro a4 aa ab a5 ac ad);go_roundw
      case rel=>
       refine ⟨1,(a.1++i.1,i.2.2),by omega,rfl,za0 128 f 0 a C (by simp [ap.out]) i U,ad _ _ _ _ V,(ab _ (by omega)).trans X,aa,ac _ _ (by omega) (L.trans Y)⟩
      case measure=>simp [intOf]
     |have k:∃i,QD 128 (qy 0 64) (qy 1 64) a.2 64=i:=⟨_,rfl⟩
      obtain ⟨i,k⟩:=k;have d:=zcT _ _ 128 a.2 (qy 0 64) (qy 1 64) au (qt _ _) (qt _ _) av (by omega) (Nat.le_trans ar (by decide));have E:=(YB 128 (qy 0 64) (qy 1 64) a.2 64).1;rw [k] at d E;have U:=Z k;clear k;refine d.mono ?_;rintro r a3 ⟨rfl,V,v⟩;have S:=h.size;have W:=v.keep ((K.block _ (lt_of_block e)).trans e) (by decide) (by omega);have X:=v.keep ((K.block _ (lt_of_block g)).trans g) (by decide) (by omega);have Y:=v.below (B:=w.heap.size) (by have:=L.size;omega) (by omega) (by omega);clear d k1 k2 o u D e g q;go_wp2_with ((with_reducible show wpList _ _ _ (⟨_,Op.store _ (.tmp 59) _,_,_,_,_⟩::_) _ _);refine QG (.tmp 59) (.tmp 58) rfl rfl (w.heap.size+1+1) 0 a.1 i.1 aq (by omega) E W rfl rfl ?_;intro a4 aa ab a5 ac ad);go_roundw
      case rel=>
       refine ⟨1,(a.1++i.1,i.2),by omega,rfl,za1 128 f 0 a C (by simp [ap.out]) i U,ad _ _ _ _ V,(ab _ (by omega)).trans X,aa,ac _ _ (by omega) (L.trans Y)⟩
      case measure=>simp [intOf]
    obtain rfl:n=1:=by omega
    have a6:=lt_of_block e;have aw:zE (w.heap.size+1+1) (w.heap.size+1) (wr.alloc (.cells (ints (pad [])).toArray 185)) 128 a.2:=q.below ((Below.refl _ _).alloc (Nat.le_refl _) _);have ax:=(heap_alloc_old wr (.cells (ints (pad [])).toArray 185) (lt_of_block e)).trans e;have ay:=(heap_alloc_old wr (.cells (ints (pad [])).toArray 185) (lt_of_block g)).trans g;have az:=heap_alloc_new wr (.cells (ints (pad [])).toArray 185);have aA:=h.alloc S (.cells (ints (pad [])).toArray 185);have d:=Qh _ _ 128 a.2 1 0 0 _ aw (by omega) (by omega);clear e g q h;go_wp2_with fail;refine d.mono ?_;have a7:=Qi 128 1 0 0 a.2;have F:∃s,gt 128 1 0 0 a.2=s:=⟨_,rfl⟩;obtain ⟨s,F⟩:=F;rw [F] at a7 ⊢;rintro r a2 ⟨rfl,aB,y⟩;have ae:=y.keep ax (by decide) (by omega);have aC:=y.keep ay (by decide) (by omega);have aD:=y.row az (by omega);have a8:=aA.trans (y.below (B:=w.heap.size) (by simp;omega) (by omega) (by omega));have aE:=y.size;simp only [World.size_alloc] at aE;have a9:=zfW ae (k:=63) (by omega);have ba:=Z F;have aF:=Z ae;have aG:=Z aC;have aH:=Z aD;clear F ax ay az aA y d aw ae aC aD;go_wp2_with fail;have d:=Qh _ _ 128 s.2 3 a.1[63] 0 _ aB (by omega) (by omega);refine d.mono ?_;have bb:=Qi 128 3 a.1[63] 0 s.2;have G:∃l,gt 128 3 a.1[63] 0 s.2=l:=⟨_,rfl⟩;obtain ⟨l,G⟩:=G;rw [G] at bb ⊢;rintro r T ⟨rfl,bc,H⟩;have aI:=H.keep aF (by decide) (by omega);have aJ:=H.keep aG (by decide) (by omega);have aK:=H.row aH (by omega);have bd:=a8.trans (H.below (B:=w.heap.size) (by omega) (by omega) (by omega));have bn:=H.size;have be:=Z G;have M:=Z (And.intro aI (And.intro aJ aK));clear G aF aG aH aI aJ aK a9 d aB;go_wp2_with fail;generalize af:wr.heap.size=j at aE a6 M ⊢;clear af;go_loopw [77] (fun t I=>∃c:Nat,∃m:List Int×List Gate,c≤63∧t= .int .i64 c∧Hid (YX 128 l.1 a.1 l.2 c=m)∧zE (w.heap.size+1+1) (w.heap.size+1) I 128 m.2∧I.heap[w.heap.size]? =some (.cells #[.int .i64 0,.slice none 0 0,.slice none 0 0] 109 (0,0))∧
     I.heap[w.heap.size+1+1]? =some (.cells (ints (ZT a.1)).toArray 186 (0,0))∧I.heap[j]? =some (.cells (ints (pad m.1)).toArray 185 (0,0))∧Below w.heap.size w I) (fun t _=>63-(intOf t).toNat)
    case atStart=>exact ⟨0,_,by omega,rfl,rfl,bc,M.2.1,M.1,M.2.2,bd⟩
    case round=>
     obtain ⟨c,m,aL,rfl,ag,q,g,e,z,h⟩:=hrel;have ah:c≤63→c<a.1.length:=by omega
     have A:m.1.length=c∧m.2.length=l.2.length+c:=by have:=zeY 128 l.1 a.1 l.2 c;rw [ag.out] at this;exact this
     have bo:=h.size
     by_cases bp:c<63
     ·have bq:=zfW e (k:=c) (ah aL)
      have br:m.2.length≤90000:=by omega
      have aM:=Z A;clear A;have ai:=Z (And.intro e (And.intro g z));clear e g z;go_wp2_with fail;have d:=Qh _ _ 128 m.2 2 l.1 (a.1[c]'(ah aL)) _ q (by omega) (by omega);refine d.mono ?_;rintro r bf ⟨rfl,bg,N⟩;have aN:=N.keep ai.1 (by decide) (by omega);have aO:=N.keep ai.2.1 (by decide) (by omega);have O:=N.row ai.2.2 (by omega);have bh:=h.trans (N.below (B:=w.heap.size) (by omega) (by omega) (by omega));have bi:=QQ O aM.1 (by omega);have bj:=frozen_of_row bf j c _ _ O;have P:=Z (And.intro aN (And.intro aO O));clear aN aO O d;go_wp2_with fail;go_roundw
      case rel=>
       refine ⟨c+1,_,by omega,by go_num,zim 128 l.1 a.1 l.2 c (ah (by omega)) m ag,bg.setCell P.2.2 _ _,?_,?_,ZB P.2.2 c aM.1 (by omega) _,bh.setCell (by simp;omega) _⟩
       ·rw [qe (by omega)];exact P.2.1
       ·rw [qe (by omega)];exact P.1
      case measure=>simp [intOf];omega
     ·obtain rfl:c=63:=by omega
      obtain ⟨_,_,aj,ak,al⟩:=q;have bi:=QQ z A.1 (by omega);have bj:=frozen_of_row wr j 63 _ _ z;have bk:=zeS al;have aP:=A.2;have aQ:=A.1;have Q:∀b,(wr.setCell ⟨j,63,none⟩ b).heap[w.heap.size+1]? =some (.cells #[.int .i64 128,aj,.slice none 0 0] 183 (0,0)):=fun b=>(qe (by omega) b).trans ak
      have aR:∀b,(wr.setCell ⟨j,63,none⟩ b).heap[w.heap.size]? =some (.cells #[.int .i64 0,.slice none 0 0,.slice none 0 0] 109 (0,0)):=fun b=>(qe (by omega) b).trans g
      have bs:∀b,(wr.setCell ⟨j,63,none⟩ b).cell? ⟨w.heap.size+1,2,none⟩=some (.slice none 0 0):=fun b=>(cell_of_row _ _ _ _ _ _ (Q b)).trans rfl
      have bt:∀b,(wr.setCell ⟨j,63,none⟩ b).frozen? ⟨w.heap.size+1,2,none⟩=false:=fun b=>frozen_of_row _ _ _ _ _ (Q b)
      have aS:∀b p,((wr.setCell ⟨j,63,none⟩ b).setCell ⟨w.heap.size+1,2,none⟩ p).heap[w.heap.size+1]? =some (.cells #[.int .i64 128,aj,p] 183 (0,0)):=fun b p=>by have:=heap_setCell (j:=2) (Q b) p;simpa using this
      have aT:∀b p,((wr.setCell ⟨j,63,none⟩ b).setCell ⟨w.heap.size+1,2,none⟩ p).heap[w.heap.size]? =some (.cells #[.int .i64 0,.slice none 0 0,.slice none 0 0] 109 (0,0)):=fun b p=>(qe (by omega) p).trans (aR b)
      have am:=Z (And.intro aS aT);have an:=Z (And.intro z (And.intro ak al));have aU:=Z (And.intro aQ aP);clear Q aR aS aT A aQ aP e ak al z g;go_wp2_with (first | ((with_reducible show wpList _ _ _ (⟨_,Op.load _ (.tmp 129),_,_,_,_⟩::_) _ _);refine wpList_load_row rfl 109 _ rfl (w.heap.size+1) rfl 183 _ _ _ (am.1 _ _) underlying109 rfl yn ?_) | ((with_reducible show wpList _ _ _ (⟨_,Op.store _ (.tmp 4) (.tmp 130),_,_,_,_⟩::_) _ _);refine wpList_store_row rfl 109 _ _ rfl w.heap.size _ rfl rfl 109 _ (am.2 _ _) yn rfl (all_oneCell_toArray (by intro p aV;simp at aV;rcases aV with rfl | rfl | rfl<;>first | rfl | exact bk)) ?_));refine bodyPost_ret (ql rfl _ _ w.heap.size 109 _ _ _ rfl (setRow_heap _ _ _ _ _ _ (am.2 _ _)) underlying109 rfl yn) rfl ?_;rw [←a0.out];unfold Ye;rw [zjk f a C.out (by omega) s l ba.out be.out m ag.out];have aW:(m.1++[s.1]).length=64:=by simp [aU.1]
      have aX:=ZB an.1 63 aU.1 (by omega) s.1;rw [zai _ aW] at aX;have af:j≠w.heap.size+1:=by omega
      refine ⟨aj,_,rfl,?_,zeR (br:=j) (t:=185) (fr:=(0,0)) ?_ aW,below_setRow ((h.setCell (by simp;omega) _).setCell (by simp) _) (Nat.le_refl _) _⟩
      ·refine qk (zdd an.2.2 (fun bl _ aY _=> ?_)) (by omega)
       have bm:bl≠j:=by intro r;subst r;rw [an.1] at aY;simp at aY
       rw [setRow_other _ _ _ _ (by omega),qe (by omega),qe bm]
      ·rw [setRow_other _ _ _ _ (by omega),qe af];exact aX
end Go.Proofs.YtklofgfkaaoipaaGreatDoor

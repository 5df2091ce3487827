/-
  THE CONTRACT of circ.Make at kind 2 and any of its forms.
-/
import Derived.Test.YtklofgfkaaoipaaGreatDoorMGate
import Derived.Test.YtklofgfkaaoipaaGreatDoorMHd
set_option maxHeartbeats 16000000
set_option maxRecDepth 100000
set_option linter.unusedSimpArgs false
set_option linter.unusedVariables false
namespace Go.Proofs.YtklofgfkaaoipaaGreatDoor
open Go.RowKit Go.Proofs.Tryz
theorem zpw (f:Nat)(aP:f<4)(w:World):
  Calls prog 47 #[.int .i64 2,.int .u64 f] w (Ye w 2 f):=by
 obtain ⟨ar,af⟩:∃ar,Ye w 2 f=ar:=⟨_,rfl⟩;rw [af];have aQ:=Z af;clear af;have z:f=0∨f=1∨f=2∨f=3:=by omega
 clear aP;rcases z with z | z | z | z
 all_goals
  rw [z]
  try rw [show ((0:Nat):Int)=0 from rfl]
  try rw [show ((1:Nat):Int)=1 from rfl]
  try rw [show ((2:Nat):Int)=2 from rfl]
  try rw [show ((3:Nat):Int)=3 from rfl]
  have X:=Z z;clear z
  as_aux_lemma=>
   go_enter func47,ntmps47;go_wp2_with fail;go_loopw [37] (fun D wr=>∃t:Nat,∃a:List Int×List Gate,t≤2∧D= .int .i64 t∧Hid (Zb 256 f t=a)∧zE (w.heap.size+1+1) (w.heap.size+1) wr 256 a.2∧wr.heap[w.heap.size]? =some (.cells #[.int .i64 0,.slice none 0 0,.slice none 0 0] 109 (0,0))∧
     wr.heap[w.heap.size+1+1]? =some (.cells (ints (ZT a.1)).toArray 186 (0,0))∧Below w.heap.size w wr) (fun D _=>3-(intOf D).toNat)
   case atStart=>
    have Y:=znJ w (.cells #[.int .i64 0,.slice none 0 0,.slice none 0 0] 109) (.cells #[.int .i64 256,.slice none 0 0,.slice none 0 0] 183) (.cells Tryz.zeroCells186 186);refine ⟨0,_,by omega,rfl,rfl,⟨by omega,?_,_,Y.2.1,World.ownsRow_nil _ _ _ _⟩,Y.1,?_,Y.2.2.2⟩
    ·simp
    ·show _=some (Obj.cells (ints (ZT [])).toArray _ _)
     rw [zde];exact Y.2.2.1
   case round=>
    obtain ⟨t,a,_,rfl,E,n,c,g,i⟩:=hrel;have aa:a.1.length=64 * t:=by have:=(Zc 256 f t).1;rw [E.out] at this;exact this
    have ab:a.2.length≤70000:=by have:=(Zc 256 f t).2;rw [E.out] at this;omega
    have P:=i.size
    by_cases aR:t=0
    ·subst aR
     go_wp2_with fail;refine (QE _ _ _ (by omega) (by omega)).mono ?_;rintro q au ⟨rfl,j⟩;go_wp2_with fail;refine (QE _ _ _ (by omega) (by omega)).mono ?_;rintro q Q ⟨rfl,k⟩;go_wp2_with (first | ((with_reducible show wpList _ _ _ (⟨_,Op.store _ (.tmp 10) _,_,_,_,_⟩::_) _ _);refine zbg (.tmp 10) (.tmp 43) (.tmp 11) (.tmp 48) rfl rfl rfl rfl rfl _ _ _ _ rfl (qt _ _) (qt _ _) rfl rfl rfl rfl ?_;intro R k1 k2 r) | ((with_reducible show wpList _ _ _ (⟨_,Op.load _ (.tmp 10),_,_,_,_⟩::_) _ _);refine wpList_load_row rfl 185 _ rfl Q.heap.size rfl 185 _ _ _ k1 underlying185 rfl (qQ _ (qt _ _)) ?_) | ((with_reducible show wpList _ _ _ (⟨_,Op.load _ (.tmp 11),_,_,_,_⟩::_) _ _);refine wpList_load_row rfl 185 _ rfl (Q.heap.size+1) rfl 185 _ _ _ k2 underlying185 rfl (qQ _ (qt _ _)) ?_));have S:=((n.below j).below k).below r;have u:=((j.trans (k.mono j.size)).trans (r.mono (Nat.le_trans j.size k.size)));have v:=(((i.trans (j.mono i.size)).trans (k.mono (Nat.le_trans i.size j.size))).trans (r.mono (Nat.le_trans (Nat.le_trans i.size j.size) k.size)))
     first
     |have d:∃b,qX 256 (qy 0 64) (qy 1 64) a.2 63=b:=⟨_,rfl⟩
      obtain ⟨b,d⟩:=d;have h:=zci _ _ 256 a.2 (qy 0 64) (qy 1 64) R (qt _ _) (qt _ _) S (by omega) (Nat.le_trans ab (by decide));have s:=(Yp 256 (qy 0 64) (qy 1 64) a.2 63).1;rw [d] at h s;have F:=Z d;clear d;refine h.mono ?_;rintro q ag ⟨rfl,G,l⟩;have P:=i.size;have H:=l.keep ((u.block _ (lt_of_block g)).trans g) (by decide) (by omega);have I:=l.keep ((u.block _ (lt_of_block c)).trans c) (by decide) (by omega);have J:=l.below (B:=w.heap.size) (by have:=v.size;omega) (by omega) (by omega);clear h k1 k2 j k r g c n;go_wp2_with ((with_reducible show wpList _ _ _ (⟨_,Op.store _ (.tmp 65) _,_,_,_,_⟩::_) _ _);refine QG (.tmp 65) (.tmp 64) rfl rfl (w.heap.size+1+1) 0 a.1 b.1 aa (by omega) s H rfl rfl ?_;intro ah K L ai M N);go_roundw
      case rel=>
       refine ⟨1,(a.1++b.1,b.2.2),by omega,rfl,za0 256 f 0 a E (by simp [X.out]) b F,N _ _ _ _ G,(L _ (by omega)).trans I,K,M _ _ (by omega) (v.trans J)⟩
      case measure=>simp [intOf]
     |have d:∃b,QD 256 (qy 0 64) (qy 1 64) a.2 64=b:=⟨_,rfl⟩
      obtain ⟨b,d⟩:=d;have h:=zcT _ _ 256 a.2 (qy 0 64) (qy 1 64) R (qt _ _) (qt _ _) S (by omega) (Nat.le_trans ab (by decide));have s:=(YB 256 (qy 0 64) (qy 1 64) a.2 64).1;rw [d] at h s;have F:=Z d;clear d;refine h.mono ?_;rintro q ag ⟨rfl,G,l⟩;have P:=i.size;have H:=l.keep ((u.block _ (lt_of_block g)).trans g) (by decide) (by omega);have I:=l.keep ((u.block _ (lt_of_block c)).trans c) (by decide) (by omega);have J:=l.below (B:=w.heap.size) (by have:=v.size;omega) (by omega) (by omega);clear h k1 k2 j k r g c n;go_wp2_with ((with_reducible show wpList _ _ _ (⟨_,Op.store _ (.tmp 59) _,_,_,_,_⟩::_) _ _);refine QG (.tmp 59) (.tmp 58) rfl rfl (w.heap.size+1+1) 0 a.1 b.1 aa (by omega) s H rfl rfl ?_;intro ah K L ai M N);go_roundw
      case rel=>
       refine ⟨1,(a.1++b.1,b.2),by omega,rfl,za1 256 f 0 a E (by simp [X.out]) b F,N _ _ _ _ G,(L _ (by omega)).trans I,K,M _ _ (by omega) (v.trans J)⟩
      case measure=>simp [intOf]
    by_cases aS:t=1
    ·subst aS
     go_wp2_with fail;refine (QE _ _ _ (by omega) (by omega)).mono ?_;rintro q au ⟨rfl,j⟩;go_wp2_with fail;refine (QE _ _ _ (by omega) (by omega)).mono ?_;rintro q Q ⟨rfl,k⟩;go_wp2_with (first | ((with_reducible show wpList _ _ _ (⟨_,Op.store _ (.tmp 10) _,_,_,_,_⟩::_) _ _);refine zbg (.tmp 10) (.tmp 43) (.tmp 11) (.tmp 48) rfl rfl rfl rfl rfl _ _ _ _ rfl (qt _ _) (qt _ _) rfl rfl rfl rfl ?_;intro R k1 k2 r) | ((with_reducible show wpList _ _ _ (⟨_,Op.load _ (.tmp 10),_,_,_,_⟩::_) _ _);refine wpList_load_row rfl 185 _ rfl Q.heap.size rfl 185 _ _ _ k1 underlying185 rfl (qQ _ (qt _ _)) ?_) | ((with_reducible show wpList _ _ _ (⟨_,Op.load _ (.tmp 11),_,_,_,_⟩::_) _ _);refine wpList_load_row rfl 185 _ rfl (Q.heap.size+1) rfl 185 _ _ _ k2 underlying185 rfl (qQ _ (qt _ _)) ?_));have S:=((n.below j).below k).below r;have u:=((j.trans (k.mono j.size)).trans (r.mono (Nat.le_trans j.size k.size)));have v:=(((i.trans (j.mono i.size)).trans (k.mono (Nat.le_trans i.size j.size))).trans (r.mono (Nat.le_trans (Nat.le_trans i.size j.size) k.size)))
     first
     |have d:∃b,qX 256 (qy 2 64) (qy 3 64) a.2 63=b:=⟨_,rfl⟩
      obtain ⟨b,d⟩:=d;have h:=zci _ _ 256 a.2 (qy 2 64) (qy 3 64) R (qt _ _) (qt _ _) S (by omega) (Nat.le_trans ab (by decide));have s:=(Yp 256 (qy 2 64) (qy 3 64) a.2 63).1;rw [d] at h s;have F:=Z d;clear d;refine h.mono ?_;rintro q ag ⟨rfl,G,l⟩;have P:=i.size;have H:=l.keep ((u.block _ (lt_of_block g)).trans g) (by decide) (by omega);have I:=l.keep ((u.block _ (lt_of_block c)).trans c) (by decide) (by omega);have J:=l.below (B:=w.heap.size) (by have:=v.size;omega) (by omega) (by omega);clear h k1 k2 j k r g c n;go_wp2_with ((with_reducible show wpList _ _ _ (⟨_,Op.store _ (.tmp 65) _,_,_,_,_⟩::_) _ _);refine QG (.tmp 65) (.tmp 64) rfl rfl (w.heap.size+1+1) 1 a.1 b.1 aa (by omega) s H rfl rfl ?_;intro ah K L ai M N);go_roundw
      case rel=>
       refine ⟨2,(a.1++b.1,b.2.2),by omega,rfl,za0 256 f 1 a E (by simp [X.out]) b F,N _ _ _ _ G,(L _ (by omega)).trans I,K,M _ _ (by omega) (v.trans J)⟩
      case measure=>simp [intOf]
     |have d:∃b,QD 256 (qy 2 64) (qy 3 64) a.2 64=b:=⟨_,rfl⟩
      obtain ⟨b,d⟩:=d;have h:=zcT _ _ 256 a.2 (qy 2 64) (qy 3 64) R (qt _ _) (qt _ _) S (by omega) (Nat.le_trans ab (by decide));have s:=(YB 256 (qy 2 64) (qy 3 64) a.2 64).1;rw [d] at h s;have F:=Z d;clear d;refine h.mono ?_;rintro q ag ⟨rfl,G,l⟩;have P:=i.size;have H:=l.keep ((u.block _ (lt_of_block g)).trans g) (by decide) (by omega);have I:=l.keep ((u.block _ (lt_of_block c)).trans c) (by decide) (by omega);have J:=l.below (B:=w.heap.size) (by have:=v.size;omega) (by omega) (by omega);clear h k1 k2 j k r g c n;go_wp2_with ((with_reducible show wpList _ _ _ (⟨_,Op.store _ (.tmp 59) _,_,_,_,_⟩::_) _ _);refine QG (.tmp 59) (.tmp 58) rfl rfl (w.heap.size+1+1) 1 a.1 b.1 aa (by omega) s H rfl rfl ?_;intro ah K L ai M N);go_roundw
      case rel=>
       refine ⟨2,(a.1++b.1,b.2),by omega,rfl,za1 256 f 1 a E (by simp [X.out]) b F,N _ _ _ _ G,(L _ (by omega)).trans I,K,M _ _ (by omega) (v.trans J)⟩
      case measure=>simp [intOf]
    obtain rfl:t=2:=by omega
    have aT:=lt_of_block g;have av:zE (w.heap.size+1+1) (w.heap.size+1) (wr.alloc (.cells (ints (pad [])).toArray 185)) 256 a.2:=n.below ((Below.refl _ _).alloc (Nat.le_refl _) _);have aw:=(heap_alloc_old wr (.cells (ints (pad [])).toArray 185) (lt_of_block g)).trans g;have ax:=(heap_alloc_old wr (.cells (ints (pad [])).toArray 185) (lt_of_block c)).trans c;have ay:=heap_alloc_new wr (.cells (ints (pad [])).toArray 185);have az:=i.alloc P (.cells (ints (pad [])).toArray 185);have h:=Qh _ _ 256 a.2 1 0 0 _ av (by omega) (by omega);clear g c n i;go_wp2_with fail;refine h.mono ?_;have aU:=Qi 256 1 0 0 a.2;have T:∃o,gt 256 1 0 0 a.2=o:=⟨_,rfl⟩;obtain ⟨o,T⟩:=T;rw [T] at aU ⊢;rintro q au ⟨rfl,aV,O⟩;have aj:=O.keep aw (by decide) (by omega);have aA:=O.keep ax (by decide) (by omega);have aB:=O.row ay (by omega);have aW:=az.trans (O.below (B:=w.heap.size) (by simp;omega) (by omega) (by omega));have aC:=O.size;simp only [World.size_alloc] at aC;have aX:o.2.length≤80000:=by omega
    have aY:=Z T;have aZ:=YU aj (by omega);have ac:=Z (And.intro aj (And.intro aA aB));clear T aw ax ay az O h av aj aA aB aZ;go_wp2_with fail;generalize ak:wr.heap.size=m at aC aT ac ⊢;clear ak;go_loopw [94] (fun D U=>∃x:Nat,x≤64∧D= .int .i64 x∧zE (w.heap.size+1+1) (w.heap.size+1) U 256 o.2∧U.heap[w.heap.size]? =some (.cells #[.int .i64 0,.slice none 0 0,.slice none 0 0] 109 (0,0))∧
     U.heap[w.heap.size+1+1]? =some (.cells (ints (ZT a.1)).toArray 186 (0,0))∧U.heap[m]? =some (.cells (ints (pad (List.replicate x o.1))).toArray 185 (0,0))∧Below w.heap.size w U) (fun D _=>64-(intOf D).toNat)
    case atStart=>exact ⟨0,by omega,rfl,aV,ac.2.1,ac.1,ac.2.2,aW⟩
    case round=>
     obtain ⟨x,_,rfl,n,c,g,p,i⟩:=hrel;have bb:=i.size
     by_cases aD:x<64
     ·have a0:=QQ p (List.length_replicate ..) aD
      have a1:=frozen_of_row wr m x _ _ p;have A:=Z (And.intro g (And.intro c p));clear g c p;go_wp2_with fail;go_roundw
      case rel=>
       have V:=ZB A.2.2 x (List.length_replicate ..) aD o.1;rw [←List.replicate_succ'] at V;refine ⟨x+1,by omega,by go_num,n.setCell A.2.2 _ _,?_,?_,V,i.setCell (by simp;omega) _⟩
       ·rw [qe (by omega)];exact A.2.1
       ·rw [qe (by omega)];exact A.1
      case measure=>simp [intOf];omega
     ·obtain rfl:x=64:=by omega
      rw [zai _ (List.length_replicate ..)] at p;have aE:=YU g (by omega);have aF:=Z aE;have A:=Z (And.intro g (And.intro c p));have aG:(a.1.take 64).length=64:=by simp;omega
      have aH:(a.1.drop 64).length=64:=by simp;omega
      have aI:=Z aG;have aJ:=Z aH;clear g c p aE aG aH;go_wp2_with (first | ((with_reducible show wpList _ _ _ (⟨_,Op.load _ (.tmp 102),_,_,_,_⟩::_) _ _);refine wpList_load_mid rfl 185 _ rfl (w.heap.size+1+1) 0 rfl _ _ aF.1 underlying185 rfl (zbn _ aI) ?_) | ((with_reducible show wpList _ _ _ (⟨_,Op.load _ (.tmp 104),_,_,_,_⟩::_) _ _);refine wpList_load_mid rfl 185 _ rfl (w.heap.size+1+1) 64 rfl _ _ aF.2 underlying185 rfl (zbn _ aJ) ?_));have h:=zhO _ _ 256 o.2 (a.1.take 64) (a.1.drop 64) _ aI aJ n (by omega) aX;have a2:=zda 256 (a.1.take 64) (a.1.drop 64) o.2;obtain ⟨W,al⟩:∃W,ZY 256 (a.1.take 64) (a.1.drop 64) o.2=W:=⟨_,rfl⟩;rw [al] at h a2;have a3:=Z al;clear al;refine h.mono ?_;rintro q C ⟨rfl,a4,ad⟩;have a5:=ad.keep A.1 (by decide) (by omega);have c:=ad.keep A.2.1 (by decide) (by omega);have p:=ad.row A.2.2 (by omega);have a6:=i.trans (ad.below (B:=w.heap.size) (by omega) (by omega) (by omega));obtain ⟨_,_,am,an,ao⟩:=a4;have a0:C.cell? ⟨m,0,none⟩=some (.int .i64 o.1):=qH p (k:=0) (by simp);have a1:=frozen_of_row C m 0 _ _ p;clear h a5 n;have a7:=zeS ao;have ae:∀e,(C.setCell ⟨m,0,none⟩ e).heap[w.heap.size+1]? =some (.cells #[.int .i64 256,am,.slice none 0 0] 183 (0,0)):=fun e=>(qe (by omega) e).trans an
      have aK:∀e,(C.setCell ⟨m,0,none⟩ e).heap[w.heap.size]? =some (.cells #[.int .i64 0,.slice none 0 0,.slice none 0 0] 109 (0,0)):=fun e=>(qe (by omega) e).trans c
      have bc:∀e,(C.setCell ⟨m,0,none⟩ e).cell? ⟨w.heap.size+1,2,none⟩=some (.slice none 0 0):=fun e=>(cell_of_row _ _ _ _ _ _ (ae e)).trans rfl
      have bd:∀e,(C.setCell ⟨m,0,none⟩ e).frozen? ⟨w.heap.size+1,2,none⟩=false:=fun e=>frozen_of_row _ _ _ _ _ (ae e)
      have aL:∀e y,((C.setCell ⟨m,0,none⟩ e).setCell ⟨w.heap.size+1,2,none⟩ y).heap[w.heap.size+1]? =some (.cells #[.int .i64 256,am,y] 183 (0,0)):=fun e y=>by have:=heap_setCell (j:=2) (ae e) y;simpa using this
      have aM:∀e y,((C.setCell ⟨m,0,none⟩ e).setCell ⟨w.heap.size+1,2,none⟩ y).heap[w.heap.size]? =some (.cells #[.int .i64 0,.slice none 0 0,.slice none 0 0] 109 (0,0)):=fun e y=>(qe (by omega) y).trans (aK e)
      have ap:=Z (And.intro aL aM);have aq:=Z (And.intro p (And.intro an ao));clear ae aK aL aM an ao p c;go_wp2_with (first | ((with_reducible show wpList _ _ _ (⟨_,Op.load _ (.tmp 129),_,_,_,_⟩::_) _ _);refine wpList_load_row rfl 109 _ rfl (w.heap.size+1) rfl 183 _ _ _ (ap.1 _ _) underlying109 rfl yn ?_) | ((with_reducible show wpList _ _ _ (⟨_,Op.store _ (.tmp 4) (.tmp 130),_,_,_,_⟩::_) _ _);refine wpList_store_row rfl 109 _ _ rfl w.heap.size _ rfl rfl 109 _ (ap.2 _ _) yn rfl (all_oneCell_toArray (by intro y aN;simp at aN;rcases aN with rfl | rfl | rfl<;>first | rfl | exact a7)) ?_));refine bodyPost_ret (ql rfl _ _ w.heap.size 109 _ _ _ rfl (setRow_heap _ _ _ _ _ _ (ap.2 _ _)) underlying109 rfl yn) rfl ?_;rw [←aQ.out];unfold Ye;rw [zjj f a E.out o W aY.out a3.out];have a8:(W.1::List.replicate 63 o.1).length=64:=by simp
      have V:=heap_setCell (j:=0) aq.1 (.int .i64 W.1);rw [zlU] at V;have ak:m≠w.heap.size+1:=by omega
      refine ⟨am,_,rfl,?_,zeR (br:=m) (t:=185) (fr:=(0,0)) ?_ a8,below_setRow ((a6.setCell (by simp;omega) _).setCell (by simp) _) (Nat.le_refl _) _⟩
      ·refine qk (zdd aq.2.2 (fun a9 _ aO _=> ?_)) (by omega)
       have ba:a9≠m:=by intro q;subst q;rw [aq.1] at aO;simp at aO
       rw [setRow_other _ _ _ _ (by omega),qe (by omega),qe ba]
      ·rw [setRow_other _ _ _ _ (by omega),qe ak];exact V
end Go.Proofs.YtklofgfkaaoipaaGreatDoor

/-
  THE CONTRACT of circ.Make at kind 3 and any of its forms.
-/
import Derived.Test.YtklofgfkaaoipaaGreatDoorMGate
import Derived.Test.YtklofgfkaaoipaaGreatDoorMHd
set_option maxHeartbeats 16000000
set_option maxRecDepth 100000
set_option linter.unusedSimpArgs false
set_option linter.unusedVariables false
namespace Go.Proofs.YtklofgfkaaoipaaGreatDoor
open Go.RowKit Go.Proofs.Tryz
theorem zpx (f:Nat)(a2:f<4)(w:World):
  Calls prog 47 #[.int .i64 3,.int .u64 f] w (Ye w 3 f):=by
 obtain ⟨aH,an⟩:∃aH,Ye w 3 f=aH:=⟨_,rfl⟩;rw [an];have a3:=Z an;clear an;have A:f=0∨f=1∨f=2∨f=3:=by omega
 clear a2;rcases A with A | A | A | A
 all_goals
  rw [A]
  try rw [show ((0:Nat):Int)=0 from rfl]
  try rw [show ((1:Nat):Int)=1 from rfl]
  try rw [show ((2:Nat):Int)=2 from rfl]
  try rw [show ((3:Nat):Int)=3 from rfl]
  have af:=Z A;clear A
  as_aux_lemma=>
   go_enter func47,ntmps47;go_wp2_with fail;go_loopw [37] (fun ao wr=>∃r:Nat,∃a:List Int×List Gate,r≤2∧ao= .int .i64 r∧Hid (Zb 256 f r=a)∧zE (w.heap.size+1+1) (w.heap.size+1) wr 256 a.2∧wr.heap[w.heap.size]? =some (.cells #[.int .i64 0,.slice none 0 0,.slice none 0 0] 109 (0,0))∧
     wr.heap[w.heap.size+1+1]? =some (.cells (ints (ZT a.1)).toArray 186 (0,0))∧Below w.heap.size w wr) (fun ao _=>3-(intOf ao).toNat)
   case atStart=>
    have ag:=znJ w (.cells #[.int .i64 0,.slice none 0 0,.slice none 0 0] 109) (.cells #[.int .i64 256,.slice none 0 0,.slice none 0 0] 183) (.cells Tryz.zeroCells186 186);refine ⟨0,_,by omega,rfl,rfl,⟨by omega,?_,_,ag.2.1,World.ownsRow_nil _ _ _ _⟩,ag.1,?_,ag.2.2.2⟩
    ·simp
    ·show _=some (Obj.cells (ints (ZT [])).toArray _ _)
     rw [zde];exact ag.2.2.1
   case round=>
    obtain ⟨r,a,_,rfl,G,C,g,h,k⟩:=hrel;have ah:a.1.length=64 * r:=by have:=(Zc 256 f r).1;rw [G.out] at this;exact this
    have ai:a.2.length≤70000:=by have:=(Zc 256 f r).2;rw [G.out] at this;omega
    have U:=k.size
    by_cases a4:r=0
    ·subst a4
     go_wp2_with fail;refine (QE _ _ _ (by omega) (by omega)).mono ?_;rintro s ap ⟨rfl,e⟩;go_wp2_with fail;refine (QE _ _ _ (by omega) (by omega)).mono ?_;rintro s V ⟨rfl,l⟩;go_wp2_with (first | ((with_reducible show wpList _ _ _ (⟨_,Op.store _ (.tmp 10) _,_,_,_,_⟩::_) _ _);refine zbg (.tmp 10) (.tmp 43) (.tmp 11) (.tmp 48) rfl rfl rfl rfl rfl _ _ _ _ rfl (qt _ _) (qt _ _) rfl rfl rfl rfl ?_;intro W k1 k2 p) | ((with_reducible show wpList _ _ _ (⟨_,Op.load _ (.tmp 10),_,_,_,_⟩::_) _ _);refine wpList_load_row rfl 185 _ rfl V.heap.size rfl 185 _ _ _ k1 underlying185 rfl (qQ _ (qt _ _)) ?_) | ((with_reducible show wpList _ _ _ (⟨_,Op.load _ (.tmp 11),_,_,_,_⟩::_) _ _);refine wpList_load_row rfl 185 _ rfl (V.heap.size+1) rfl 185 _ _ _ k2 underlying185 rfl (qQ _ (qt _ _)) ?_));have X:=((C.below e).below l).below p;have x:=((e.trans (l.mono e.size)).trans (p.mono (Nat.le_trans e.size l.size)));have y:=(((k.trans (e.mono k.size)).trans (l.mono (Nat.le_trans k.size e.size))).trans (p.mono (Nat.le_trans (Nat.le_trans k.size e.size) l.size)))
     first
     |have d:∃b,qX 256 (qy 0 64) (qy 1 64) a.2 63=b:=⟨_,rfl⟩
      obtain ⟨b,d⟩:=d;have c:=zci _ _ 256 a.2 (qy 0 64) (qy 1 64) W (qt _ _) (qt _ _) X (by omega) (Nat.le_trans ai (by decide));have q:=(Yp 256 (qy 0 64) (qy 1 64) a.2 63).1;rw [d] at c q;have H:=Z d;clear d;refine c.mono ?_;rintro s aq ⟨rfl,t,m⟩;have U:=k.size;have I:=m.keep ((x.block _ (lt_of_block h)).trans h) (by decide) (by omega);have J:=m.keep ((x.block _ (lt_of_block g)).trans g) (by decide) (by omega);have K:=m.below (B:=w.heap.size) (by have:=y.size;omega) (by omega) (by omega);clear c k1 k2 e l p h g C;go_wp2_with ((with_reducible show wpList _ _ _ (⟨_,Op.store _ (.tmp 65) _,_,_,_,_⟩::_) _ _);refine QG (.tmp 65) (.tmp 64) rfl rfl (w.heap.size+1+1) 0 a.1 b.1 ah (by omega) q I rfl rfl ?_;intro ar L M au N O);go_roundw
      case rel=>
       refine ⟨1,(a.1++b.1,b.2.2),by omega,rfl,za0 256 f 0 a G (by simp [af.out]) b H,O _ _ _ _ t,(M _ (by omega)).trans J,L,N _ _ (by omega) (y.trans K)⟩
      case measure=>simp [intOf]
     |have d:∃b,QD 256 (qy 0 64) (qy 1 64) a.2 64=b:=⟨_,rfl⟩
      obtain ⟨b,d⟩:=d;have c:=zcT _ _ 256 a.2 (qy 0 64) (qy 1 64) W (qt _ _) (qt _ _) X (by omega) (Nat.le_trans ai (by decide));have q:=(YB 256 (qy 0 64) (qy 1 64) a.2 64).1;rw [d] at c q;have H:=Z d;clear d;refine c.mono ?_;rintro s aq ⟨rfl,t,m⟩;have U:=k.size;have I:=m.keep ((x.block _ (lt_of_block h)).trans h) (by decide) (by omega);have J:=m.keep ((x.block _ (lt_of_block g)).trans g) (by decide) (by omega);have K:=m.below (B:=w.heap.size) (by have:=y.size;omega) (by omega) (by omega);clear c k1 k2 e l p h g C;go_wp2_with ((with_reducible show wpList _ _ _ (⟨_,Op.store _ (.tmp 59) _,_,_,_,_⟩::_) _ _);refine QG (.tmp 59) (.tmp 58) rfl rfl (w.heap.size+1+1) 0 a.1 b.1 ah (by omega) q I rfl rfl ?_;intro ar L M au N O);go_roundw
      case rel=>
       refine ⟨1,(a.1++b.1,b.2),by omega,rfl,za1 256 f 0 a G (by simp [af.out]) b H,O _ _ _ _ t,(M _ (by omega)).trans J,L,N _ _ (by omega) (y.trans K)⟩
      case measure=>simp [intOf]
    by_cases a5:r=1
    ·subst a5
     go_wp2_with fail;refine (QE _ _ _ (by omega) (by omega)).mono ?_;rintro s ap ⟨rfl,e⟩;go_wp2_with fail;refine (QE _ _ _ (by omega) (by omega)).mono ?_;rintro s V ⟨rfl,l⟩;go_wp2_with (first | ((with_reducible show wpList _ _ _ (⟨_,Op.store _ (.tmp 10) _,_,_,_,_⟩::_) _ _);refine zbg (.tmp 10) (.tmp 43) (.tmp 11) (.tmp 48) rfl rfl rfl rfl rfl _ _ _ _ rfl (qt _ _) (qt _ _) rfl rfl rfl rfl ?_;intro W k1 k2 p) | ((with_reducible show wpList _ _ _ (⟨_,Op.load _ (.tmp 10),_,_,_,_⟩::_) _ _);refine wpList_load_row rfl 185 _ rfl V.heap.size rfl 185 _ _ _ k1 underlying185 rfl (qQ _ (qt _ _)) ?_) | ((with_reducible show wpList _ _ _ (⟨_,Op.load _ (.tmp 11),_,_,_,_⟩::_) _ _);refine wpList_load_row rfl 185 _ rfl (V.heap.size+1) rfl 185 _ _ _ k2 underlying185 rfl (qQ _ (qt _ _)) ?_));have X:=((C.below e).below l).below p;have x:=((e.trans (l.mono e.size)).trans (p.mono (Nat.le_trans e.size l.size)));have y:=(((k.trans (e.mono k.size)).trans (l.mono (Nat.le_trans k.size e.size))).trans (p.mono (Nat.le_trans (Nat.le_trans k.size e.size) l.size)))
     first
     |have d:∃b,qX 256 (qy 2 64) (qy 3 64) a.2 63=b:=⟨_,rfl⟩
      obtain ⟨b,d⟩:=d;have c:=zci _ _ 256 a.2 (qy 2 64) (qy 3 64) W (qt _ _) (qt _ _) X (by omega) (Nat.le_trans ai (by decide));have q:=(Yp 256 (qy 2 64) (qy 3 64) a.2 63).1;rw [d] at c q;have H:=Z d;clear d;refine c.mono ?_;rintro s aq ⟨rfl,t,m⟩;have U:=k.size;have I:=m.keep ((x.block _ (lt_of_block h)).trans h) (by decide) (by omega);have J:=m.keep ((x.block _ (lt_of_block g)).trans g) (by decide) (by omega);have K:=m.below (B:=w.heap.size) (by have:=y.size;omega) (by omega) (by omega);clear c k1 k2 e l p h g C;go_wp2_with ((with_reducible show wpList _ _ _ (⟨_,Op.store _ (.tmp 65) _,_,_,_,_⟩::_) _ _);refine QG (.tmp 65) (.tmp 64) rfl rfl (w.heap.size+1+1) 1 a.1 b.1 ah (by omega) q I rfl rfl ?_;intro ar L M au N O);go_roundw
      case rel=>
       refine ⟨2,(a.1++b.1,b.2.2),by omega,rfl,za0 256 f 1 a G (by simp [af.out]) b H,O _ _ _ _ t,(M _ (by omega)).trans J,L,N _ _ (by omega) (y.trans K)⟩
      case measure=>simp [intOf]
     |have d:∃b,QD 256 (qy 2 64) (qy 3 64) a.2 64=b:=⟨_,rfl⟩
      obtain ⟨b,d⟩:=d;have c:=zcT _ _ 256 a.2 (qy 2 64) (qy 3 64) W (qt _ _) (qt _ _) X (by omega) (Nat.le_trans ai (by decide));have q:=(YB 256 (qy 2 64) (qy 3 64) a.2 64).1;rw [d] at c q;have H:=Z d;clear d;refine c.mono ?_;rintro s aq ⟨rfl,t,m⟩;have U:=k.size;have I:=m.keep ((x.block _ (lt_of_block h)).trans h) (by decide) (by omega);have J:=m.keep ((x.block _ (lt_of_block g)).trans g) (by decide) (by omega);have K:=m.below (B:=w.heap.size) (by have:=y.size;omega) (by omega) (by omega);clear c k1 k2 e l p h g C;go_wp2_with ((with_reducible show wpList _ _ _ (⟨_,Op.store _ (.tmp 59) _,_,_,_,_⟩::_) _ _);refine QG (.tmp 59) (.tmp 58) rfl rfl (w.heap.size+1+1) 1 a.1 b.1 ah (by omega) q I rfl rfl ?_;intro ar L M au N O);go_roundw
      case rel=>
       refine ⟨2,(a.1++b.1,b.2),by omega,rfl,za1 256 f 1 a G (by simp [af.out]) b H,O _ _ _ _ t,(M _ (by omega)).trans J,L,N _ _ (by omega) (y.trans K)⟩
      case measure=>simp [intOf]
    obtain rfl:r=2:=by omega
    have a6:=lt_of_block h;have aI:zE (w.heap.size+1+1) (w.heap.size+1) (wr.alloc (.cells (ints (pad [])).toArray 185)) 256 a.2:=C.below ((Below.refl _ _).alloc (Nat.le_refl _) _);have aJ:=(heap_alloc_old wr (.cells (ints (pad [])).toArray 185) (lt_of_block h)).trans h;have aK:=(heap_alloc_old wr (.cells (ints (pad [])).toArray 185) (lt_of_block g)).trans g;have aL:=heap_alloc_new wr (.cells (ints (pad [])).toArray 185);have aM:=k.alloc U (.cells (ints (pad [])).toArray 185);have c:=Qh _ _ 256 a.2 1 0 0 _ aI (by omega) (by omega);clear h g C k;go_wp2_with fail;refine c.mono ?_;have a7:=Qi 256 1 0 0 a.2;have Y:∃D,gt 256 1 0 0 a.2=D:=⟨_,rfl⟩;obtain ⟨D,Y⟩:=Y;rw [Y] at a7 ⊢;rintro s ap ⟨rfl,a8,Q⟩;have aj:=Q.keep aJ (by decide) (by omega);have aN:=Q.keep aK (by decide) (by omega);have aO:=Q.row aL (by omega);have a9:=aM.trans (Q.below (B:=w.heap.size) (by simp;omega) (by omega) (by omega));have aP:=Q.size;simp only [World.size_alloc] at aP;have ba:D.2.length≤80000:=by omega
    have bb:=Z Y;have bc:=YU aj (by omega);have bt:=Z aj;have ak:=Z (And.intro aj (And.intro aN aO));have av:(a.1.take 64).length=64:=by simp;omega
    have aw:(a.1.drop 64).length=64:=by simp;omega
    have al:=underlying185;have aQ:=zbn _ av;have aR:=zbn _ aw;have bd:zE (w.heap.size+1+1) (w.heap.size+1) ap.drew 256 D.2:=a8;have aS:=Z av;have aT:=Z aw;clear av aw;obtain ⟨be,bf⟩:=bc;clear Y aJ aK aL aM Q c aI aj aN aO;generalize ax:wr.heap.size=P at aP a6 ak ⊢;clear ax;go_wp2_with fail;refine wp_region_held_drew (S:=fun R=>R.rangeAt (w.heap.size+1+1) 0 (ints (a.1.take 64))∧R.rangeAt (w.heap.size+1+1) 64 (ints (a.1.drop 64))) (by kernel_rfl) ⟨be,bf⟩ (fun E=> ?_);refine tk 0 ?_;refine tk 1 ?_;refine tk 2 ?_;refine tk 4 ?_;refine tk 7 ?_;refine tk 9 ?_;refine wpAnyH_take (i:=3) (oi:=_) (v:= ?_) rfl (by kernel_rfl) (by kernel_rfl) (by kernel_rfl) (fun _ _ _ n=>n) ?_ E ?_
    ·exact .agg (ints (a.1.take 64)).toArray
    ·refine yieldsIf_load_mid ?_ 185 (.tmp 112) ?_ (w.heap.size+1+1) 0 ?_ (ints (a.1.take 64)) _ ?_ al ?_ aQ
     ·rfl
     ·rfl
     ·kernel_rfl
     ·exact fun R n=>n.1
     ·rfl
    try simp only [Act.put,List.setIfInBounds_toArray,List.set_cons_zero,List.set_cons_succ]
    refine wpAnyH_take (i:=5) (oi:=_) (v:= ?_) rfl (by kernel_rfl) (by kernel_rfl) (by kernel_rfl) (fun _ _ _ n=>n) ?_ E ?_
    ·exact .agg (ints (a.1.drop 64)).toArray
    ·refine yieldsIf_load_mid ?_ 185 (.tmp 114) ?_ (w.heap.size+1+1) 64 ?_ (ints (a.1.drop 64)) _ ?_ al ?_ aR
     ·rfl
     ·rfl
     ·kernel_rfl
     ·exact fun R n=>n.2
     ·rfl
    try simp only [Act.put,List.setIfInBounds_toArray,List.set_cons_zero,List.set_cons_succ]
    refine wpAnyH_take (i:=8) (oi:=_) (v:= ?_) rfl (by kernel_rfl) (by kernel_rfl) (by kernel_rfl) (fun _ _ _ n=>n) ?_ E ?_
    ·exact .agg (ints (a.1.drop 64)).toArray
    ·refine yieldsIf_load_mid ?_ 185 (.tmp 117) ?_ (w.heap.size+1+1) 64 ?_ (ints (a.1.drop 64)) _ ?_ al ?_ aR
     ·rfl
     ·rfl
     ·kernel_rfl
     ·exact fun R n=>n.2
     ·rfl
    try simp only [Act.put,List.setIfInBounds_toArray,List.set_cons_zero,List.set_cons_succ]
    refine wpAnyH_take (i:=10) (oi:=_) (v:= ?_) rfl (by kernel_rfl) (by kernel_rfl) (by kernel_rfl) (fun _ _ _ n=>n) ?_ E ?_
    ·exact .agg (ints (a.1.take 64)).toArray
    ·refine yieldsIf_load_mid ?_ 185 (.tmp 119) ?_ (w.heap.size+1+1) 0 ?_ (ints (a.1.take 64)) _ ?_ al ?_ aQ
     ·rfl
     ·rfl
     ·kernel_rfl
     ·exact fun R n=>n.1
     ·rfl
    try simp only [Act.put,List.setIfInBounds_toArray,List.set_cons_zero,List.set_cons_succ]
    have c:=zhO _ _ 256 D.2 (a.1.take 64) (a.1.drop 64) _ aS aT bd (by omega) ba;have aU:=zda 256 (a.1.take 64) (a.1.drop 64) D.2;obtain ⟨u,ay⟩:∃u,ZY 256 (a.1.take 64) (a.1.drop 64) D.2=u:=⟨_,rfl⟩;rw [ay] at c aU;have bg:u.2.length≤80000:=by omega
    have bh:=Z ay;clear ay aU;refine rd1 6 (fun aa F=> ?_);go_simp;refine c.mono ?_;rintro s _ ⟨rfl,bi,ab⟩;have aV:=ab.keep ak.1 (by decide) (by omega);have bj:=ab.keep ak.2.1 (by decide) (by omega);have bk:=ab.row ak.2.2 (by omega);have bl:=a9.drew.trans (ab.below (B:=w.heap.size) (by simp;omega) (by omega) (by omega));clear c;refine F _ _ (YU aV (by omega)) (fun E=>nx ?_);clear F aa;refine rd1 11 (fun aa F=> ?_);go_simp;have c:=znp _ _ 256 u.2 u.1 (a.1.drop 64) (a.1.take 64) _ aT aS bi (by omega) bg;have ac:=(zb7 256 u.1 (a.1.drop 64) (a.1.take 64) u.2 64).1;obtain ⟨o,az⟩:∃o,Yc 256 u.1 (a.1.drop 64) (a.1.take 64) u.2 64=o:=⟨_,rfl⟩;rw [az] at c ac;have bm:=Z az;clear az;refine c.mono ?_;rintro s aA ⟨rfl,bn,am⟩;have aW:=am.keep aV (by decide) (by omega);have g:=am.keep bj (by decide) (by omega);have aB:=am.row bk (by omega);have bo:=ab.size;have bp:=bl.trans (am.below (B:=w.heap.size) (by simp at bo;omega) (by omega) (by omega));clear c;refine F _ _ (YU aW (by omega)) (fun E=>nx ?_);clear F aa;refine rd1 12 (fun aa F=> ?_);rw [if_pos (by rfl)];refine wp_store_row 185 (.tmp 12) (.tmp 121) rfl P (ints o.1).toArray (by kernel_rfl) (by kernel_rfl) 185 _ aB (qQ _ ac) (by simp [qP,ac,zcH]) (Z1 _) ?_;have aC:=setRow_heap _ _ _ (ints o.1).toArray _ _ aB;have t:=bn.setRow aB (ints o.1).toArray;have aX:=below_setRow (g:=P) bp (by omega) (ints o.1).toArray;have aD:=(setRow_other aA P _ (ints o.1).toArray (by omega)).trans aW;have aE:=(setRow_other aA P _ (ints o.1).toArray (by omega)).trans g;refine F _ _ (YU aD (by omega)) (fun E=>nx ?_);clear F aa;refine wpAnyH_done (by kernel_rfl) ?_ _;generalize aA.setRow P (ints o.1).toArray=T at aC t aX aD aE ⊢;have bq:∃ad,T.heap[w.heap.size+1]? =some (.cells #[.int .i64 256,ad,.slice none 0 0] 183 (0,0))∧T.ownsRow (w.heap.size+1+1) 194 3 ad o.2.length (yT o.2):=t.2.2;obtain ⟨ad,ae,aF⟩:=bq;have br:=zeS aF;have bu:T.cell? ⟨w.heap.size+1,2,none⟩=some (.slice none 0 0):=(cell_of_row _ _ _ _ _ _ ae).trans rfl;have bv:=frozen_of_row T (w.heap.size+1) 2 _ _ ae;have aY:∀z,(T.setCell ⟨w.heap.size+1,2,none⟩ z).heap[w.heap.size+1]? =some (.cells #[.int .i64 256,ad,z] 183 (0,0)):=fun z=>by have:=heap_setCell (j:=2) ae z;simpa using this
    have aZ:∀z,(T.setCell ⟨w.heap.size+1,2,none⟩ z).heap[w.heap.size]? =some (.cells #[.int .i64 0,.slice none 0 0,.slice none 0 0] 109 (0,0)):=fun z=>(qe (by omega) z).trans aE
    have aG:=Z (And.intro aY aZ);have a0:=Z (And.intro aC (And.intro ae aF));have bs:=Z ac;clear aY aZ ae aF aC aE aD ac E;go_wp2_with (first | ((with_reducible show wpList _ _ _ (⟨_,Op.load _ (.tmp 129),_,_,_,_⟩::_) _ _);refine wpList_load_row rfl 109 _ rfl (w.heap.size+1) rfl 183 _ _ _ (aG.1 _) underlying109 rfl yn ?_) | ((with_reducible show wpList _ _ _ (⟨_,Op.store _ (.tmp 4) (.tmp 130),_,_,_,_⟩::_) _ _);refine wpList_store_row rfl 109 _ _ rfl w.heap.size _ rfl rfl 109 _ (aG.2 _) yn rfl (all_oneCell_toArray (by intro z a1;simp at a1;rcases a1 with rfl | rfl | rfl<;>first | rfl | exact br)) ?_));refine bodyPost_ret (ql rfl _ _ w.heap.size 109 _ _ _ rfl (setRow_heap _ _ _ _ _ _ (aG.2 _)) underlying109 rfl yn) rfl ?_;rw [←a3.out];unfold Ye;rw [zli f a G.out D u o bb.out bh.out bm.out];have ax:P≠w.heap.size+1:=by omega
    refine ⟨ad,_,rfl,?_,zeR (br:=P) (t:=185) (fr:=(0,0)) ?_ bs,below_setRow (aX.setCell (by simp) _) (Nat.le_refl _) _⟩
    ·refine qk (zdd a0.2.2 (fun _ _ _ _=> ?_)) (by omega)
     rw [setRow_other _ _ _ _ (by omega),qe (by omega)]
    ·rw [setRow_other _ _ _ _ (by omega),qe ax];exact a0.1
end Go.Proofs.YtklofgfkaaoipaaGreatDoor

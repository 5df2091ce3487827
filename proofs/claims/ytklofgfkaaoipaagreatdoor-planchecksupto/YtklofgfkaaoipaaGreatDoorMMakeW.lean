/-
  WORDS for plan.Make at the document's example: the plan in the making.
-/
import Derived.Test.YtklofgfkaaoipaaGreatDoorMLow20
import Derived.Test.YtklofgfkaaoipaaGreatDoorMLawOwn
import Derived.Test.YtklofgfkaaoipaaGreatDoorMRepeat
import Derived.Test.YtklofgfkaaoipaaGreatDoorMRefMake3
import Derived.Test.YtklofgfkaaoipaaGreatDoorMAlone
import Derived.Test.YtklofgfkaaoipaaGreatDoorMHd
set_option maxHeartbeats 16000000
set_option maxRecDepth 100000
set_option linter.unusedSimpArgs false
set_option linter.unusedVariables false
namespace Go.Proofs.YtklofgfkaaoipaaGreatDoor
open Go.RowKit Go.Proofs.Tryz
variable {w W F:World}{P B:Nat}{h A D E o s x a b G:Value}{p:MPlan}{v:PVals}
def plS (k:Nat):MPlan:=⟨exL,1,1,if k=0 then [] else [0,1,0,0],if k=0 then 0 else 2,⟨1,0,0,1,1,3,4,4⟩,if k≤1 then [] else [[]],if k≤2 then [] else [[]],if k≤3 then [] else [[]]⟩
def exP:MPlan:=⟨exL,1,1, [0,1,0,0],2,⟨1,0,0,1,1,3,4,4⟩, [[]], [[]], [[]]⟩
structure MkSt (w:World)(P:Nat)(g0 g1 g2 g3:Value)(p:MPlan)(v:PVals)(W:World):Prop where
 box:W.heap[P]? =some (.cells (qn p v) 30 (0,0))
 res:W.heap[w.heap.size+1]? =some (.cells zp 30 (0,0))
 gra:W.heap[w.heap.size]? =some (.cells #[g0,g1,g2,g3] 76 (0,0))
 below:Below w.heap.size w W
 own:PlanOwn w.heap.size W p v
 lt:w.heap.size+1<P
theorem MkSt.later (a:MkSt w P h A D E p v W)(b:Below W.heap.size W F):MkSt w P h A D E p v F:=
 ⟨(b.block _ (qd a.box)).trans a.box,(b.block _ (qd a.res)).trans a.res,(b.block _ (qd a.gra)).trans a.gra,a.below.trans (b.mono a.below.size),a.own.kept (yI b) (Off.none _ _ _) (Off.none _ _ _) (Off.none _ _ _),a.lt⟩
theorem MkSt.set {p':MPlan}{v':PVals}(a:MkSt w P h A D E p v W)(j:Nat)(x:Value)(b:(qn p v).setIfInBounds j x=qn p' v')(c:PlanOwn w.heap.size W p' v'):MkSt w P h A D E p' v' (W.setCell ⟨P,j,none⟩ x):=
 ⟨by rw [heap_setCell a.box,b],(qe (by have:=a.lt;omega) _).trans a.res,(qe (by have:=a.lt;omega) _).trans a.gra,a.below.setCell (p:=⟨P,j,none⟩) (by have:=a.lt;show w.heap.size≤P;omega) _,
  c.kept (qh _ _ _ _) (Off.block a.box (by decide)) (Off.block a.box (by decide)) (Off.block a.box (by decide)),a.lt⟩
theorem MkSt.free (a:MkSt w P h A D E p v W)(j:Nat):W.frozen? ⟨P,j,none⟩=false:=by simp [World.frozen?,a.box]
theorem yK (a:W.grownBy F none):Below W.heap.size W F:=(Below.refl _ _).grown a (Nat.le_refl _) (fun c b=>by cases b)
theorem zaC {g v:Value}(a:B≤P)(b:F.ownsRow P 24 1 g 1 [v])(c:W.ownsRow B 3 1 v 0 (ints []))(d:Below W.heap.size W F):qO B F g [[]]:=
 ⟨[v],qk b a,Below.owns c d,trivial⟩
theorem PlanOwn.sh1 (c:PlanOwn B W (plS 1) ⟨o,s,x,a,b⟩)(d:qO B W G [[]]):PlanOwn B W (plS 2) ⟨o,s,G,a,b⟩:=⟨c.ops,c.slots,d,c.in0,c.in1⟩
theorem PlanOwn.sh2 (c:PlanOwn B W (plS 2) ⟨o,s,x,a,b⟩)(d:qO B W G [[]]):PlanOwn B W (plS 3) ⟨o,s,x,G,b⟩:=⟨c.ops,c.slots,c.shapes,d,c.in1⟩
theorem PlanOwn.sh3 (c:PlanOwn B W (plS 3) ⟨o,s,x,a,b⟩)(d:qO B W G [[]]):PlanOwn B W (plS 4) ⟨o,s,x,a,G⟩:=⟨c.ops,c.slots,c.shapes,c.in0,d⟩
theorem zkU:qK exL 65536 65536=true:=by kernel_rfl
theorem zmz:zbH exL=2:=by kernel_rfl
theorem zkV:Qb exL=([0,1,0,0],2):=by kernel_rfl
theorem zmA:(zy exL).arr=#[.int .i64 1,.int .i64 0,.int .i64 0,.int .i64 1,.int .i64 1,.int .i64 3,.int .i64 4,.int .i64 4]:=by kernel_rfl
theorem zou {bz go bA bB:Value}{cu cv:List Value}(w:World)(j:GAt B w bz go bA bB exG cu cv)(bC:yC w)(c8:0<w.heap.size):
  Calls prog 33 #[.agg #[bz,go,bA,bB],.int .i64 0] w fun I bD=>∃bE,I= .returned (.tuple #[.agg (qn exP bE),.nilIface])∧PlanOwn w.heap.size bD exP bE∧Below w.heap.size w bD:=by
 have ai:=Z j;have az:=Z bC;obtain ⟨c9,V,rfl,-,bF⟩:=qg j.nodes;obtain ⟨u,rfl,-,av,-⟩:=bF (by decide);clear bF;obtain ⟨da,aj,rfl,-,bG⟩:=qg j.outs;obtain ⟨W,rfl,-,cw,bH⟩:=bG (by decide);have bI:w.cell? ⟨W,0,none⟩=some (.int .i64 2):=bH 0 (by decide);have cx:=Z bI;clear bG bH bI;obtain ⟨cy,ab,rfl⟩:=j.in0.form;obtain ⟨cz,ac,rfl⟩:=j.in1.form;have a0:exG.nodes.length=3:=rfl;have a1:exG.outs.length=1:=rfl;have a2:exG.in0.length=1:=rfl;have a3:exG.in1.length=1:=rfl;rw [a0,a1,a2,a3];rw [a0,a1,a2,a3] at ai;clear j bC a0 a1 a2 a3;obtain ⟨db,bJ,a4⟩:=ai.in0;obtain ⟨cA,rfl⟩:=List.length_eq_one_iff.1 (a4.length.trans (rfl:exG.in0.length=1));obtain ⟨X,cB,bK,-,cC,-,bL,-,-⟩:=zm bJ 0 (show 0<1 from Nat.one_pos);obtain ⟨rfl,rfl⟩:cy=some ⟨X,0,none⟩∧ab=cB:=by simpa using bK
 have aA:w.ownsRow B 3 1 cA 0 (ints []):=a4.1;obtain ⟨bM,bN,rfl,-,-⟩:=qg aA;obtain ⟨dc,bO,a5⟩:=ai.in1;obtain ⟨cD,rfl⟩:=List.length_eq_one_iff.1 (a5.length.trans (rfl:exG.in1.length=1));obtain ⟨Y,cE,bP,-,cF,-,bQ,-,-⟩:=zm bO 0 (show 0<1 from Nat.one_pos);obtain ⟨rfl,rfl⟩:cz=some ⟨Y,0,none⟩∧ac=cE:=by simpa using bP
 have a6:w.ownsRow B 3 1 cD 0 (ints []):=a5.1;obtain ⟨bR,bS,rfl,-,-⟩:=qg a6;obtain ⟨cG,cH,aB,aC,dd,de,aD,-,bT,-,bU⟩:=ai.nodeV 2 (show 2<3 by decide);obtain ⟨rfl,rfl⟩:u=cG∧V=cH:=⟨by simp at aD;exact aD.1,by simp at aD;exact aD.2.2⟩;have bV:w.ownsRow B 3 1 (.slice aB 0 aC) 0 (ints []):=bT;have bW:w.cell? ⟨u,15,none⟩=some (.slice aB 0 aC):=bU.2.1;have bX:=Z bV;have aw:=Z bW;clear aD bT bU bV bW;have bY:=Z aA;have bZ:=Z a6;have cI:=Z bL;have cJ:=Z bQ;clear bK bP bJ a4 bO a5 aA a6 bL bQ;have a7:=Z (qm w (.cells #[.slice (some ⟨u,0,none⟩) 3 V,.slice (some ⟨W,0,none⟩) 1 aj,.slice (some ⟨X,0,none⟩) 1 ab,.slice (some ⟨Y,0,none⟩) 1 ac] 76) (.cells zp 30));have a8:=Z (heap_alloc2_old w (.cells #[.slice (some ⟨u,0,none⟩) 3 V,.slice (some ⟨W,0,none⟩) 1 aj,.slice (some ⟨X,0,none⟩) 1 ab,.slice (some ⟨Y,0,none⟩) 1 ac] 76) (.cells zp 30));have b0:=Z (heap_alloc2_new w (.cells #[.slice (some ⟨u,0,none⟩) 3 V,.slice (some ⟨W,0,none⟩) 1 aj,.slice (some ⟨X,0,none⟩) 1 ab,.slice (some ⟨Y,0,none⟩) 1 ac] 76) (.cells zp 30));have b1:=Z (fun (k:World) (m:Below w.heap.size w k)=>zfz k (ai.later m) (az.below m) (by have:=m.size;omega) (by decide +kernel) (by intro df b2;simp [exG] at b2;rcases b2 with rfl | rfl | rfl<;>decide) (by decide));have cK:=Z (fun (k:World) (m:Below w.heap.size w k)=>zds k (ai.later m) (by decide));have cL:=Z (fun (k:World) (m:Below w.heap.size w k) (cM:Option Addr) (cN:Nat)=>zlf k (ai.later m) (az.below m) (by have:=m.size;omega) cM cN);obtain ⟨v,k1,k2,k3⟩:=QK a8;go_enter func33,ntmps33;go_upto_region 18 with (first | (go_at_call 76;refine (cL _ aP _ _).mono ?_;rw [zmy];rintro I dg ⟨dh,rfl,a9,aQ⟩;obtain ⟨n,o,rfl,-,-⟩:=qg a9;have b3:=Z a9;clear a9;have ba:=Z ((aQ.block w.heap.size (qd bb)).trans bb);obtain ⟨v,k1,k2,k3⟩:=QK ba;have b4:=Z ((aQ.block (w.heap.size+1) (qd b5)).trans b5);have bc:=Z (aP.trans (aQ.mono aP.size));clear aQ) | (go_at_call 73;refine (zin bd.heap.size 1 (Nat.le_refl _) _ (qd b6) _ (zo3 b6)).mono ?_;rintro I di ⟨dj,dk,rfl,aR⟩;have bb:=Z ((aR.block w.heap.size (qd be)).trans be);obtain ⟨v,k1,k2,k3⟩:=QK bb;have b5:=Z ((aR.block (w.heap.size+1) (qd b7)).trans b7);have aP:=Z (b8.trans (aR.mono b8.size));clear aR) | (go_at_call 74;refine (cK _ bf).mono ?_;rw [show QN 0 exG.nodes=[] from rfl];rintro I dl ⟨dm,rfl,bg,aE⟩;simp only [List.length_nil] at bg;obtain ⟨dp,dq,rfl,-,-⟩:=qg bg;clear bg;have b6:=Z ((aE.block bd.heap.size (qd b9)).trans b9);have be:=Z ((aE.block w.heap.size (qd ca)).trans ca);obtain ⟨v,k1,k2,k3⟩:=QK be;have b7:=Z ((aE.block (w.heap.size+1) (qd cb)).trans cb);have b8:=Z (bf.trans (aE.mono bf.size));clear aE) | (go_at_call 72;refine (b1 _ a7).mono ?_;rintro I bd ⟨rfl,aS⟩;have bh:=Z ((aS.block w.heap.size (qd a8)).trans a8);obtain ⟨v,k1,k2,k3⟩:=QK bh;have cO:=Z ((aS.block (w.heap.size+1) (qd b0)).trans b0);have cc:=Z (a7.trans (aS.mono a7.size));clear aS;have cP:=qd bh;have ca:=Z (QH (.cells #[.int .i64 2] 161) bh);have cb:=Z (QH (.cells #[.int .i64 2] 161) cO);have b9:=Z (heap_alloc_new bd (.cells #[.int .i64 2] 161));have bf:=Z (cc.alloc cc.size (.cells #[.int .i64 2] 161))));have cd:=Z (fun k (aF:Arr k.heap.size k 6 (.slice n exL.length o) exL.length (qz exL)) (m:Below w.heap.size w k)=>zcA _ exL k zkU aF (by decide) zhx (az.below m));rw [zmz] at cd;have ce:=Z (fun k (aF:Arr k.heap.size k 6 (.slice n exL.length o) exL.length (qz exL)) (m:Below w.heap.size w k)=>za4 _ exL k aF (by decide) zhx (az.below m));rw [zmA] at ce;have cf:=Z (fun k (aF:Arr k.heap.size k 6 (.slice n exL.length o) exL.length (qz exL)) (m:Below w.heap.size w k)=>zdi _ exL k aF (by decide) zhx (az.below m));rw [zkV] at cf;have cg:=Z (fun (k:World) (m:Below w.heap.size w k)=>zjf k (ai.later m) (by decide) (fun cQ cR=>b1.out cQ (m.trans (cR.mono m.size))));rw [show Y8 exG.in0=1 from rfl,show Y8 exG.in1=1 from rfl] at cg;go_upto_region 21 with (first | (go_at_call 22;refine (ce _ (Arr.of_owns ch) bi).mono ?_;rintro I aT ⟨rfl,aG⟩;have cS:=Z (Below.owns ch aG);have ci:=Z ((aG.block w.heap.size (qd bj)).trans bj);obtain ⟨v,k1,k2,k3⟩:=QK ci;have cj:=Z ((aG.block (w.heap.size+1) (qd ck)).trans ck);have cl:=Z (bi.trans (aG.mono bi.size));clear aG) | (go_at_call 77;refine (cg _ bk).mono ?_;rintro I dr ⟨rfl,aH⟩;have ch:=Z (Below.owns cT aH);have bj:=Z ((aH.block w.heap.size (qd bl)).trans bl);obtain ⟨v,k1,k2,k3⟩:=QK bj;have ck:=Z ((aH.block (w.heap.size+1) (qd cm)).trans cm);have bi:=Z (bk.trans (aH.mono bk.size));clear aH) | (go_at_call 19;refine (cd _ (Arr.of_owns b3) bc).mono ?_;rintro I ds ⟨rfl,aI⟩;have cT:=Z (Below.owns b3 aI);have bl:=Z ((aI.block w.heap.size (qd ba)).trans ba);obtain ⟨v,k1,k2,k3⟩:=QK bl;have cm:=Z ((aI.block (w.heap.size+1) (qd b4)).trans b4);have bk:=Z (bc.trans (aI.mono bc.size));clear aI));have ax:=Z (show MkSt w aT.heap.size (.slice (some ⟨u,0,none⟩) 3 V) (.slice (some ⟨W,0,none⟩) 1 aj) (.slice (some ⟨X,0,none⟩) 1 ab) (.slice (some ⟨Y,0,none⟩) 1 ac) (plS 0) ⟨.slice n exL.length o,.slice none 0 0,.slice none 0 0,.slice none 0 0,.slice none 0 0⟩ (aT.alloc (.cells #[.slice n exL.length o,.int .i64 1,.int .i64 1,.slice none 0 0,.int .i64 0,.int .i64 1,.int .i64 0,.int .i64 0,.int .i64 1,.int .i64 1,.int .i64 3,.int .i64 4,.int .i64 4,.slice none 0 0,.slice none 0 0,.slice none 0 0] 30)) from ⟨heap_alloc_new _ _,QH _ cj,QH _ ci,cl.alloc cl.size _,⟨(qk cS aP.size).alloc _,World.ownsRow_nil _ _ _ _,qO.nil _ _,qO.nil _ _,qO.nil _ _⟩,qd cj⟩);generalize aT.alloc (.cells #[.slice n exL.length o,.int .i64 1,.int .i64 1,.slice none 0 0,.int .i64 0,.int .i64 1,.int .i64 0,.int .i64 0,.int .i64 1,.int .i64 1,.int .i64 3,.int .i64 4,.int .i64 4,.slice none 0 0,.slice none 0 0,.slice none 0 0] 30)=dt at ax ⊢;obtain ⟨h,cn⟩:∃h,aT.heap.size=h:=⟨_,rfl⟩;rw [cn] at ax ⊢;clear cn v k1 k2 k3 cP;go_upto_region 22 with (go_at_call 20;refine (cf _ (Arr.of_owns ax.own.ops) ax.below).mono ?_;rintro I cU ⟨u11,rfl,bm,bn⟩;have aJ:=ax.later bn;obtain ⟨⟨-,-,-,cV,cW⟩,-,-⟩:=qv aJ.box;have cX:=aJ.free 3;have cY:=aJ.free 4;obtain ⟨r,s,rfl,-,-⟩:=qg bm;have co:=Z aJ;have cZ:=Z bm;have du:=Z bn;clear aJ bm bn);have aU:=co.set (p':=⟨exL,1,1, [0,1,0,0],0,⟨1,0,0,1,1,3,4,4⟩, [], [], []⟩) (v':=⟨.slice n exL.length o,.slice r 4 s,.slice none 0 0,.slice none 0 0,.slice none 0 0⟩) 3 (.slice r 4 s) rfl ⟨co.own.ops,qk cZ ax.below.size,qO.nil _ _,qO.nil _ _,qO.nil _ _⟩;have bo:=Z (aU.set (p':=plS 1) (v':=⟨.slice n exL.length o,.slice r 4 s,.slice none 0 0,.slice none 0 0,.slice none 0 0⟩) 4 (.int .i64 2) rfl ⟨aU.own.ops,aU.own.slots,qO.nil _ _,qO.nil _ _,qO.nil _ _⟩);clear aU cV cW cX cY;generalize ((cU.setCell ⟨h,3,none⟩ (.slice r 4 s)).setCell ⟨h,4,none⟩ (.int .i64 2))=dv at bo ⊢;obtain ⟨v,k1,k2,k3⟩:=QK bo.gra;go_wp2_with fail;go_loopg [81] 1 (fun au c0 wr=>∃(ak:Nat) (R:Value),ak≤1∧au=1-ak∧c0= .int .i64 ak∧(ak=0→R= .slice none 0 0)∧Hid (MkSt w h (.slice (some ⟨u,0,none⟩) 3 V) (.slice (some ⟨W,0,none⟩) 1 aj) (.slice (some ⟨X,0,none⟩) 1 ab) (.slice (some ⟨Y,0,none⟩) 1 ac) (plS (ak+1)) ⟨.slice n exL.length o,.slice r 4 s,R,.slice none 0 0,.slice none 0 0⟩ wr))
 case atStart=>exact ⟨0,_,by omega,rfl,rfl,fun _=>rfl,bo⟩
 case round=>
  obtain ⟨ak,R,dw,dx,rfl,S,t⟩:=hrel;rename World=>al
  clear v k1 k2 k3;have c1:=qd t.box;obtain ⟨v,k1,k2,k3⟩:=QK t.gra
  by_cases cp:ak=0
  ·subst cp
   have aA:=S rfl;subst aA;have bp:=(t.below.cell (p:=⟨W,0,none⟩) cw).trans cx;obtain ⟨-,-,aV,-,-⟩:=qv t.box;simp only at aV;have aW:=(t.below.cell (p:=⟨u,15,none⟩) av).trans aw;have bq:w.heap.size≠h:=by have:=t.lt;omega
   have br:u≠h:=by have:=t.lt;omega
   clear S;rw [show ((0:Nat):Int)=0 from rfl];go_upto_region 25 with fail;refine rg (fun cq=>cq.cell? ⟨w.heap.size,0,none⟩=some (.slice (some ⟨u,0,none⟩) 3 V)∧cq.cell? ⟨u,15,none⟩=some (.slice aB 0 aC)) ⟨v,aW⟩ (fun d=> ?_);refine tk 0 ?_;refine tk 2 ?_;refine tk 3 ?_;refine tk 4 ?_;refine tk 5 ?_;refine tk 6 ?_;refine tk 7 ?_;refine rd2 1 8 (fun b a=> ?_) (fun b a=> ?_)
   ·skip
    go_simp;refine a _ _ d (fun d=>nx ?_);clear a b;refine rd1 8 (fun b a=> ?_)
    (go_simp;go_at_call 69;refine (zs (.slice aB 0 aC) [] _ (Arr.of_owns (Below.owns bX (t.below.trans ((t.later (Below.refl _ _).drew).below |> fun _=>(Below.refl al.heap.size al).drew.mono t.below.size)))) (by decide)).mono ?_;rintro I x ⟨aK,rfl,p,y⟩;obtain ⟨J,K,rfl,-,-⟩:=qg p;have g:=t.later ((Below.refl al.heap.size al).drew.trans y);have O:=And.intro (QK g.gra).1 ((g.below.cell (p:=⟨u,15,none⟩) av).trans aw);have T:=(qv g.box).2.2;have U:=qd g.box;have q:=Z g;have L:=Z p;have M:h+1≤x.heap.size:=U;have N:=Z (World.ownsRow_nil x (h+1) 24 1);obtain ⟨aL,aM,aN⟩:=T;clear g p y;(try dsimp only))
    refine a _ _ O (fun d=>nx ?_);clear a b;refine rd1 9 (fun b a=> ?_);go_simp;refine a _ _ ⟨Lib.cell?_alloc_some _ O.1,Lib.cell?_alloc_some _ O.2⟩ (fun d=>nx ?_);clear a b;refine rd1 10 (fun b a=> ?_)
    (refine yU (by rfl) _ _ 27 (by rfl) 24 _ 1 24 underlying27 Qn rfl (by decide) #[.slice J 0 K] 0 (h+1) (.slice none 0 0) [] N (by rfl) (by rfl) rfl (by simp [Value.oneCell']) M (by omega) (by unfold maxLen;omega) ?_;intro z A am e f;have c:=q.later (yK f);have C:=And.intro (QK c.gra).1 ((c.below.cell (p:=⟨u,15,none⟩) av).trans aw);have D:=(qv c.box).2.2;have an:=c.free 13;have l:=Z c;have ao:=Z e;have E:=Z (zaC (B:=w.heap.size) (by have:=q.lt;omega) e (qk L (show w.heap.size≤_ from t.below.size)) (yK f));obtain ⟨ap,aq,ar⟩:=D;clear c e f;(try dsimp only))
    refine a _ _ C (fun d=>nx ?_);clear a b;refine tk 11 ?_;refine rd1 12 (fun b a=> ?_);go_simp;refine a _ _ ⟨(World.cell?_setCell_other _ _ _ _ (by simp [bq])).trans C.1,(World.cell?_setCell_other _ _ _ _ (by simp [br])).trans C.2⟩ (fun d=>nx ?_);clear a b;refine dn ?_;clear v k1 k2 k3 aV aW bp;go_wp2_with fail;go_roundg 0
    case measure=>omega
    case rel=>exact ⟨1,_,by omega,rfl,by go_num,fun j=>absurd j (by decide),Z (l.set (p':=plS 2) (v':=⟨.slice n exL.length o,.slice r 4 s,.slice (some ⟨z,0,none⟩) 1 A,.slice none 0 0,.slice none 0 0⟩) 13 _ rfl (l.own.sh1 E))⟩
   ·skip
    (go_simp;go_at_call 69;refine (zs (.slice aB 0 aC) [] _ (Arr.of_owns (Below.owns bX (t.below.trans ((t.later (Below.refl _ _).drew).below |> fun _=>(Below.refl al.heap.size al).drew.mono t.below.size)))) (by decide)).mono ?_;rintro I x ⟨aK,rfl,p,y⟩;obtain ⟨J,K,rfl,-,-⟩:=qg p;have g:=t.later ((Below.refl al.heap.size al).drew.trans y);have O:=And.intro (QK g.gra).1 ((g.below.cell (p:=⟨u,15,none⟩) av).trans aw);have T:=(qv g.box).2.2;have U:=qd g.box;have q:=Z g;have L:=Z p;have M:h+1≤x.heap.size:=U;have N:=Z (World.ownsRow_nil x (h+1) 24 1);obtain ⟨aL,aM,aN⟩:=T;clear g p y;(try dsimp only))
    refine a _ _ O (fun d=>nx ?_);clear a b;refine rd2 1 9 (fun b a=> ?_) (fun b a=> ?_)
    ·skip
     go_simp;refine a _ _ d (fun d=>nx ?_);clear a b;refine rd1 9 (fun b a=> ?_);go_simp;refine a _ _ ⟨Lib.cell?_alloc_some _ O.1,Lib.cell?_alloc_some _ O.2⟩ (fun d=>nx ?_);clear a b;refine rd1 10 (fun b a=> ?_)
     (refine yU (by rfl) _ _ 27 (by rfl) 24 _ 1 24 underlying27 Qn rfl (by decide) #[.slice J 0 K] 0 (h+1) (.slice none 0 0) [] N (by rfl) (by rfl) rfl (by simp [Value.oneCell']) M (by omega) (by unfold maxLen;omega) ?_;intro z A am e f;have c:=q.later (yK f);have C:=And.intro (QK c.gra).1 ((c.below.cell (p:=⟨u,15,none⟩) av).trans aw);have D:=(qv c.box).2.2;have an:=c.free 13;have l:=Z c;have ao:=Z e;have E:=Z (zaC (B:=w.heap.size) (by have:=q.lt;omega) e (qk L (show w.heap.size≤_ from t.below.size)) (yK f));obtain ⟨ap,aq,ar⟩:=D;clear c e f;(try dsimp only))
     refine a _ _ C (fun d=>nx ?_);clear a b;refine tk 11 ?_;refine rd1 12 (fun b a=> ?_);go_simp;refine a _ _ ⟨(World.cell?_setCell_other _ _ _ _ (by simp [bq])).trans C.1,(World.cell?_setCell_other _ _ _ _ (by simp [br])).trans C.2⟩ (fun d=>nx ?_);clear a b;refine dn ?_;clear v k1 k2 k3 aV aW bp;go_wp2_with fail;go_roundg 0
     case measure=>omega
     case rel=>exact ⟨1,_,by omega,rfl,by go_num,fun j=>absurd j (by decide),Z (l.set (p':=plS 2) (v':=⟨.slice n exL.length o,.slice r 4 s,.slice (some ⟨z,0,none⟩) 1 A,.slice none 0 0,.slice none 0 0⟩) 13 _ rfl (l.own.sh1 E))⟩
    ·skip
     go_simp;refine a _ _ ⟨Lib.cell?_alloc_some _ O.1,Lib.cell?_alloc_some _ O.2⟩ (fun d=>nx ?_);clear a b;refine rd1 1 (fun b a=> ?_);go_simp;refine a _ _ d (fun d=>nx ?_);clear a b;refine rd1 10 (fun b a=> ?_)
     (refine yU (by rfl) _ _ 27 (by rfl) 24 _ 1 24 underlying27 Qn rfl (by decide) #[.slice J 0 K] 0 (h+1) (.slice none 0 0) [] N (by rfl) (by rfl) rfl (by simp [Value.oneCell']) M (by omega) (by unfold maxLen;omega) ?_;intro z A am e f;have c:=q.later (yK f);have C:=And.intro (QK c.gra).1 ((c.below.cell (p:=⟨u,15,none⟩) av).trans aw);have D:=(qv c.box).2.2;have an:=c.free 13;have l:=Z c;have ao:=Z e;have E:=Z (zaC (B:=w.heap.size) (by have:=q.lt;omega) e (qk L (show w.heap.size≤_ from t.below.size)) (yK f));obtain ⟨ap,aq,ar⟩:=D;clear c e f;(try dsimp only))
     refine a _ _ C (fun d=>nx ?_);clear a b;refine tk 11 ?_;refine rd1 12 (fun b a=> ?_);go_simp;refine a _ _ ⟨(World.cell?_setCell_other _ _ _ _ (by simp [bq])).trans C.1,(World.cell?_setCell_other _ _ _ _ (by simp [br])).trans C.2⟩ (fun d=>nx ?_);clear a b;refine dn ?_;clear v k1 k2 k3 aV aW bp;go_wp2_with fail;go_roundg 0
     case measure=>omega
     case rel=>exact ⟨1,_,by omega,rfl,by go_num,fun j=>absurd j (by decide),Z (l.set (p':=plS 2) (v':=⟨.slice n exL.length o,.slice r 4 s,.slice (some ⟨z,0,none⟩) 1 A,.slice none 0 0,.slice none 0 0⟩) 13 _ rfl (l.own.sh1 E))⟩
  ·obtain rfl:ak=1:=by omega
   clear S cp;obtain ⟨P,Q,bs⟩:=t.own.shapes.form;simp only at bs;rw [show (plS (1+1)).shapes.length=1 from rfl] at bs;subst bs;go_wp2_with fail;go_loopg [98] 2 (fun au c2 wr=>∃(aa:Nat) (bt bu:Value),aa≤2∧au=2-aa∧c2= .int .i64 aa∧(aa=0→bt= .slice none 0 0)∧(aa≤1→bu= .slice none 0 0)∧Hid (MkSt w h (.slice (some ⟨u,0,none⟩) 3 V) (.slice (some ⟨W,0,none⟩) 1 aj) (.slice (some ⟨X,0,none⟩) 1 ab) (.slice (some ⟨Y,0,none⟩) 1 ac) (plS (aa+2)) ⟨.slice n exL.length o,.slice r 4 s,.slice P 1 Q,bt,bu⟩ wr))
   case atStart=>exact ⟨0,_,_,by omega,rfl,rfl,fun _=>rfl,fun _=>rfl,t⟩
   case round=>
    obtain ⟨aa,bt,bu,dy,dz,rfl,aX,m,H⟩:=hrel;rename World=>dA
    clear v k1 k2 k3 c1;have dB:=qd H.box;obtain ⟨v,k1,k2,k3⟩:=QK H.gra
    by_cases cr:aa=0
    ·subst cr
     have bv:=aX rfl;subst bv;have c3:=m (by omega);subst c3;clear aX m;rw [show ((0:Nat):Int)=0 from rfl];go_wp2_with fail;go_loopg [106] 1 (fun au bw wr=>∃(F:Nat) (R:Value),F≤1∧au=1-F∧bw= .int .i64 F∧(F=0→R= .slice none 0 0)∧Hid (MkSt w h (.slice (some ⟨u,0,none⟩) 3 V) (.slice (some ⟨W,0,none⟩) 1 aj) (.slice (some ⟨X,0,none⟩) 1 ab) (.slice (some ⟨Y,0,none⟩) 1 ac) (plS (F+2)) ⟨.slice n exL.length o,.slice r 4 s,.slice P 1 Q,R,.slice none 0 0⟩ wr))
     case atStart=>exact ⟨0,_,by omega,rfl,rfl,fun _=>rfl,H⟩
     case round=>
      obtain ⟨F,R,c4,c5,rfl,S,i⟩:=hrel;rename World=>G
      by_cases aO:F=0
      ·subst aO
       have bx:=S rfl;subst bx;clear S;have ad:=(i.below.cell (p:=⟨X,0,none⟩) cC).trans cI;simp only [List.getElem?_cons_zero] at ad;obtain ⟨-,-,-,ae,af⟩:=qv i.box;simp only at ae af;have c6:=qd i.box;go_upto_region 33 with fail;refine rg (fun _=>True) trivial (fun d=> ?_);refine tk 0 ?_;refine tk 1 ?_;refine tk 2 ?_;refine tk 3 ?_;refine tk 5 ?_;refine tk 9 ?_;refine rd2 4 6 (fun b a=> ?_) (fun b a=> ?_)
       ·skip
        go_simp;refine a _ _ trivial (fun d=>nx ?_);clear a b;refine rd1 6 (fun b a=> ?_)
        (go_simp;go_at_call 69;refine (zs (.slice bM 0 bN) [] _ (Arr.of_owns (Below.owns bY (i.below.trans ((i.later (Below.refl _ _).drew).below |> fun _=>(Below.refl G.heap.size G).drew.mono i.below.size)))) (by decide)).mono ?_;rintro I x ⟨aK,rfl,p,y⟩;obtain ⟨J,K,rfl,-,-⟩:=qg p;have g:=i.later ((Below.refl G.heap.size G).drew.trans y);have O:=trivial;have T:=(qv g.box).2.2;have U:=qd g.box;have q:=Z g;have L:=Z p;have M:h+1≤x.heap.size:=U;have N:=Z (World.ownsRow_nil x (h+1) 24 1);obtain ⟨aL,aM,aN⟩:=T;clear g p y;(try dsimp only))
        refine a _ _ trivial (fun d=>nx ?_);clear a b;refine rd1 7 (fun b a=> ?_);go_simp;refine a _ _ trivial (fun d=>nx ?_);clear a b;refine rd1 8 (fun b a=> ?_)
        (refine yU (by rfl) _ _ 27 (by rfl) 24 _ 1 24 underlying27 Qn rfl (by decide) #[.slice J 0 K] 0 (h+1) (.slice none 0 0) [] N (by rfl) (by rfl) rfl (by simp [Value.oneCell']) M (by omega) (by unfold maxLen;omega) ?_;intro z A am e f;have c:=q.later (yK f);have C:=trivial;have D:=(qv c.box).2.2;have an:=c.free 14;have l:=Z c;have ao:=Z e;have E:=Z (zaC (B:=w.heap.size) (by have:=q.lt;omega) e (qk L (show w.heap.size≤_ from i.below.size)) (yK f));obtain ⟨ap,aq,ar⟩:=D;clear c e f;(try dsimp only))
        refine a _ _ trivial (fun d=>nx ?_);clear a b;refine tk 10 ?_;refine rd1 11 (fun b a=> ?_);go_simp;refine a _ _ trivial (fun d=>nx ?_);clear a b;refine dn ?_;clear ae af ad;go_wp2_with fail;go_roundg 0
        case measure=>omega
        case rel=>exact ⟨1,_,by omega,rfl,by go_num,fun j=>absurd j (by decide),Z (l.set (p':=plS 3) (v':=⟨.slice n exL.length o,.slice r 4 s,.slice P 1 Q,.slice (some ⟨z,0,none⟩) 1 A,.slice none 0 0⟩) 14 _ rfl (l.own.sh2 E))⟩
       ·skip
        (go_simp;go_at_call 69;refine (zs (.slice bM 0 bN) [] _ (Arr.of_owns (Below.owns bY (i.below.trans ((i.later (Below.refl _ _).drew).below |> fun _=>(Below.refl G.heap.size G).drew.mono i.below.size)))) (by decide)).mono ?_;rintro I x ⟨aK,rfl,p,y⟩;obtain ⟨J,K,rfl,-,-⟩:=qg p;have g:=i.later ((Below.refl G.heap.size G).drew.trans y);have O:=trivial;have T:=(qv g.box).2.2;have U:=qd g.box;have q:=Z g;have L:=Z p;have M:h+1≤x.heap.size:=U;have N:=Z (World.ownsRow_nil x (h+1) 24 1);obtain ⟨aL,aM,aN⟩:=T;clear g p y;(try dsimp only))
        refine a _ _ trivial (fun d=>nx ?_);clear a b;refine rd2 4 7 (fun b a=> ?_) (fun b a=> ?_)
        ·skip
         go_simp;refine a _ _ trivial (fun d=>nx ?_);clear a b;refine rd1 7 (fun b a=> ?_);go_simp;refine a _ _ trivial (fun d=>nx ?_);clear a b;refine rd1 8 (fun b a=> ?_)
         (refine yU (by rfl) _ _ 27 (by rfl) 24 _ 1 24 underlying27 Qn rfl (by decide) #[.slice J 0 K] 0 (h+1) (.slice none 0 0) [] N (by rfl) (by rfl) rfl (by simp [Value.oneCell']) M (by omega) (by unfold maxLen;omega) ?_;intro z A am e f;have c:=q.later (yK f);have C:=trivial;have D:=(qv c.box).2.2;have an:=c.free 14;have l:=Z c;have ao:=Z e;have E:=Z (zaC (B:=w.heap.size) (by have:=q.lt;omega) e (qk L (show w.heap.size≤_ from i.below.size)) (yK f));obtain ⟨ap,aq,ar⟩:=D;clear c e f;(try dsimp only))
         refine a _ _ trivial (fun d=>nx ?_);clear a b;refine tk 10 ?_;refine rd1 11 (fun b a=> ?_);go_simp;refine a _ _ trivial (fun d=>nx ?_);clear a b;refine dn ?_;clear ae af ad;go_wp2_with fail;go_roundg 0
         case measure=>omega
         case rel=>exact ⟨1,_,by omega,rfl,by go_num,fun j=>absurd j (by decide),Z (l.set (p':=plS 3) (v':=⟨.slice n exL.length o,.slice r 4 s,.slice P 1 Q,.slice (some ⟨z,0,none⟩) 1 A,.slice none 0 0⟩) 14 _ rfl (l.own.sh2 E))⟩
        ·skip
         go_simp;refine a _ _ trivial (fun d=>nx ?_);clear a b;refine rd1 4 (fun b a=> ?_);go_simp;refine a _ _ trivial (fun d=>nx ?_);clear a b;refine rd1 8 (fun b a=> ?_)
         (refine yU (by rfl) _ _ 27 (by rfl) 24 _ 1 24 underlying27 Qn rfl (by decide) #[.slice J 0 K] 0 (h+1) (.slice none 0 0) [] N (by rfl) (by rfl) rfl (by simp [Value.oneCell']) M (by omega) (by unfold maxLen;omega) ?_;intro z A am e f;have c:=q.later (yK f);have C:=trivial;have D:=(qv c.box).2.2;have an:=c.free 14;have l:=Z c;have ao:=Z e;have E:=Z (zaC (B:=w.heap.size) (by have:=q.lt;omega) e (qk L (show w.heap.size≤_ from i.below.size)) (yK f));obtain ⟨ap,aq,ar⟩:=D;clear c e f;(try dsimp only))
         refine a _ _ trivial (fun d=>nx ?_);clear a b;refine tk 10 ?_;refine rd1 11 (fun b a=> ?_);go_simp;refine a _ _ trivial (fun d=>nx ?_);clear a b;refine dn ?_;clear ae af ad;go_wp2_with fail;go_roundg 0
         case measure=>omega
         case rel=>exact ⟨1,_,by omega,rfl,by go_num,fun j=>absurd j (by decide),Z (l.set (p':=plS 3) (v':=⟨.slice n exL.length o,.slice r 4 s,.slice P 1 Q,.slice (some ⟨z,0,none⟩) 1 A,.slice none 0 0⟩) 14 _ rfl (l.own.sh2 E))⟩
      ·obtain rfl:F=1:=by omega
       clear S aO;go_wp2_with fail;go_roundg 1
       case measure=>omega
       case rel=>exact ⟨1,_,_,by omega,rfl,by go_num,fun j=>absurd j (by decide),fun _=>rfl,i⟩
    ·by_cases cs:aa=1
     ·subst cs
      have bv:=m (by omega);subst bv;obtain ⟨ag,ah,ay⟩:=H.own.in0.form;simp only at ay;rw [show (plS (1+2)).in0.length=1 from rfl] at ay;subst ay;clear aX m;rw [show ((1:Nat):Int)=1 from rfl];go_wp2_with fail;go_loopg [106] 1 (fun au bw wr=>∃(F:Nat) (R:Value),F≤1∧au=1-F∧bw= .int .i64 F∧(F=0→R= .slice none 0 0)∧Hid (MkSt w h (.slice (some ⟨u,0,none⟩) 3 V) (.slice (some ⟨W,0,none⟩) 1 aj) (.slice (some ⟨X,0,none⟩) 1 ab) (.slice (some ⟨Y,0,none⟩) 1 ac) (plS (F+3)) ⟨.slice n exL.length o,.slice r 4 s,.slice P 1 Q,.slice ag 1 ah,R⟩ wr))
      case atStart=>exact ⟨0,_,by omega,rfl,rfl,fun _=>rfl,H⟩
      case round=>
       obtain ⟨F,R,c4,c5,rfl,S,i⟩:=hrel;rename World=>G
       by_cases aO:F=0
       ·subst aO
        have bx:=S rfl;subst bx;clear S;have ad:=(i.below.cell (p:=⟨Y,0,none⟩) cF).trans cJ;simp only [List.getElem?_cons_zero] at ad;obtain ⟨-,-,-,ae,af⟩:=qv i.box;simp only at ae af;have c6:=qd i.box;go_upto_region 33 with fail;refine rg (fun _=>True) trivial (fun d=> ?_);refine tk 0 ?_;refine tk 1 ?_;refine tk 2 ?_;refine tk 3 ?_;refine tk 5 ?_;refine tk 9 ?_;refine rd2 4 6 (fun b a=> ?_) (fun b a=> ?_)
        ·skip
         go_simp;refine a _ _ trivial (fun d=>nx ?_);clear a b;refine rd1 6 (fun b a=> ?_)
         (go_simp;go_at_call 69;refine (zs (.slice bR 0 bS) [] _ (Arr.of_owns (Below.owns bZ (i.below.trans ((i.later (Below.refl _ _).drew).below |> fun _=>(Below.refl G.heap.size G).drew.mono i.below.size)))) (by decide)).mono ?_;rintro I x ⟨aK,rfl,p,y⟩;obtain ⟨J,K,rfl,-,-⟩:=qg p;have g:=i.later ((Below.refl G.heap.size G).drew.trans y);have O:=trivial;have T:=(qv g.box).2.2;have U:=qd g.box;have q:=Z g;have L:=Z p;have M:h+1≤x.heap.size:=U;have N:=Z (World.ownsRow_nil x (h+1) 24 1);obtain ⟨aL,aM,aN⟩:=T;clear g p y;(try dsimp only))
         refine a _ _ trivial (fun d=>nx ?_);clear a b;refine rd1 7 (fun b a=> ?_);go_simp;refine a _ _ trivial (fun d=>nx ?_);clear a b;refine rd1 8 (fun b a=> ?_)
         (refine yU (by rfl) _ _ 27 (by rfl) 24 _ 1 24 underlying27 Qn rfl (by decide) #[.slice J 0 K] 0 (h+1) (.slice none 0 0) [] N (by rfl) (by rfl) rfl (by simp [Value.oneCell']) M (by omega) (by unfold maxLen;omega) ?_;intro z A am e f;have c:=q.later (yK f);have C:=trivial;have D:=(qv c.box).2.2;have an:=c.free 15;have l:=Z c;have ao:=Z e;have E:=Z (zaC (B:=w.heap.size) (by have:=q.lt;omega) e (qk L (show w.heap.size≤_ from i.below.size)) (yK f));obtain ⟨ap,aq,ar⟩:=D;clear c e f;(try dsimp only))
         refine a _ _ trivial (fun d=>nx ?_);clear a b;refine tk 10 ?_;refine rd1 11 (fun b a=> ?_);go_simp;refine a _ _ trivial (fun d=>nx ?_);clear a b;refine dn ?_;clear ae af ad;go_wp2_with fail;go_roundg 0
         case measure=>omega
         case rel=>exact ⟨1,_,by omega,rfl,by go_num,fun j=>absurd j (by decide),Z (l.set (p':=plS 4) (v':=⟨.slice n exL.length o,.slice r 4 s,.slice P 1 Q,.slice ag 1 ah,.slice (some ⟨z,0,none⟩) 1 A⟩) 15 _ rfl (l.own.sh3 E))⟩
        ·skip
         (go_simp;go_at_call 69;refine (zs (.slice bR 0 bS) [] _ (Arr.of_owns (Below.owns bZ (i.below.trans ((i.later (Below.refl _ _).drew).below |> fun _=>(Below.refl G.heap.size G).drew.mono i.below.size)))) (by decide)).mono ?_;rintro I x ⟨aK,rfl,p,y⟩;obtain ⟨J,K,rfl,-,-⟩:=qg p;have g:=i.later ((Below.refl G.heap.size G).drew.trans y);have O:=trivial;have T:=(qv g.box).2.2;have U:=qd g.box;have q:=Z g;have L:=Z p;have M:h+1≤x.heap.size:=U;have N:=Z (World.ownsRow_nil x (h+1) 24 1);obtain ⟨aL,aM,aN⟩:=T;clear g p y;(try dsimp only))
         refine a _ _ trivial (fun d=>nx ?_);clear a b;refine rd2 4 7 (fun b a=> ?_) (fun b a=> ?_)
         ·skip
          go_simp;refine a _ _ trivial (fun d=>nx ?_);clear a b;refine rd1 7 (fun b a=> ?_);go_simp;refine a _ _ trivial (fun d=>nx ?_);clear a b;refine rd1 8 (fun b a=> ?_)
          (refine yU (by rfl) _ _ 27 (by rfl) 24 _ 1 24 underlying27 Qn rfl (by decide) #[.slice J 0 K] 0 (h+1) (.slice none 0 0) [] N (by rfl) (by rfl) rfl (by simp [Value.oneCell']) M (by omega) (by unfold maxLen;omega) ?_;intro z A am e f;have c:=q.later (yK f);have C:=trivial;have D:=(qv c.box).2.2;have an:=c.free 15;have l:=Z c;have ao:=Z e;have E:=Z (zaC (B:=w.heap.size) (by have:=q.lt;omega) e (qk L (show w.heap.size≤_ from i.below.size)) (yK f));obtain ⟨ap,aq,ar⟩:=D;clear c e f;(try dsimp only))
          refine a _ _ trivial (fun d=>nx ?_);clear a b;refine tk 10 ?_;refine rd1 11 (fun b a=> ?_);go_simp;refine a _ _ trivial (fun d=>nx ?_);clear a b;refine dn ?_;clear ae af ad;go_wp2_with fail;go_roundg 0
          case measure=>omega
          case rel=>exact ⟨1,_,by omega,rfl,by go_num,fun j=>absurd j (by decide),Z (l.set (p':=plS 4) (v':=⟨.slice n exL.length o,.slice r 4 s,.slice P 1 Q,.slice ag 1 ah,.slice (some ⟨z,0,none⟩) 1 A⟩) 15 _ rfl (l.own.sh3 E))⟩
         ·skip
          go_simp;refine a _ _ trivial (fun d=>nx ?_);clear a b;refine rd1 4 (fun b a=> ?_);go_simp;refine a _ _ trivial (fun d=>nx ?_);clear a b;refine rd1 8 (fun b a=> ?_)
          (refine yU (by rfl) _ _ 27 (by rfl) 24 _ 1 24 underlying27 Qn rfl (by decide) #[.slice J 0 K] 0 (h+1) (.slice none 0 0) [] N (by rfl) (by rfl) rfl (by simp [Value.oneCell']) M (by omega) (by unfold maxLen;omega) ?_;intro z A am e f;have c:=q.later (yK f);have C:=trivial;have D:=(qv c.box).2.2;have an:=c.free 15;have l:=Z c;have ao:=Z e;have E:=Z (zaC (B:=w.heap.size) (by have:=q.lt;omega) e (qk L (show w.heap.size≤_ from i.below.size)) (yK f));obtain ⟨ap,aq,ar⟩:=D;clear c e f;(try dsimp only))
          refine a _ _ trivial (fun d=>nx ?_);clear a b;refine tk 10 ?_;refine rd1 11 (fun b a=> ?_);go_simp;refine a _ _ trivial (fun d=>nx ?_);clear a b;refine dn ?_;clear ae af ad;go_wp2_with fail;go_roundg 0
          case measure=>omega
          case rel=>exact ⟨1,_,by omega,rfl,by go_num,fun j=>absurd j (by decide),Z (l.set (p':=plS 4) (v':=⟨.slice n exL.length o,.slice r 4 s,.slice P 1 Q,.slice ag 1 ah,.slice (some ⟨z,0,none⟩) 1 A⟩) 15 _ rfl (l.own.sh3 E))⟩
       ·obtain rfl:F=1:=by omega
        clear S aO;go_wp2_with fail;go_roundg 0
        case measure=>omega
        case rel=>exact ⟨2,_,_,by omega,rfl,by go_num,fun j=>absurd j (by decide),fun j=>absurd j (by decide),i⟩
     ·obtain rfl:aa=2:=by omega
      clear aX m cr cs v k1 k2 k3;obtain ⟨ag,ah,ay⟩:=H.own.in0.form;obtain ⟨aY,aZ,ct⟩:=H.own.in1.form;simp only at ay ct;subst ay ct;rw [show (plS (2+2)).in0.length=1 from rfl,show (plS (2+2)).in1.length=1 from rfl] at H;go_wp2_with (first | ((with_reducible show wpList _ _ _ (⟨some 123,Op.load 30 _,_,_,_,_⟩::_) _ _);go_must (refine wpList_load_row rfl 30 _ rfl h rfl _ (qn (plS 4) ⟨.slice n exL.length o,.slice r 4 s,.slice P 1 Q,.slice ag 1 ah,.slice aY 1 aZ⟩) _ _ H.box underlying30 rfl yQ ?_)) | ((with_reducible show wpList _ _ _ (⟨_,Op.store 30 (.tmp 4) _,_,_,_,_⟩::_) _ _);go_must (refine wpList_store_row rfl 30 _ _ rfl (w.heap.size+1) (qn (plS 4) ⟨.slice n exL.length o,.slice r 4 s,.slice P 1 Q,.slice ag 1 ah,.slice aY 1 aZ⟩) rfl rfl 30 _ H.res yQ rfl (by simp [Value.oneCell',qn]) ?_)));refine bodyPost_ret (ql rfl _ _ (w.heap.size+1) 30 (qn (plS 4) ⟨.slice n exL.length o,.slice r 4 s,.slice P 1 Q,.slice ag 1 ah,.slice aY 1 aZ⟩) _ _ rfl (setRow_heap _ _ _ _ _ _ H.res) underlying30 rfl yQ) rfl ?_;exact ⟨⟨.slice n exL.length o,.slice r 4 s,.slice P 1 Q,.slice ag 1 ah,.slice aY 1 aZ⟩,rfl,H.own.kept (YE _ _ _) (Off.block H.res (by decide)) (Off.block H.res (by decide)) (Off.block H.res (by decide)),below_setRow H.below (Nat.le_succ _) _⟩
end Go.Proofs.YtklofgfkaaoipaaGreatDoor
namespace Go.Proofs.YtklofgfkaaoipaaGreatDoor
open Go.Proofs.Tryz
variable {ops:List MOp}{o:MOp}{m:List Int}{s:MostSt}{y:Int}
theorem zcy (e f:Int):∀(b:List MOp) (g:List Int),yb e f b g=true→∀(a:Nat) (c:a<b.length),∃h,qJ e f h b[a]=true
 |[],_,_,a,c=>by simp at c
 |j::b,g,d,a,c=>by
  rw [yb] at d
  split at d
  ·rename_i i
   cases a with
   |zero=>exact ⟨g,i⟩
   |succ a=>exact zcy e f b _ d a (by simpa using c)
  ·cases d
theorem zhq (a:qK ops 65536 65536=true)(j:Nat)(b:j<ops.length):∃c,qJ 65536 65536 c ops[j]=true:=by
 rw [←zeW] at a;simp only [Qr,Bool.and_eq_true] at a;exact zcy _ _ _ _ a.2 j b
theorem zfe (l:List MOp)(a:Ql l=0):YN l=true:=by unfold YN;rw [a];rfl
theorem zhi (y:qJ 65536 65536 m o=true)(E:yP o=true):qK (yO o) 65536 65536=true:=by
 rw [←zeW];have q:qJ 65536 65536 [] opC=true:=by decide
 have r:qJ 65536 65536 [3] opC=true:=by decide
 have l:∀t:Int,t=1∨t=2→qG [3,3] 0 t=true∧qG [3,3] 1 t=true:=by rintro t (rfl | rfl)<;>decide
 obtain ⟨s,f,g,c,a,b⟩:=o;have F:s=1∨s=6∨s=9∨s=17∨s=18∨s=19:=by
  simp only [yP,Bool.or_eq_true,beq_iff_eq] at E;omega
 simp only [qJ,Bool.and_eq_true,decide_eq_true_eq] at y;obtain ⟨⟨⟨z,v⟩,n⟩,p⟩:=y;rcases F with rfl | rfl | rfl | rfl | rfl | rfl
 ·have e:yO ⟨1,f,g,c,a,b⟩=[⟨1,f,g,c,a,b⟩]:=rfl
  have d:qE ⟨1,f,g,c,a,b⟩=(0,0,1,1):=rfl;rw [e];rw [d] at v n;simp only [qG,if_true] at v n;simp [Qr,yb,qJ,d,qG,v,n,p,zfe,Ql,qI]
 ·have e:yO ⟨6,f,g,c,a,b⟩=[opC,opC,⟨6,0,1,c,a,b⟩]:=rfl
  have d:qE ⟨6,0,1,c,a,b⟩=(1,1,1,1):=rfl;have h:qi ⟨6,0,1,c,a,b⟩ 65536 65536=true:=p;rw [e];have i:qJ 65536 65536 [3,3] ⟨6,0,1,c,a,b⟩=true:=by simp only [qJ,d,(l 1 (.inl rfl)).1,(l 1 (.inl rfl)).2,h];rfl
  have j:YN [opC,opC,⟨6,0,1,c,a,b⟩]=true:=zfe _ rfl;have k:yb 65536 65536 [opC,opC,⟨6,0,1,c,a,b⟩] []=true:=by
   rw [yb,if_pos q,yb,if_pos (show qJ 65536 65536 ([]++[(qE opC).2.2.1]) opC=true from r),yb,if_pos (show qJ 65536 65536 (([]++[(qE opC).2.2.1])++[(qE opC).2.2.1]) _=true from i)];rfl
  simp [Qr,j,k]
 ·have e:yO ⟨9,f,g,c,a,b⟩=[opC,opC,⟨9,0,1,c,a,b⟩]:=rfl
  have d:qE ⟨9,0,1,c,a,b⟩=(2,2,2,1):=rfl;have h:qi ⟨9,0,1,c,a,b⟩ 65536 65536=true:=p;rw [e];have i:qJ 65536 65536 [3,3] ⟨9,0,1,c,a,b⟩=true:=by simp only [qJ,d,(l 2 (.inr rfl)).1,(l 2 (.inr rfl)).2,h];rfl
  have j:YN [opC,opC,⟨9,0,1,c,a,b⟩]=true:=zfe _ rfl;have k:yb 65536 65536 [opC,opC,⟨9,0,1,c,a,b⟩] []=true:=by
   rw [yb,if_pos q,yb,if_pos (show qJ 65536 65536 ([]++[(qE opC).2.2.1]) opC=true from r),yb,if_pos (show qJ 65536 65536 (([]++[(qE opC).2.2.1])++[(qE opC).2.2.1]) _=true from i)];rfl
  simp [Qr,j,k]
 ·by_cases A:yN c a=true
  ·have B:(1+(a:Int)%2)=1∨(1+(a:Int)%2)=2:=by omega
   have G:(1+(a:Int) / 2%2)=1∨(1+(a:Int) / 2%2)=2:=by omega
   have w:∀C D,qE ⟨17,C,D,c,a,b⟩=zg1 c a:=fun C D=>by simp [qE,A]
   rw [w] at n
   by_cases x:c=1
   ·subst x
    have u:g=0:=by simpa [zg1,qG] using n
    subst u;have e:yO ⟨17,f,0,1,a,b⟩=[opC,opC,⟨17,0,0,1,a,b⟩]:=rfl;have h:qi ⟨17,0,0,1,a,b⟩ 65536 65536=true:=p;rw [e];have i:qJ 65536 65536 [3,3] ⟨17,0,0,1,a,b⟩=true:=by
     simp only [qJ,w,zg1,if_true,(l _ B).1,h];rfl
    have j:YN [opC,opC,⟨17,0,0,1,a,b⟩]=true:=zfe _ rfl;have k:yb 65536 65536 [opC,opC,⟨17,0,0,1,a,b⟩] []=true:=by
     rw [yb,if_pos q,yb,if_pos (show qJ 65536 65536 ([]++[(qE opC).2.2.1]) opC=true from r),yb,if_pos (show qJ 65536 65536 (([]++[(qE opC).2.2.1])++[(qE opC).2.2.1]) _=true from i)];rfl
    simp [Qr,j,k]
   ·have e:yO ⟨17,f,g,c,a,b⟩=[opC,opC,⟨17,0,1,c,a,b⟩]:=by simp [yO,yP,QY,x]
    have h:qi ⟨17,0,1,c,a,b⟩ 65536 65536=true:=p;rw [e];have i:qJ 65536 65536 [3,3] ⟨17,0,1,c,a,b⟩=true:=by
     simp only [qJ,w,zg1,if_neg x,(l _ B).1,(l _ G).2,h];rfl
    have j:YN [opC,opC,⟨17,0,1,c,a,b⟩]=true:=zfe _ rfl;have k:yb 65536 65536 [opC,opC,⟨17,0,1,c,a,b⟩] []=true:=by
     rw [yb,if_pos q,yb,if_pos (show qJ 65536 65536 ([]++[(qE opC).2.2.1]) opC=true from r),yb,if_pos (show qJ 65536 65536 (([]++[(qE opC).2.2.1])++[(qE opC).2.2.1]) _=true from i)];rfl
    simp [Qr,j,k]
  ·exfalso
   have d:qE ⟨17,f,g,c,a,b⟩=(0,0,0,-1):=by simp [qE,A]
   rw [d] at z;simp at z
 ·have u:g=0:=by
   have d:qE ⟨18,f,g,c,a,b⟩=(1,0,0,1):=rfl;rw [d] at n;simpa [qG] using n
  subst u;have e:yO ⟨18,f,0,c,a,b⟩=[opC,opC,⟨18,0,0,0,a,b⟩]:=rfl;have d:qE ⟨18,0,0,0,a,b⟩=(1,0,0,1):=rfl;have h:qi ⟨18,0,0,0,a,b⟩ 65536 65536=true:=by simp [qi] at p ⊢;exact p
  rw [e];have i:qJ 65536 65536 [3,3] ⟨18,0,0,0,a,b⟩=true:=by simp only [qJ,d,(l 1 (.inl rfl)).1,h];rfl
  have j:YN [opC,opC,⟨18,0,0,0,a,b⟩]=true:=rfl;have k:yb 65536 65536 [opC,opC,⟨18,0,0,0,a,b⟩] []=true:=by
   rw [yb,if_pos q,yb,if_pos (show qJ 65536 65536 ([]++[(qE opC).2.2.1]) opC=true from r),yb,if_pos (show qJ 65536 65536 (([]++[(qE opC).2.2.1])++[(qE opC).2.2.1]) _=true from i)];rfl
  simp [Qr,j,k]
 ·have u:g=0:=by
   have d:qE ⟨19,f,g,c,a,b⟩=(2,0,0,1):=rfl;rw [d] at n;simpa [qG] using n
  subst u;have e:yO ⟨19,f,0,c,a,b⟩=[opC,opC,⟨19,0,0,0,a,b⟩]:=rfl;have d:qE ⟨19,0,0,0,a,b⟩=(2,0,0,1):=rfl;have h:qi ⟨19,0,0,0,a,b⟩ 65536 65536=true:=by simp [qi] at p ⊢;exact p
  rw [e];have i:qJ 65536 65536 [3,3] ⟨19,0,0,0,a,b⟩=true:=by simp only [qJ,d,(l 2 (.inr rfl)).1,h];rfl
  have j:YN [opC,opC,⟨19,0,0,0,a,b⟩]=true:=rfl;have k:yb 65536 65536 [opC,opC,⟨19,0,0,0,a,b⟩] []=true:=by
   rw [yb,if_pos q,yb,if_pos (show qJ 65536 65536 ([]++[(qE opC).2.2.1]) opC=true from r),yb,if_pos (show qJ 65536 65536 (([]++[(qE opC).2.2.1])++[(qE opC).2.2.1]) _=true from i)];rfl
  simp [Qr,j,k]
def wd0 (o:MOp):Int:=if o.kind=17 then 2 * (192 * yj o.k+2 * (zcJ o.k o.c:Nat)) else if o.kind=1 then (if o.party=0 then 1 else 0) else if o.kind=6∨o.kind=9 then 2 else if o.kind=18∨o.kind=19 then 1 else 0
def wd1 (o:MOp):Int:=if o.kind=17 then yj o.k else if o.kind=1 then (if o.party=0 then 0 else 1) else if o.kind=6∨o.kind=9 then 2 else if o.kind=18∨o.kind=19 then 1 else 0
theorem zlT (o:MOp)(y r:Int)(s:Int×Int):yx o y r s=(s.1+(if y=r then wd0 o else 0),s.2+(if zg o y=r then wd1 o else 0)):=by
 obtain ⟨e,f⟩:=s;unfold yx wd0 wd1 zg
 by_cases b:o.kind=17
 ·simp only [if_pos b]
  by_cases c:y=r+1
  ·rw [if_pos c,if_neg (by omega),if_pos (by omega)];simp
  ·rw [if_neg c]
   by_cases a:y=r
   ·rw [if_pos a,if_pos a,if_neg (by omega)];simp
   ·rw [if_neg a,if_neg a,if_neg (by omega)];simp
 ·simp only [if_neg b]
  by_cases a:y=r
  ·rw [if_neg (fun d=>d a),if_pos a,if_pos a]
   repeat' split
   all_goals simp
  ·rw [if_pos a,if_neg a,if_neg a];simp
theorem zgi (o:MOp):(QY o).kind=o.kind:=by
 unfold QY
 repeat' split
 all_goals rfl
theorem zmK (x y z:MOp)(n:MNeed):zi [x,y,z] n=qU (qU (qU n x) y) z:=rfl
theorem ziz (n:MNeed):qU n opC=n:=by unfold qU opC;simp
theorem zps (b:Prop)[Decidable b](n:MNeed)(z:Int):(if b then {n with t0:=z} else n).w0=n.w0∧(if b then {n with t0:=z} else n).w1=n.w1:=by split<;>exact ⟨rfl,rfl⟩
theorem zaP (c:qJ 65536 65536 m o=true):(zy (yO o)).w0=wd0 o∧(zy (yO o)).w1=wd1 o:=by
 by_cases d:yP o=true
 ·have p:=zhi c d
  have l:o.kind=1∨o.kind=6∨o.kind=9∨o.kind=17∨o.kind=18∨o.kind=19:=by
   simp only [yP,Bool.or_eq_true,beq_iff_eq] at d;omega
  have e:∀b,qK b 65536 65536=true→(zy b).w0=(zi b {yG with rounds:=zG (qw b)}).w0∧(zy b).w1=(zi b {yG with rounds:=zG (qw b)}).w1:=by
   intro b q;unfold zy;rw [if_pos q];exact zps _ _ _
  obtain ⟨r,s⟩:=e _ p;rw [r,s];generalize zG (qw (yO o))=w
  by_cases h:o.kind=1
  ·have f:yO o=[o]:=by unfold yO;rw [if_neg (by simp [d]),if_pos h]
   rw [f];have i:o.party=0∨o.party=1:=by
    simp only [qJ,Bool.and_eq_true] at c;have e:=c.2;unfold qi at e
    split at e
    ·cases e
    ·omega
   rcases i with i | i<;>simp [zi,qU,h,i,wd0,wd1,yG]
  ·have f:yO o=[opC,opC,QY o]:=by unfold yO;rw [if_neg (by simp [d]),if_neg h]
   rw [f,zmK,ziz,ziz];have g:=zgi o
   by_cases j:o.kind=17
   ·have k:(QY o).k=o.k∧(QY o).c=o.c:=by
     unfold QY;rw [if_neg (by omega)]
     split<;>exact ⟨rfl,rfl⟩
    have t:yN (QY o).k (QY o).c=true:=by
     rw [k.1,k.2];refine Classical.byContradiction fun u=> ?_
     have v:qE o=(0,0,0,-1):=by simp [qE,j,u]
     simp only [qJ,Bool.and_eq_true,decide_eq_true_eq] at c;have:=c.1.1.1;rw [v] at this;simp at this
    rw [za3 _ _ (by rw [g,j]),zdw _ t,k.1,k.2];simp [wd0,wd1,j,yG]
   ·rcases l with a | a | a | a | a | a
    ·exact absurd a h
    ·rw [zb4 _ _ (by rw [g,a])];simp [wd0,wd1,a,yG]
    ·rw [zb5 _ _ (by rw [g,a])];simp [wd0,wd1,a,yG]
    ·exact absurd a j
    ·rw [Q4 _ _ (by rw [g];exact .inl a)];simp [wd0,wd1,a,yG]
    ·rw [Q4 _ _ (by rw [g];exact .inr a)];simp [wd0,wd1,a,yG]
 ·have n:yP o=false:=by simpa using d
  have f:yO o=[]:=by unfold yO;rw [if_pos n]
  have l:o.kind≠1∧o.kind≠6∧o.kind≠9∧o.kind≠17∧o.kind≠18∧o.kind≠19:=by
   simp only [yP,Bool.or_eq_false_iff,beq_eq_false_iff_ne] at n;omega
  rw [f];have:zy []=yG:=by rfl
  rw [this];simp [wd0,wd1,l,yG]
theorem zpP (o:MOp):0≤wd0 o∧0≤wd1 o:=by
 have:=Zd o.k;unfold wd0 wd1
 constructor
 ·repeat' split
  all_goals omega
 ·repeat' split
  all_goals omega
theorem znU (a:yP o=false):wd0 o=0∧wd1 o=0:=by
 have b:o.kind≠1∧o.kind≠6∧o.kind≠9∧o.kind≠17∧o.kind≠18∧o.kind≠19:=by
  simp only [yP,Bool.or_eq_false_iff,beq_eq_false_iff_ne] at a;omega
 simp [wd0,wd1,b]
structure OInv (M:Nat)(s:MostSt):Prop where
 le:∀r,0≤s.s0 r∧s.s0 r≤s.ou∧0≤s.s1 r∧s.s1 r≤s.ou
 got:s.ou=0∨∃r:Nat,r≤M∧(s.ou≤s.s0 r∨s.ou≤s.s1 r)
theorem zky (d:Nat)(f g:Int→Int)(c w z b:Int)(p:0≤w)(j:0≤z∧z≤d)(h:∀a,0≤f a∧f a≤c∧0≤g a∧g a≤c)(k:c=0∨∃a:Nat,a≤d∧(c≤f a∨c≤g a))(e:b=max c (f z+w)):
  (∀a,0≤upd f z (f z+w) a∧upd f z (f z+w) a≤b∧0≤g a∧g a≤b)∧(b=0∨∃a:Nat,a≤d∧(b≤upd f z (f z+w) a∨b≤g a)):=by
 have l:c≤b∧f z+w≤b∧(b=c∨b=f z+w):=by omega
 clear e;have q:=h z;obtain ⟨m,rfl⟩:=Int.eq_ofNat_of_zero_le j.1;refine ⟨fun a=> ?_,?_⟩
 ·have:=h a
  unfold upd
  split<;>omega
 ·rcases l.2.2 with e | e
  ·rcases k with i | ⟨a,n,i⟩
   ·exact .inl (by omega)
   ·refine .inr ⟨a,n,?_⟩
    unfold upd
    split
    ·rename_i o;rw [o] at i ⊢;omega
    ·omega
  ·refine .inr ⟨m,by omega,.inl ?_⟩
   unfold upd;rw [if_pos rfl];omega
theorem ziD (f:Int→Int)(z:Int):upd f z (f z+0)=f:=by
 funext b
 unfold upd
 split
 ·rename_i a;rw [a];omega
 ·rfl
theorem zgJ {a:Nat}(p:OInv a s)(q:qJ 65536 65536 m o=true)(r:0≤y∧y≤a)(t:o.kind=17→1≤y):OInv a (yZ o y s):=by
 obtain ⟨u,v⟩:=zaP q;obtain ⟨w,x⟩:=zpP o;have l:0≤zg o y∧zg o y≤a:=by
  unfold zg
  split
  ·rename_i z;have:=t z;omega
  ·omega
 have n:OInv a (QF o y s):=by
  obtain ⟨d,e⟩:=p;unfold QF;rw [u]
  by_cases f:yP o=true
  ·simp only [f,if_true]
   obtain ⟨h,i⟩:=zky a s.s0 s.s1 s.ou (wd0 o) y _ w r d e rfl;exact ⟨h,i⟩
  ·have g:yP o=false:=by simpa using f
   rw [(znU g).1,ziD];simp only [g,Bool.false_eq_true,if_false];exact ⟨d,e⟩
 unfold yZ;generalize QF o y s=j at n ⊢;generalize zg o y=A at l ⊢;obtain ⟨d,e⟩:=n;unfold Yv;rw [v]
 by_cases f:yP o=true
 ·simp only [f,if_true]
  obtain ⟨h,i⟩:=zky a j.s1 j.s0 j.ou (wd1 o) A _ x l (fun b=>by have:=d b;omega) (by
   rcases e with c | ⟨b,k,c⟩
   ·exact .inl c
   ·exact .inr ⟨b,k,c.symm⟩) rfl
  refine ⟨fun b=>by have:=h b;dsimp only;omega,?_⟩;rcases i with c | ⟨b,k,c⟩
  ·exact .inl c
  ·exact .inr ⟨b,k,c.symm⟩
 ·have g:yP o=false:=by simpa using f
  rw [(znU g).2,ziD];simp only [g,Bool.false_eq_true,if_false];exact ⟨d,e⟩
theorem zgK (b:qJ 65536 65536 m o=true)(r:Int):yx o y r (s.s0 r,s.s1 r)=((yZ o y s).s0 r,(yZ o y s).s1 r):=by
 obtain ⟨c,d⟩:=zaP b;rw [zlT];simp only [yZ,Yv,QF,c,d,upd]
 congr 1
 ·by_cases a:y=r
  ·rw [if_pos a,if_pos a.symm,a]
  ·rw [if_neg a,if_neg (Ne.symm a)];omega
 ·by_cases a:zg o y=r
  ·rw [if_pos a,if_pos a.symm,a]
  ·rw [if_neg a,if_neg (Ne.symm a)];omega
theorem zeH (i:Nat):∀(c:List MOp) (d:List Int) (a:MostSt),(∀(e:Nat) (g:e<c.length),∃m,qJ 65536 65536 m c[e]=true)→(∀f∈d,0≤f∧f≤i)→(∀(e:Nat) (g:e<c.length),c[e].kind=17→1≤d.getD e 1)→OInv i a→
  OInv i (Qk c d a)∧∀b,zal c d b (a.s0 b,a.s1 b)=((Qk c d a).s0 b,(Qk c d a).s1 b)
 |[],d,a,_,_,_,g=>by
  have j:Qk [] d a=a:=by cases d<;>rfl
  rw [j];exact ⟨g,fun b=>zf5 _ _ _⟩
 |h::c, [],a,_,_,_,g=>⟨g,fun b=>rfl⟩
 |h::c,f::d,a,n,o,p,g=>by
  obtain ⟨m,q⟩:=n 0 (by simp);have r:=zgJ g q (o f (by simp)) (fun k=>p 0 (by simp) k);obtain ⟨s,t⟩:=zeH i c d (yZ h f a) (fun e l=>n (e+1) (by simpa using l)) (fun u v=>o u (by simp [v])) (fun e l k=>by simpa using p (e+1) (by simpa using l) k) r;refine ⟨s,fun b=> ?_⟩;rw [zal];have j:yx h f b (a.s0 b,a.s1 b)=((yZ h f a).s0 b,(yZ h f a).s1 b):=zgK q b;rw [j];exact t b
theorem zdN:∀(c:List MOp) (a:List Int) (f:Nat),zaM (f:Int) a→∀(d:Nat) (g:d<c.length),(qq c[d] 65536 65536).1.rounds≤(yM c a).getD (a.length+d) 0
 |[],_,_,_,d,g=>by simp at g
 |b::c,a,f,h,d,g=>by
  rw [yM];have l:=zaN h (by omega) b (qq b 65536 65536).1;have m:=Zp b 65536 65536;have i:zaM ((f+2:Nat):Int) (a++[Qf a b (qq b 65536 65536).1+(qq b 65536 65536).1.rounds]):=h.snoc (by omega) (by omega) (by omega);cases d with
  |zero=>
   have j:∀(c:List MOp) (a:List Int) (e:Nat),e<a.length→(yM c a).getD e 0=a.getD e 0:=by
    intro c
    induction c with
    |nil=>intro a e _;rfl
    |cons n c ih=>
     intro a e k;rw [yM,ih _ _ (by simp;omega)];simp only [List.getD];rw [List.getElem?_append_left k]
   rw [Nat.add_zero,j _ _ _ (by simp)];simp only [List.getElem_cons_zero];have:(a++[Qf a b (qq b 65536 65536).1+(qq b 65536 65536).1.rounds]).getD a.length 0=Qf a b (qq b 65536 65536).1+(qq b 65536 65536).1.rounds:=by
    simp only [List.getD];rw [List.getElem?_append_right (Nat.le_refl _),Nat.sub_self];rfl
   rw [this];omega
  |succ d=>
   have:=zdN c _ (f+2) i d (by simpa using g);simp only [List.length_append,List.length_cons,List.length_nil,List.getElem_cons_succ] at this ⊢;rw [show a.length+(d+1)=a.length+(0+1)+d by omega];exact this
theorem ziy {l:List Int}(b:QJ l=true)(j:Nat)(d:j<l.length):l.getD j 0≤l.getD (l.length-1) 0:=by
 have c:=(Yt l).1 b;obtain ⟨a,e⟩:∃a,l.length-1-j=a:=⟨_,rfl⟩
 induction a generalizing j with
 |zero=>rw [show j=l.length-1 by omega];exact Int.le_refl _
 |succ a ih=>exact Int.le_trans (c j (by omega)) (ih (j+1) (by omega) (by omega))
theorem zfQ (ops:List MOp)(c:List Int):∀(b a:Nat),a<b→(zak ops c a).1≤Yb ops c b∧(zak ops c a).2≤Yb ops c b
 |0,a,d=>by omega
 |b+1,a,d=>by
  simp only [Yb]
  by_cases e:a=b
  ·subst e;omega
  ·have:=zfQ ops c b a (by omega);omega
theorem zfR (ops:List MOp)(a:List Int)(B:Int)(c:0≤B)(d:∀e:Nat,(zak ops a e).1≤B∧(zak ops a e).2≤B):∀b,Yb ops a b≤B
 |0=>c
 |b+1=>by simp only [Yb];have:=zfR ops a B c d b;have:=d b;omega
theorem zm6 (e:qK ops 65536 65536=true)(o:QJ (qw ops)=true):zf2 ops (qw ops)=zbH ops:=by
 have j:=YF ops;have p:=QP ops;rw [if_pos e] at p;have z:=j.getD (by omega) ((qw ops).length-1);have q:((zbG (qw ops):Nat):Int)=(qw ops).getD ((qw ops).length-1) 0:=by unfold zbG;omega
 have f:∀g∈qw ops,0≤g∧g≤(zbG (qw ops):Nat):=by
  intro g f;refine ⟨(j g f).1,?_⟩;obtain ⟨a,c,rfl⟩:=List.mem_iff_getElem.1 f;have:=ziy o a c;rw [q];simpa [List.getD,c] using this
 have r:∀(a:Nat) (A:a<ops.length),ops[a].kind=17→1≤(qw ops).getD a 1:=by
  intro a c k;have l:=zQ e a c;have d:=zdN ops [] 0 (by intro B s;cases s) a c;have t:qw ops=yM ops []:=by unfold qw;rw [if_pos e]
  have u:=ZA l k;have v:(qq ops[a] 65536 65536).1.rounds=2:=by
   have m:¬((17:Int)=1):=by decide
   simp only [qq,k,if_true,if_neg m,ye,if_pos u]
  rw [v] at d;simp only [List.length_nil,Nat.zero_add] at d;rw [←t] at d;have w:a<(qw ops).length:=by omega
  simp only [List.getD,List.getElem?_eq_getElem w,Option.getD_some] at d ⊢;omega
 obtain ⟨h,x⟩:=zeH (zbG (qw ops)) ops (qw ops) ⟨fun _=>0,fun _=>0,0⟩ (fun a c=>zhq e a c) f r ⟨fun b=>⟨Int.le_refl _,Int.le_refl _,Int.le_refl _,Int.le_refl _⟩,.inl rfl⟩;have i:∀b:Int,zak ops (qw ops) b=((Qk ops (qw ops) ⟨fun _=>0,fun _=>0,0⟩).s0 b,(Qk ops (qw ops) ⟨fun _=>0,fun _=>0,0⟩).s1 b):=fun b=>x b
 unfold zbH zf2;generalize Qk ops (qw ops) ⟨fun _=>0,fun _=>0,0⟩=n at h i;have C:=zcz ops (qw ops) (zbG (qw ops)+1);have y:0≤n.ou:=by
  have:=za9 ops (qw ops) 0;unfold zU at this;rw [i] at this;have:=(h.le 0).2.1;omega
 have m:=zfR ops (qw ops) n.ou y (fun b=>by rw [i];have:=h.le b;exact ⟨this.2.1,this.2.2.2⟩) (zbG (qw ops)+1);rcases h.got with d | ⟨b,l,d⟩
 ·omega
 ·have:=zfQ ops (qw ops) (zbG (qw ops)+1) b (by omega)
  rw [i] at this;simp only at this;omega
end Go.Proofs.YtklofgfkaaoipaaGreatDoor

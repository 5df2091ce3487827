/-
  THE CONTRACT of dag.builder's let, without constants and shifts.
-/
import Derived.Test.YtklofgfkaaoipaaGreatDoorMDag2
import Derived.Test.YtklofgfkaaoipaaGreatDoorMChk7
import Derived.Test.YtklofgfkaaoipaaGreatDoorMTypePlain
import Derived.Test.YtklofgfkaaoipaaGreatDoorMDagPlain
import Derived.Test.YtklofgfkaaoipaaGreatDoorMGate
import Derived.Test.YtklofgfkaaoipaaGreatDoorMHd
set_option maxHeartbeats 16000000
set_option maxRecDepth 100000
set_option linter.unusedSimpArgs false
set_option linter.unusedVariables false
namespace Go.Proofs.YtklofgfkaaoipaaGreatDoor
open Go.RowKit Go.Proofs.Tryz
variable {A w:World}{g:Nat}{h D E F G H I:Value}{t:TypeId}
theorem zeD (n:Nat)(f:n≤100000)(w:World):(Instr.makeSlice 24 (.int .i64 ((n:Int)+1)) (.int .i64 ((n:Int)+1))).run prog w= .ok (.slice (some ⟨w.heap.size,0,none⟩) (n+1) (n+1)) (w.alloc (.cells (ints (List.replicate (n+1) 0)).toArray 3)):=by
 obtain ⟨a,b,c,d,e⟩:=info_parts qD;have:=run_make (P:=prog) w 24 3 a (.int .i64 0) underlying24 b c .i64 .i64 ((n:Int)+1) ((n:Int)+1) (by omega) (by omega) (by rw [e];omega) (by omega);rw [d,show ((n:Int)+1).toNat=n+1 by omega,Nat.mul_one,YS] at this;exact this
theorem YQ {r:Option Nat}(a:A.grownBy w r):A.grownBy w.drew r:=⟨a.os,a.tape,a.output,a.size,a.block⟩
theorem zbm {d e:World}{c:Nat}{f:Option Nat}(b:A.grownBy d (some c))(k:d.grownBy e f)(j:∀a,f=some a→A.heap.size≤a∨c=a):A.grownBy e (some c):=
 ⟨k.os.trans b.os,k.tape.trans b.tape,k.output.trans b.output,Nat.le_trans b.size k.size,fun a g h=>(k.block a (Nat.lt_of_lt_of_le g b.size) (fun l=>by
  rcases j a l.symm with i | i
  ·omega
  ·exact h (by rw [i]))).trans (b.block a g h)⟩
theorem zfo (b:w.heap[g]? =some (.cells #[h,D,E,F,G,H,I] t (0,0))):
  (w.cell? ⟨g,0,none⟩=some h∧w.cell? ⟨g,1,none⟩=some D∧w.cell? ⟨g,2,none⟩=some E∧w.cell? ⟨g,3,none⟩=some F∧w.cell? ⟨g,4,none⟩=some G∧w.cell? ⟨g,5,none⟩=some H∧w.cell? ⟨g,6,none⟩=some I)∧∀a,w.frozen? ⟨g,a,none⟩=false:=by
 refine ⟨⟨?_,?_,?_,?_,?_,?_,?_⟩,fun a=> ?_⟩<;>simp [World.cell?,World.frozen?,b]
theorem set7 {a0 a1 a2 a3 a b c:Value}(d:w.heap[g]? =some (.cells #[h,D,E,F,G,H,I] t (0,0))):
  (((((((w.setCell ⟨g,0,none⟩ a0).setCell ⟨g,1,none⟩ a1).setCell ⟨g,2,none⟩ a2).setCell ⟨g,3,none⟩ a3).setCell ⟨g,4,none⟩ a).setCell ⟨g,5,none⟩ b).setCell ⟨g,6,none⟩ c).heap[g]? =some (.cells #[a0,a1,a2,a3,a,b,c] t (0,0))∧
  w.grownBy (((((((w.setCell ⟨g,0,none⟩ a0).setCell ⟨g,1,none⟩ a1).setCell ⟨g,2,none⟩ a2).setCell ⟨g,3,none⟩ a3).setCell ⟨g,4,none⟩ a).setCell ⟨g,5,none⟩ b).setCell ⟨g,6,none⟩ c) (some g):=
 ⟨by rw [heap_setCell (heap_setCell (heap_setCell (heap_setCell (heap_setCell (heap_setCell (heap_setCell d _) _) _) _) _) _) _];rfl,((((((qh _ _ _ _).trans (qh _ _ _ _)).trans (qh _ _ _ _)).trans (qh _ _ _ _)).trans (qh _ _ _ _)).trans (qh _ _ _ _)).trans (qh _ _ _ _)⟩
theorem zoo {B C V m:Nat}{bM bi bj bk:Value}{bN bO:List Value}{b:DB}{cm cn:List (List Int)}{W:World}(q:BuSt B C V m bM bi bj bk bN bO b cm cn W){co cp:Value}{X:List MStmt}{h:List MExpr}{dI aP:List Value}(aI:TrAt B W co cp X h dI aP)(cq:zcS X h=true)
  (cr:∀s∈h,s.kind≠1∧s.kind≠9) (d:Nat) (e3:d<h.length) (cs:Value) (shapes:List (List Int)) (bP:qO 0 W cs shapes) (ct:shapes.length=h.length) (cu:∀o∈shapes,o.length≤2) (e4:b.nodes.length+h.length<1000):
  Calls prog 70 #[.pointer (some ⟨C,0,none⟩),.agg #[co,cp],.int .i64 d,cs] W fun s cv=>s= .returned (.int .i64 (zfl h shapes d b).2)∧BMod B W cv∧∃av dJ dK,BuSt B C V m av bi bj bk dJ dK (zfl h shapes d b).1 cm cn cv:=by
 have aQ:=Z q;have bl:=Z aI;have bQ:=Z cq;have cw:=Z cr;have dL:=Z bP;have dM:=Z cu;have bR:=q.blt;have dN:=q.lt;have e5:=aI.esm;have cx:B≤W.heap.size:=bR;obtain ⟨aR,e6,e7,P,rfl,e8,-,-⟩:=aI.ex.slots;obtain ⟨aw,e9,fa,ax,rfl,fb,-,-⟩:=aI.stm.slots;obtain ⟨dO,dP,rfl⟩:=bP.form;rw [ct];obtain ⟨aj,bm⟩:∃aj,YK h d=aj:=⟨_,rfl⟩;have fc:aj.length=d+1:=by rw [←bm];exact ze9 h d
 obtain ⟨ak,bn⟩:∃ak,Yk h b.names shapes aj 0 b.nodes (List.replicate (d+1) 0)=ak:=⟨_,rfl⟩;have dQ:=Z (show zfl h shapes d b=({b with nodes:=ak.1},ak.2.getD d 0) by unfold zfl;rw [bm,bn]);have fd:=Z (show ak.2.length=d+1 by rw [←bn,(zas h b.names shapes aj 0 _ _).1,List.length_replicate]);have cy:=Z bn;rw [dQ.out];have dR:=Z bm;have fe:(d:Int)<(h.length:Int):=by omega
 have dS:=zeD d (by omega);have bo:=(Below.refl W.heap.size W).alloc (Nat.le_refl _) (.cells #[.slice aw X.length ax,.slice aR h.length P] 71);have cz:=heap_alloc_new W (.cells #[.slice aw X.length ax,.slice aR h.length P] 71);have bS:W.heap.size<(W.alloc (.cells #[.slice aw X.length ax,.slice aR h.length P] 71)).heap.size:=by simp
 have bT:=Z bo;have bU:=Z cz;have bV:=Z (show (W.alloc (.cells #[.slice aw X.length ax,.slice aR h.length P] 71)).heap.size=W.heap.size+1 by simp);have bp:=Z ((bl.later (bo.mono bR)).exAt bQ);have ff:aP.length=h.length:=by have:=aI.en.length;simpa using this
 obtain ⟨dT,dU,cA,fg,dV,-,cB⟩:=(bl.later (bo.mono bR)).ex.open;obtain ⟨rfl,rfl⟩:aR=dT∧P=dU:=by simpa using cA
 obtain ⟨Y,ay,rfl,fh,cC⟩:=cB (by omega);have bW:=Z cC;unfold maxLen at dV;clear q aI cq cr bP cu bm bn bo cz cA cB cC;go_enter func70,ntmps70;go_upto_region 2 with fail;generalize W.alloc (.cells #[.slice aw X.length ax,.slice (some ⟨Y,ay,none⟩) h.length P] 71)=x at bT bU bV bS bp bW ⊢;have dW:x.cell? ⟨W.heap.size,1,none⟩=some (.slice (some ⟨Y,ay,none⟩) h.length P):=(yL bU).2;have dX:Y<x.heap.size:=by omega
 have az:=Z (show (x.alloc (.cells (ints (List.replicate (d+1) 0)).toArray 3)).heap[x.heap.size]? =some (.cells (ints (((List.replicate (d+1) 0:List Nat)).map Int.ofNat)).toArray 3 (0,0)) by rw [List.map_replicate];exact heap_alloc_new _ _);have bX:=Z ((Below.refl x.heap.size x).alloc (Nat.le_refl _) (.cells (ints (List.replicate (d+1) 0)).toArray 3));generalize x.alloc (.cells (ints (List.replicate (d+1) 0)).toArray 3)=cD at az bX ⊢;rw [bV.out] at az;generalize cE:W.heap.size+1=Q at az ⊢;have cF:x.heap.size=Q:=by rw [bV.out,cE]
 have bY:x.heap.size≤Q:=by omega
 have fi:=Z cF;clear cE cF;have dY:=qd az;obtain ⟨dZ,d0⟩:=qV az d (by simp);go_wp2_with fail;have bZ:=Z (Below.set bX bY d (.int .i64 1));have b0:=Z (show (cD.setCell ⟨Q,d,none⟩ (.int .i64 1)).heap[Q]? =some (.cells (ints ((((List.replicate (d+1) 0).set d 1:List Nat)).map Int.ofNat)).toArray 3 (0,0)) by rw [List.map_set];exact zo az d 1);generalize cD.setCell ⟨Q,d,none⟩ (.int .i64 1)=fj at bZ b0 ⊢;clear dZ d0;go_loopg [10] (d+1) (fun aa aA wr=>∃(a:Nat) (aS:Int) (o:List Nat),aa=a∧aA= .int .i64 aS∧aS=(a:Int)-1∧a≤d+1∧o.length=d+1∧(∀L∈o,L=0∨L=1)∧Hid (YO h a o=aj)∧Hid (wr.heap[Q]? =some (.cells (ints (o.map Int.ofNat)).toArray 3 (0,0)))∧Hid (Below x.heap.size x wr))
 case atStart=>
  refine ⟨d+1,d,(List.replicate (d+1) 0).set d 1,rfl,rfl,by omega,Nat.le_refl _,by simp,fun L b1=> ?_,dR,b0,bZ⟩;rcases List.mem_or_eq_of_mem_set b1 with q | q
  ·exact .inl (List.eq_of_mem_replicate q)
  ·exact .inr q
 case round=>
  obtain ⟨a,aS,o,d1,rfl,cG,aT,d2,d3,bq,aU,ab⟩:=hrel;clear b0 bZ az bX;rcases a with _ | i
  ·have b2:aS= -1:=by omega
   subst b2;clear cG;have A:=bq.out;simp only [YO] at A;subst A;have fk:=Z aU;have d4:=zeD d (by omega) wr;have aV:=(Below.refl wr.heap.size wr).alloc (Nat.le_refl _) (.cells (ints (List.replicate (d+1) 0)).toArray 3);have cH:W.heap.size≤x.heap.size:=by omega
   have d5:=ab.size;have b3:Q<wr.heap.size:=qd aU;have cI:BMod B W (wr.alloc (.cells (ints (List.replicate (d+1) 0)).toArray 3)):=BMod.below ((bT.trans (ab.mono cH)).trans (aV.mono (by omega))) cx;have aW:=Z (show LSt B C V wr.heap.size Q W.heap.size bM bi bj bk bN bO [] [] b [] (List.replicate (d+1) 0) o (.slice aw X.length ax) (.slice (some ⟨Y,ay,none⟩) h.length P) W (wr.alloc (.cells (ints (List.replicate (d+1) 0)).toArray 3)) from by
    have cJ:=(bT.trans (ab.mono cH)).trans (aV.mono (by omega));refine ⟨cI,(cJ.block _ dN).trans aQ.blk,?_,trivial,trivial,by simp,by rw [List.map_replicate];exact heap_alloc_new _ _,(aV.block _ b3).trans aU,(aV.block _ (by omega)).trans ((ab.block _ bS).trans bU),by omega,b3,cx⟩;simp only [List.append_nil];exact Below.owns aQ.nodes cJ)
   have cK:(wr.alloc (.cells (ints (List.replicate (d+1) 0)).toArray 3)).heap.size=wr.heap.size+1:=by simp
   have br:=Z cK;clear bq aV cI cK bY dY b3 aU;go_wp2_with fail;generalize wr.alloc (.cells (ints (List.replicate (d+1) 0)).toArray 3)=b4 at aW br ⊢;have d6:W.heap.size≤wr.heap.size:=by omega
   generalize wr.heap.size=y at aW br d6 ⊢;clear dS d4 d5 ab bW bp;have fl:=(yL aW.box).1;go_loopg [57] (d+1) (fun aa aA k=>∃(a:Nat) (p:List Nat) (F:List MNode) (av:Value) (aX aY:List Value),a≤d+1∧aa=d+1-a∧aA= .int .i64 a∧p.length=d+1∧F.length≤a∧b4.heap.size≤k.heap.size∧Hid (Yk h b.names shapes (o.drop a) a (b.nodes++F) p=ak)∧Hid (LSt B C V y Q W.heap.size av bi bj bk bN bO aX aY b F p o (.slice aw X.length ax) (.slice (some ⟨Y,ay,none⟩) h.length P) W k))
   case atStart=>exact ⟨0,_, [],bM, [], [],Nat.zero_le _,rfl,rfl,List.length_replicate,Nat.le_refl _,Nat.le_refl _,Z (by have:=cy.out;simpa using this),aW⟩
   case round=>
    obtain ⟨a,p,F,av,aX,aY,aT,d1,rfl,aB,fm,fn,bs,D⟩:=hrel;clear aW cy;rename World=>k
    have fo:=(yL D.box).2;have fp:=qd D.box;have fq:=qd D.pla;have fr:=qd D.inn;have fs:=qd D.blk
    by_cases ft:a<d+1
    ·have aC:a<h.length:=by omega
     have cL:a<o.length:=by omega
     have ac:=bs.out;rw [List.drop_eq_getElem_cons cL] at ac;have b5:=zhu ac aC (cw _ (List.getElem_mem aC));obtain ⟨cM,-⟩:=qV D.inn a (by simp;omega);have M:(o.map Int.ofNat).getD a 0=((o[a]:Nat):Int):=by simp [List.getD,cL]
     rw [M] at cM;obtain ⟨d7,d8,d9,ea,aZ,cN,cO,fu,al,eb,ec,ed,ee,ef⟩:=(bl.later D.mod.low).expr a aC;obtain ⟨rfl,rfl⟩:P=d8∧(some ⟨Y,ay,none⟩:Option Addr)=d7:=by simpa [and_comm] using cN
     obtain ⟨rfl,rfl⟩:Y=d9∧ay=ea:=by simpa using cO
     have am:=Z (bl.eb h[a] (List.getElem_mem aC));have bt:=Z ((QC bQ).1 a aC).2;have eg:h[a].args.length≤3:=by
      have A:=((QC bQ).1 a aC).1;have:YJ h[a].kind≤3:=by unfold YJ;repeat' split<;>omega
      omega
     have fv:Y<k.heap.size:=by have:=D.mod.low.size;omega
     have fw:(0:Int)≤(a:Int):=by omega
     have fx:(a:Int)<(h.length:Int):=by omega
     have fy:(a:Int)<(d:Int)+1:=by omega
     obtain ⟨R,aJ,bu,S,rfl,cP,b6,aD⟩:=al.slots;simp only [Nat.mul_one] at aD;clear ac M cN cO al bs;generalize o[a]=mk at b5 cM;generalize cQ:h[a]=eh at *;obtain ⟨u,z,an,f,ao⟩:=eh;simp only at b5 am bt eg eb ec ed ee ef cP b6 aD;have ei:=Z cQ;have ej:=Z b6;have ek:=Z aD;have b7:=(Below.refl k.heap.size k).alloc (Nat.le_refl _) (.cells #[.int .i64 u,.string (qx z),.int .u64 an,.slice R f.length S,.int .i64 ao] 146);have cR:=heap_alloc_new k (.cells #[.int .i64 u,.string (qx z),.int .u64 an,.slice R f.length S,.int .i64 ao] 146);have a0:=Z b7;have a1:=Z cR;have G:=Z (D.later b7);have b8:k.heap.size<(k.alloc (.cells #[.int .i64 u,.string (qx z),.int .u64 an,.slice R f.length S,.int .i64 ao] 146)).heap.size:=by simp
     clear cQ b6 aD b7 cR;rcases b5 with ⟨aE,ap⟩ | ⟨aE,b9,ap⟩ | ⟨aE,b9,ap⟩
     ·subst aE
      have ad:=Z ap;clear ap;go_wp2_with fail;go_roundg (d+1-(a+1))
      case measure=>omega
      case rel=>exact ⟨a+1,p,F,av,aX,aY,by omega,rfl,by go_num,aB,by omega,by omega,ad,G⟩
     ·obtain rfl:u=2:=b9
      have ad:=Z ap;have el:(mk==0)=false:=by simpa using aE
      have em:((mk:Int)==0)=false:=by simp;omega
      obtain ⟨en,cS,cT⟩:=(G.bu aQ (by rw [List.length_append];omega)).map;have bv:=(show Q5 (k.alloc (.cells #[.int .i64 2,.string (qx z),.int .u64 an,.slice R f.length S,.int .i64 ao] 146)).drew V m en from cS.kept (yI (Below.refl _ _).drew) (by simp)).look z am.2 am.1;obtain ⟨aq,aF⟩:∃aq,(b.names.lookup z).getD 0=aq:=⟨_,rfl⟩;rw [cT z am.1] at bv
      replace bv:(Instr.lookup 140 (.map (some V)) (.string (qx z)) false).run prog (k.alloc (.cells #[.int .i64 2,.string (qx z),.int .u64 an,.slice R f.length S,.int .i64 ao] 146)).drew= .ok (.int .i64 (aq:Int)) (k.alloc (.cells #[.int .i64 2,.string (qx z),.int .u64 an,.slice R f.length S,.int .i64 ao] 146)).drew:=by
       rw [bv,←aF];cases b.names.lookup z<;>rfl
      rw [aF] at ad;go_upto_region 18 with fail;generalize k.alloc (.cells #[.int .i64 2,.string (qx z),.int .u64 an,.slice R f.length S,.int .i64 ao] 146)=l at a0 a1 G b8 bv ⊢;have cU:l.cell? ⟨k.heap.size,1,none⟩=some (.string (qx z)):=by simp [World.cell?,a1.out]
      have cV:l.cell? ⟨C,7,none⟩=some (.map (some V)):=by simp [World.cell?,G.blk]
      obtain ⟨fz,fA⟩:=qV G.pla a (by simp;omega);have bw:C≠y:=fun s=>by
       have A:=G.blk;rw [s,G.pla] at A;simp only [Option.some.injEq,Obj.cells.injEq] at A;exact absurd A.2.1 (by decide)
      have eo:k.heap.size≠y:=by omega
      have ep:=fun (L:Value)=>(show (l.drew.setCell ⟨y,a,none⟩ L).cell? ⟨C,7,none⟩=some (.map (some V))∧(l.drew.setCell ⟨y,a,none⟩ L).cell? ⟨k.heap.size,1,none⟩=some (.string (qx z)) from ⟨(World.cell?_setCell_other _ _ _ _ (by simp [bw])).trans cV,(World.cell?_setCell_other _ _ _ _ (by simp [eo])).trans cU⟩)
      have fB:=qd G.pla;have fC:=qd G.blk;clear ap cS cT aF aE;refine rg (fun W=>W.cell? ⟨C,7,none⟩=some (.map (some V))∧W.cell? ⟨k.heap.size,1,none⟩=some (.string (qx z))) ⟨cV,cU⟩ (fun n=> ?_);refine tk 0 ?_;refine tk 1 ?_;refine tk 2 ?_;refine tk 3 ?_;refine tk 4 ?_;refine tk 5 ?_;refine tk 6 ?_;refine tk 7 ?_;refine rd1 8 (fun j c=> ?_);go_simp;refine c _ _ (by assumption) (fun n=>nx ?_);clear c j;refine tk 9 ?_;refine rd1 10 (fun j c=> ?_);go_simp;refine c _ _ (ep _) (fun n=>nx ?_);clear c j;refine dn ?_;go_wp2_with fail;go_roundg (d+1-(a+1))
      case measure=>omega
      case rel=>exact ⟨a+1,p.set a aq,F,av,aX,aY,by omega,rfl,by go_num,by rw [List.length_set];exact aB,by omega,by have:=a0.size;show b4.heap.size≤_;simp;omega,ad,Z ((G.later (Below.refl _ _).drew).put a aq)⟩
     ·have ad:=Z ap
      have el:(mk==0)=false:=by simpa using aE
      have em:((mk:Int)==0)=false:=by simp;omega
      have eq:u≠1∧u≠9:=by have:=cw.out h[a] (List.getElem_mem aC);rw [ei.out] at this;exact this
      have fD:((u:Int)==2)=false:=by simp;omega
      have fE:((u:Int)==1)=false:=by simp;omega
      have fF:((u:Int)==9)=false:=by simp;omega
      have bx:=fun x=>zbZ u x
      obtain ⟨aK,cW⟩:∃aK,zck u=aK:=⟨_,rfl⟩;rw [cW] at bx ad;obtain ⟨cX,cY,ca⟩:=G.mod.sh dL;have er:cX.length=h.length:=by have:=ca.length;omega
      have cb:a<shapes.length:=by omega
      obtain ⟨T,es,cZ,-,c0,-,a2,-,-⟩:=zm cY a (by omega);obtain ⟨rfl,rfl⟩:dO=some ⟨T,0,none⟩∧dP=es:=by simpa [er,ct] using cZ
      have a3:=ca.get a (by omega) cb;have et:=dM.out shapes[a] (List.getElem_mem cb);have c1:shapes.getD a []=shapes[a]:=by simp [List.getD,cb]
      rw [List.getElem?_eq_getElem (by omega)] at a2;rw [c1] at ad;generalize shapes[a]=t at a3 et ad;generalize cX[a]=fG at a3 a2;obtain ⟨ar,au,rfl,-,-⟩:=qg a3;have c2:=Z a3;clear ap aE b9 cW cY ca cZ a3 c1 eq;go_upto_region 19 with fail;generalize k.alloc (.cells #[.int .i64 u,.string (qx z),.int .u64 an,.slice R f.length S,.int .i64 ao] 146)=l at a0 a1 G b8 c2 a2 c0 ⊢;have c3:l.cell? ⟨k.heap.size,0,none⟩=some (.int .i64 u):=by simp [World.cell?,a1.out]
      have bz:∀r,Below l.heap.size l r→Arr r.heap.size r 1 (.slice ar t.length au) t.length (ints t):=fun r aL=>Arr.of_owns (Below.owns c2 aL)
      have a4:∀(r:World) (aG:Obj),(r.cell? ⟨k.heap.size,0,none⟩=some (.int .i64 u)∧r.cell? ⟨T,a,none⟩=some (.slice ar t.length au))→((r.alloc aG).cell? ⟨k.heap.size,0,none⟩=some (.int .i64 u)∧(r.alloc aG).cell? ⟨T,a,none⟩=some (.slice ar t.length au)):=fun r aG q=>⟨Lib.cell?_alloc_some _ q.1,Lib.cell?_alloc_some _ q.2⟩
      have bA:∀(r H:World),(r.cell? ⟨k.heap.size,0,none⟩=some (.int .i64 u)∧r.cell? ⟨T,a,none⟩=some (.slice ar t.length au))→Below r.heap.size r H→(H.cell? ⟨k.heap.size,0,none⟩=some (.int .i64 u)∧H.cell? ⟨T,a,none⟩=some (.slice ar t.length au)):=fun r H q aL=>⟨(aL.cell (p:=⟨k.heap.size,0,none⟩) (World.block_lt_of_cell? r _ q.1)).trans q.1,(aL.cell (p:=⟨T,a,none⟩) (World.block_lt_of_cell? r _ q.2)).trans q.2⟩
      have cc:∀(r H:World),r.grownBy H (some l.heap.size)→(r.cell? ⟨k.heap.size,0,none⟩=some (.int .i64 u)∧r.cell? ⟨T,a,none⟩=some (.slice ar t.length au))→(H.cell? ⟨k.heap.size,0,none⟩=some (.int .i64 u)∧H.cell? ⟨T,a,none⟩=some (.slice ar t.length au)):=fun r H c4 q=>⟨c4.cell (a:=⟨k.heap.size,0,none⟩) q.1 (by simp;omega),c4.cell (a:=⟨T,a,none⟩) q.2 (by simp;omega)⟩
      have bB:y+1≤l.heap.size:=by have:=br.out;omega
      have a5:∀aG:Obj,l.heap.size≤((l.alloc aG).drew).heap.size:=fun aG=>by show l.heap.size≤(l.alloc aG).heap.size;simp
      have cd:∀H,Below ((l.alloc (.cells #[.int .i64 0,.slice none 0 0,.slice none 0 0,.int .i64 0,.int .i64 0,.int .i64 0,.slice none 0 0] 154)).drew).heap.size ((l.alloc (.cells #[.int .i64 0,.slice none 0 0,.slice none 0 0,.int .i64 0,.int .i64 0,.int .i64 0,.slice none 0 0] 154)).drew) H→H.heap[l.heap.size]? =some (.cells #[.int .i64 0,.slice none 0 0,.slice none 0 0,.int .i64 0,.int .i64 0,.int .i64 0,.slice none 0 0] 154 (0,0)):=fun H aL=>(aL.block l.heap.size (show l.heap.size<(l.alloc (.cells #[.int .i64 0,.slice none 0 0,.slice none 0 0,.int .i64 0,.int .i64 0,.int .i64 0,.slice none 0 0] 154)).heap.size by simp)).trans (heap_alloc_new l _)
      go_cut [16] from 83 to 91 (fun eu ae=>∃(v:Nat) (J:Option Addr) (K:Nat),eu= .pointer (some ⟨v,0,none⟩)∧l.heap.size≤v∧Hid (ae.heap[v]? =some (.cells #[.int .i64 aK,.slice J t.length K,.slice none 0 0,.int .i64 0,.int .i64 0,.int .i64 0,.slice none 0 0] 154 (0,0)))∧Hid (ae.ownsRow (y+1) 3 1 (.slice J t.length K) t.length (ints t))∧Hid (Below l.heap.size l ae))
      case first=>
       refine rg (fun W=>W.cell? ⟨k.heap.size,0,none⟩=some (.int .i64 u)∧W.cell? ⟨T,a,none⟩=some (.slice ar t.length au)) ⟨c3,a2⟩ (fun n=> ?_);refine tk 0 ?_;refine tk 1 ?_;refine tk 3 ?_;refine tk 4 ?_;refine tk 5 ?_;refine tk 6 ?_;refine rd2 2 9 (fun j c=> ?_) (fun j c=> ?_)
       ·skip
        (go_simp;go_at_call 112;refine (bx _).mono ?_;rintro s ev ⟨rfl,rfl⟩;(try dsimp only))
        refine c _ _ (by assumption) (fun n=>nx ?_);clear c j;refine rd2 7 9 (fun j c=> ?_) (fun j c=> ?_)
        ·skip
         (go_simp;go_at_call 69;refine (zs _ t _ (bz _ (Below.refl _ _).drew) (by omega)).mono ?_;rintro s c5 ⟨c6,rfl,N,I⟩;have aM:=bA _ _ n I;obtain ⟨J,K,rfl,-,-⟩:=qg N;have a6:=Z N;have aH:=Z I;clear N I;(try dsimp only))
         refine c _ _ aM (fun n=>nx ?_);clear c j;refine tk 8 ?_;refine rd1 9 (fun j c=> ?_);go_simp;refine c _ _ (a4 _ _ n) (fun n=>nx ?_);clear c j;refine rd1 10 (fun j c=> ?_);go_simp;refine c _ _ (a4 _ _ aM) (fun n=>nx ?_);clear c j;refine dn ?_;go_wp2_with fail;go_meet;exact ⟨_,J,K,rfl,aH.size,Z (heap_alloc_new _ _),Z ((qk a6 bB).alloc _),Z (((Below.refl _ _).drew.trans aH).alloc aH.size _)⟩
        ·skip
         go_simp;refine c _ _ (a4 _ _ n) (fun n=>nx ?_);clear c j;refine rd1 7 (fun j c=> ?_)
         (go_simp;go_at_call 69;refine (zs _ t _ (bz _ ((Below.refl _ _).alloc (Nat.le_refl _) _).drew) (by omega)).mono ?_;rintro s c5 ⟨c6,rfl,N,I⟩;have aM:=bA _ _ n I;obtain ⟨J,K,rfl,-,-⟩:=qg N;have a6:=Z N;have aH:=Z I;(have af:=cd _ I;have O:=Z af;obtain ⟨⟨c8,c9,da,db,dc,dd,de⟩,w⟩:=zfo af;have ew:=w 0;have ex:=w 1;have df:=w 2;have ey:=w 3;have ez:=w 4;have eA:=w 5;have eB:=w 6;have ce:=qd af;clear w af);clear N I;(try dsimp only))
         refine c _ _ aM (fun n=>nx ?_);clear c j;refine tk 8 ?_;refine rd1 10 (fun j c=> ?_);go_simp;refine c _ _ (cc _ _ (set7 O).2 n) (fun n=>nx ?_);clear c j;refine dn ?_;go_wp2_with fail;go_meet;exact ⟨_,J,K,rfl,Nat.le_refl _,Z (set7 O).1,Z (qp (qk a6 (Nat.le_trans bB (a5 _))) (set7 O).2 (Off.block O (by decide))),Z ((((Below.refl l.heap.size l).alloc (Nat.le_refl _) _).drew.trans (aH.mono (a5 _))).grown (set7 O).2 (Nat.le_of_lt ce) (fun a aT=>by obtain rfl:l.heap.size=a:=(by simpa using aT);exact Nat.le_refl _))⟩
       ·skip
        go_simp;refine c _ _ (a4 _ _ n) (fun n=>nx ?_);clear c j;refine rd1 2 (fun j c=> ?_)
        (go_simp;go_at_call 112;refine (bx _).mono ?_;rintro s ev ⟨rfl,rfl⟩;(try dsimp only))
        refine c _ _ (by assumption) (fun n=>nx ?_);clear c j;refine rd1 7 (fun j c=> ?_)
        (go_simp;go_at_call 69;refine (zs _ t _ (bz _ ((Below.refl _ _).alloc (Nat.le_refl _) _).drew) (by omega)).mono ?_;rintro s c5 ⟨c6,rfl,N,I⟩;have aM:=bA _ _ n I;obtain ⟨J,K,rfl,-,-⟩:=qg N;have a6:=Z N;have aH:=Z I;(have af:=cd _ I;have O:=Z af;obtain ⟨⟨c8,c9,da,db,dc,dd,de⟩,w⟩:=zfo af;have ew:=w 0;have ex:=w 1;have df:=w 2;have ey:=w 3;have ez:=w 4;have eA:=w 5;have eB:=w 6;have ce:=qd af;clear w af);clear N I;(try dsimp only))
        refine c _ _ aM (fun n=>nx ?_);clear c j;refine tk 8 ?_;refine rd1 10 (fun j c=> ?_);go_simp;refine c _ _ (cc _ _ (set7 O).2 n) (fun n=>nx ?_);clear c j;refine dn ?_;go_wp2_with fail;go_meet;exact ⟨_,J,K,rfl,Nat.le_refl _,Z (set7 O).1,Z (qp (qk a6 (Nat.le_trans bB (a5 _))) (set7 O).2 (Off.block O (by decide))),Z ((((Below.refl l.heap.size l).alloc (Nat.le_refl _) _).drew.trans (aH.mono (a5 _))).grown (set7 O).2 (Nat.le_of_lt ce) (fun a aT=>by obtain rfl:l.heap.size=a:=(by simpa using aT);exact Nat.le_refl _))⟩
      case rest=>
       rename World=>ae
       obtain ⟨v,J,K,rfl,eC,am,eD,cf⟩:=hcut;have bC:=(cf.block k.heap.size b8).trans a1;have eE:=Z bC;have eF:ae.cell? ⟨k.heap.size,3,none⟩=some (.slice R f.length S):=by simp [World.cell?,bC]
       have eG:=qd bC;have eH:=cf.size;have fH:=qd am;have bB:y+1≤l.heap.size:=by have:=br.out;omega
       clear bC bz a4 bA cc a5 cd c3 bx c0 a2;go_wp2_with fail;clear eF;go_loopg [95] f.length (fun aa aA E=>∃(g:Nat) (aZ:Value),g≤f.length∧aa=f.length-g∧aA= .int .i64 g∧Hid (E.heap[v]? =some (.cells #[.int .i64 aK,.slice J t.length K,aZ,.int .i64 0,.int .i64 0,.int .i64 0,.slice none 0 0] 154 (0,0)))∧Hid (E.ownsRow ae.heap.size 3 1 aZ g (ints ((f.take g).map fun e=>((p.getD e 0:Nat):Int))))∧Hid (ae.grownBy E (some v)))
       case atStart=>exact ⟨0,_,Nat.zero_le _,rfl,rfl,am,Z (World.ownsRow_nil _ _ _ _),Z (World.grownBy.refl _ _)⟩
       case round=>
        obtain ⟨g,aZ,eI,eJ,rfl,bD,U,aN⟩:=hrel;rename World=>E
        have a7:Below l.heap.size l E:=cf.grown aN eH (fun i ag=>by obtain rfl:v=i:=(by simpa using ag);exact eC);have bE:=Z a7;have bF:=Z (G.later a7);have dg:=aN.size;have a8:=(aN.block k.heap.size eG (fun s=>by have:v=k.heap.size:=(by simpa using s.symm);omega)).trans eE;have fI:=Z a8;have fJ:=qd a8;have dh:=qd bD;have fK:=qd bF.pla;obtain ⟨a9,ba,rfl,-,-⟩:=qg U;obtain ⟨⟨c8,c9,da,db,dc,dd,de⟩,w⟩:=zfo bD
        by_cases bG:g<f.length
        ·obtain ⟨rfl,fL⟩:=ej.out (by omega)
         have eK:=bt.out f[g] (List.getElem_mem bG);have eL:=(a7.cell (p:=⟨aJ,bu+g,none⟩) (show aJ<l.heap.size by have:=a0.size;have:=D.mod.low.size;omega)).trans ((a0.cell (p:=⟨aJ,bu+g,none⟩) (show aJ<k.heap.size by have:=D.mod.low.size;omega)).trans ((ek g bG).trans (by simp [ints,bG]:_=some (Value.int .i64 (f[g]:Int)))));have bH:=Z (show (f.take (g+1)).map (fun e=>((p.getD e 0:Nat):Int))=(f.take g).map (fun e=>((p.getD e 0:Nat):Int))++[((p.getD f[g] 0:Nat):Int)] by rw [List.take_add_one,List.getElem?_eq_getElem bG,List.map_append];rfl);generalize f[g]=e at eK eL bH;obtain ⟨bb,-⟩:=qV bF.pla e (by simp;omega);have M:(p.map Int.ofNat).getD e 0=((p.getD e 0:Nat):Int):=by simp [List.getD,show e<p.length by omega]
         rw [M] at bb;generalize p.getD e 0=bI at bb bH;have fM:(0:Int)≤(e:Int):=by omega
         have eM:(e:Int)<(d:Int)+1:=by omega
         have fN:(0:Int)≤(g:Int):=by omega
         have eN:(g:Int)<(f.length:Int):=by omega
         have bw:y≠v:=by omega
         clear a8 M a7;go_upto_region 23 with fail;have df:=w 2;refine rg (fun W=>W.cell? ⟨y,e,none⟩=some (.int .i64 (bI:Int))) bb (fun n=> ?_);refine tk 0 ?_;refine tk 2 ?_;refine tk 3 ?_;refine tk 4 ?_;refine tk 5 ?_;refine rd2 1 6 (fun j c=> ?_) (fun j c=> ?_)
         ·skip
          go_simp;refine c _ _ (by assumption) (fun n=>nx ?_);clear c j;refine rd1 6 (fun j c=> ?_);go_simp;refine c _ _ (Lib.cell?_alloc_some _ n) (fun n=>nx ?_);clear c j;refine rd1 7 (fun j c=> ?_)
          (refine yo (by rfl) _ _ 24 (by rfl) 3 _ 1 8 underlying24 qD rfl (by decide) #[.int .i64 (bI:Int)] g ae.heap.size (.slice a9 g ba) (ints ((f.take g).map fun e=>((p.getD e 0:Nat):Int))) (show E.drew.ownsRow _ _ _ _ _ _ from U) (by rfl) (by rfl) rfl (by simp [Value.oneCell']) dg (by omega) (by unfold maxLen;omega) ?_;intro aa eO bc bd ah;have ai:=(ah.block v (show v<E.drew.heap.size from dh) (fun s=>by have:=(U.lt v s.symm).1;omega)).trans bD;have be:=(ah.cell (a:=⟨y,e,none⟩) bb (fun s=>by have:=(U.lt y s.symm).1;omega));have bf:=Z ai;have cg:=Z bd;have ch:=Z ah;obtain ⟨⟨-,-,eP,-,-,-,-⟩,bg⟩:=zfo ai;have eQ:=bg 2;have eR:=qd ai;clear ai bd ah bg)
          refine c _ _ be (fun n=>nx ?_);clear c j;refine tk 8 ?_;refine rd1 9 (fun j c=> ?_);go_simp;refine c _ _ ((World.cell?_setCell_other _ _ _ _ (by simp [bw])).trans be) (fun n=>nx ?_);clear c j;refine dn ?_;go_wp2_with fail;go_roundg (f.length-(g+1))
          case measure=>omega
          case rel=>exact ⟨g+1,_,by omega,rfl,by go_num,Z (by rw [heap_setCell bf.out];rfl),Z (by rw [bH.out,yd];exact qp cg (qh bc v 2 _) (Off.block bf (by decide))),Z (zbm (zbm (YQ aN) ch (fun i ag=> .inl (U.lt i ag).1)) (qh bc v 2 _) (fun i ag=> .inr (by simpa using ag)))⟩
         ·skip
          go_simp;refine c _ _ (Lib.cell?_alloc_some _ n) (fun n=>nx ?_);clear c j;refine rd1 1 (fun j c=> ?_);go_simp;refine c _ _ (by assumption) (fun n=>nx ?_);clear c j;refine rd1 7 (fun j c=> ?_)
          (refine yo (by rfl) _ _ 24 (by rfl) 3 _ 1 8 underlying24 qD rfl (by decide) #[.int .i64 (bI:Int)] g ae.heap.size (.slice a9 g ba) (ints ((f.take g).map fun e=>((p.getD e 0:Nat):Int))) (show E.drew.ownsRow _ _ _ _ _ _ from U) (by rfl) (by rfl) rfl (by simp [Value.oneCell']) dg (by omega) (by unfold maxLen;omega) ?_;intro aa eO bc bd ah;have ai:=(ah.block v (show v<E.drew.heap.size from dh) (fun s=>by have:=(U.lt v s.symm).1;omega)).trans bD;have be:=(ah.cell (a:=⟨y,e,none⟩) bb (fun s=>by have:=(U.lt y s.symm).1;omega));have bf:=Z ai;have cg:=Z bd;have ch:=Z ah;obtain ⟨⟨-,-,eP,-,-,-,-⟩,bg⟩:=zfo ai;have eQ:=bg 2;have eR:=qd ai;clear ai bd ah bg)
          refine c _ _ be (fun n=>nx ?_);clear c j;refine tk 8 ?_;refine rd1 9 (fun j c=> ?_);go_simp;refine c _ _ ((World.cell?_setCell_other _ _ _ _ (by simp [bw])).trans be) (fun n=>nx ?_);clear c j;refine dn ?_;go_wp2_with fail;go_roundg (f.length-(g+1))
          case measure=>omega
          case rel=>exact ⟨g+1,_,by omega,rfl,by go_num,Z (by rw [heap_setCell bf.out];rfl),Z (by rw [bH.out,yd];exact qp cg (qh bc v 2 _) (Off.block bf (by decide))),Z (zbm (zbm (YQ aN) ch (fun i ag=> .inl (U.lt i ag).1)) (qh bc v 2 _) (fun i ag=> .inr (by simpa using ag)))⟩
        ·obtain rfl:g=f.length:=by omega
         have ci:=U.out;rw [List.take_length] at ci;have di:(f.map fun e=>((p.getD e 0:Nat):Int)).length=f.length:=List.length_map _;have dj:=Z (qp eD aN (Off.block am (by decide)));have dk:=Z (show E.ownsRow (y+1) 3 1 (.slice a9 f.length ba) (f.map fun e=>((p.getD e 0:Nat):Int)).length (ints (f.map fun e=>((p.getD e 0:Nat):Int))) by rw [di];exact qk ci (by omega));have fO:E.cell? ⟨k.heap.size,0,none⟩=some (.int .i64 u):=by simp [World.cell?,a8]
         have dl:B≤y+1:=by omega
         have dm:(b.nodes++F).length<1000:=by rw [List.length_append];omega
         clear ci di a8 a7;go_wp2_with (go_at_call 68;refine (zcW (bF.bu aQ (Nat.le_of_lt dm)) ⟨aK,t,f.map fun e=>((p.getD e 0:Nat):Int),0,0,0, []⟩ rfl dm (.slice J t.length K) (.slice a9 f.length ba) (qk dj dl) (qk dk dl)).mono ?_;rintro s fP ⟨rfl,cj,eS,dp⟩;have bJ:=bF.more cj dp rfl dj dk;have eT:=Z bJ;have eU:=Z cj.low.size;obtain ⟨fQ,fR⟩:=qV bJ.pla a (by simp;omega);have fS:=qd bJ.pla;clear cj dp bJ);go_roundg (d+1-(a+1))
         case measure=>omega
         case rel=>exact ⟨a+1,p.set a (b.nodes++F).length,F++[⟨aK,t,f.map fun e=>((p.getD e 0:Nat):Int),0,0,0, []⟩],eS,aX++[.slice J t.length K],aY++[.slice a9 f.length ba],by omega,rfl,by go_num,by rw [List.length_set];exact aB,by rw [List.length_append];simp;omega,by have:=eU.out;show b4.heap.size≤_;simp;omega,Z (by rw [←List.append_assoc];exact ad),Z (by have dq:=eT.put a (b.nodes++F).length;have eV:(((b.nodes++F).length:Nat):Int)=(b.nodes.length:Int)+(F.length:Int):=(by simp);rw [eV] at dq;exact dq)⟩
    ·obtain rfl:a=d+1:=by omega
     have ac:=bs.out;rw [List.drop_of_length_le (by omega)] at ac;simp only [Yk] at ac;have dr:ak.2=p:=by rw [←ac]
     have ds:ak.1=b.nodes++F:=by rw [←ac]
     obtain ⟨dt,-⟩:=qV D.pla d (by simp;omega);have M:(p.map Int.ofNat).getD d 0=((p.getD d 0:Nat):Int):=by simp [List.getD,show d<p.length by omega]
     rw [M] at dt;obtain ⟨aq,aF⟩:∃aq,p.getD d 0=aq:=⟨_,rfl⟩;rw [aF] at dt;have ck:=Z (And.intro ds (And.intro dr aF));clear ac ds dr M bs aF;go_wp2_with fail;go_ret;rw [ck.1,ck.2.1,ck.2.2];exact ⟨rfl,D.mod,av,_,_,D.bu aQ (by rw [List.length_append];omega)⟩
  ·have b2:aS=(i:Int):=by omega
   subst b2;clear cG;have bK:i<h.length:=by omega
   have du:i<aP.length:=by omega
   obtain ⟨-,-,-,dv,-⟩:=zd3 h aP i bK du;have dw:=(ab.cell (p:=⟨Y,ay+(i * 5+3),none⟩) dX).trans ((bW (i * 5+3) (by omega)).trans dv);rw [←Nat.add_assoc] at dw;have fT:=(ab.cell (p:=⟨W.heap.size,1,none⟩) bS).trans dW;have al:=(bp.later (Below.refl _ _) (show B≤x.heap.size by omega)).args.get i du (by simpa using bK);have cl:=bp.ok i bK;simp only [List.getElem_map,qP,List.length_map] at al;have dx:YO h (i+1) o=YO h i (h[i].args.foldl (fun o e=>o.set e (o.getD e 0 ||| o.getD i 0)) o):=by
    rw [YO];congr 2;simp [List.getD,bK]
   have dy:=Z (dx.symm.trans bq);generalize h[i].args=f at al cl dy;generalize aP[i]=aZ at al dw;obtain ⟨R,S,rfl,cP,eW,-,dz⟩:=al.open;have bt:=Z dz;have eX:=Z cl;have fU:(0:Int)≤(i:Int):=by omega
   have fV:(i:Int)<(h.length:Int):=by omega
   have fW:=ab.size;unfold maxLen at eW;clear al cl dx bq dz dv;go_wp2_with fail;go_loopg [37] f.length (fun aa aA E=>∃(g:Nat) (m:List Nat),g≤f.length∧aa=f.length-g∧aA= .int .i64 g∧m.length=d+1∧(∀L∈m,L=0∨L=1)∧Hid (YO h i ((f.drop g).foldl (fun o e=>o.set e (o.getD e 0 ||| o.getD i 0)) m)=aj)∧Hid (E.heap[Q]? =some (.cells (ints (m.map Int.ofNat)).toArray 3 (0,0)))∧Hid (Below x.heap.size x E))
   case atStart=>exact ⟨0,o,Nat.zero_le _,rfl,rfl,d2,d3,dy,aU,ab⟩
   case round=>
    obtain ⟨g,m,eI,eJ,rfl,dA,bL,dB,bh,bE⟩:=hrel
    by_cases aB:g<f.length
    ·obtain ⟨aJ,bu,rfl,eY,aD⟩:=bt.out (by omega)
     have eZ:_=some (Value.int .i64 (f[g]:Int)):=(bE.cell (p:=⟨aJ,bu+g,none⟩) eY).trans ((aD g (by omega)).trans (by simp [ints,aB]));have e0:=eX.out f[g] (List.getElem_mem aB);have dC:=List.drop_eq_getElem_cons aB;have aO:=Z (show YO h i ((f.drop (g+1)).foldl (fun o e=>o.set e (o.getD e 0 ||| o.getD i 0)) (m.set f[g] (m.getD f[g] 0 ||| m.getD i 0)))=aj by have A:=dB.out;rw [dC,List.foldl_cons] at A;exact A);generalize f[g]=e at eZ e0 aO;obtain ⟨dD,fX⟩:=qV bh e (by simp;omega);obtain ⟨dE,-⟩:=qV bh i (by simp;omega);have M:(m.map Int.ofNat).getD e 0=((m.getD e 0:Nat):Int):=by simp [List.getD,show e<m.length by omega]
     have dF:(m.map Int.ofNat).getD i 0=((m.getD i 0:Nat):Int):=by simp [List.getD,show i<m.length by omega]
     have dG:m.getD e 0=0∨m.getD e 0=1:=bL _ (by rw [List.getD_eq_getElem?_getD,List.getElem?_eq_getElem (by omega)];exact List.getElem_mem _);have dH:m.getD i 0=0∨m.getD i 0=1:=bL _ (by rw [List.getD_eq_getElem?_getD,List.getElem?_eq_getElem (by omega)];exact List.getElem_mem _);rw [M] at dD;rw [dF] at dE;have fY:=qd bh;have eM:(0:Int)≤(e:Int):=by omega
     have fZ:(e:Int)<(d:Int)+1:=by omega
     have f0:(i:Int)<(d:Int)+1:=by omega
     have eN:(0:Int)≤(g:Int):=by omega
     have f1:(g:Int)<(f.length:Int):=by omega
     have f2:e≠i:=by omega
     generalize e1:m.getD e 0=bI at dD dG aO;generalize e2:m.getD i 0=f3 at dE dH aO;clear e1 e2 M dF dC aD;rcases dG with rfl | rfl<;>rcases dH with rfl | rfl
     all_goals
      go_wp2_with fail
      first | go_region | (fail "region")
      all_goals
       go_wp2_with fail;go_roundg (f.length-(g+1))
       case measure=>omega
       case rel=>
        refine ⟨g+1,_,by omega,rfl,by go_num,?_,?_,aO,Z (by rw [List.map_set];exact zo bh e _),(Below.set bE bY e _).drew⟩
        ·rw [List.length_set];exact dA
        ·intro L b1
         rcases List.mem_or_eq_of_mem_set b1 with q | q
         ·exact bL L q
         ·rw [q];decide
    ·obtain rfl:g=f.length:=by omega
     have A:=dB.out;rw [List.drop_length,List.foldl_nil] at A;have aO:=Z A;clear A;go_wp2_with fail;go_roundg i
     case measure=>omega
     case rel=>exact ⟨i,(i:Int)-1,m,rfl,by go_num,rfl,by omega,dA,bL,aO,bh,bE⟩
end Go.Proofs.YtklofgfkaaoipaaGreatDoor

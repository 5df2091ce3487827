/-
  THE CONTRACT of check.checker's expr, where all has a shape.
-/
import Derived.Test.YtklofgfkaaoipaaGreatDoorMTypePlain
import Derived.Test.YtklofgfkaaoipaaGreatDoorMMem
import Derived.WalkLawsBesides
import Derived.Lib.SliceRun
import Derived.Test.YtklofgfkaaoipaaGreatDoorMHd
set_option maxHeartbeats 16000000
set_option maxRecDepth 100000
set_option linter.unusedSimpArgs false
set_option linter.unusedVariables false
namespace Go.Proofs.YtklofgfkaaoipaaGreatDoor
open Go.RowKit Go.Proofs.Tryz
variable {B C M n:Nat}{W:World}{h:List Value}{A D E:Value}{s:TS}
theorem qj.pick {c:List (List Int)}(d:qj B W h c):∀(b:List Nat),(∀a∈b,a<h.length)→qj B W (b.map fun a=>h.getD a .nilIface) (b.map fun a=>c.getD a [])
 |[],_=>trivial
 |a::b,e=>by
  have f:=e a (by simp);have g:a<c.length:=by have:=d.length;omega
  refine ⟨?_,d.pick b fun i j=>e i (by simp [j])⟩;have:=d.get a f g;simpa [List.getD,f,g] using this
theorem KSt.stp (a:KSt B C M n A D E h s W)(i:Nat)(m:i<h.length)(u:Value)(l:List Int)(t:W.ownsRow 0 3 1 u l.length (ints l)):
  ∃b f,E= .slice (some ⟨b,0,none⟩) h.length f∧W.cell? ⟨b,i,none⟩=some (h.getD i .nilIface)∧W.frozen? ⟨b,i,none⟩=false∧b<W.heap.size∧h.length≤f∧
   KSt B C M n A D E (h.set i u) {s with shapes:=s.shapes.set i l} (W.setCell ⟨b,i,none⟩ u)∧W.grownBy (W.setCell ⟨b,i,none⟩ u) E.ownBlock:=by
 obtain ⟨b,f,g,_,v,w,x,y,z⟩:=zm a.shp i m;obtain ⟨F,c⟩:=z u;obtain ⟨_,G,o,H,-⟩:=qg a.shp;obtain ⟨-,rfl⟩:_∧f=G:=by rw [g] at o;simpa using o
 have I:∃p j q,W.heap[b]? =some (Obj.cells p j q)∧j=24:=by
  rcases a.shp.2 with ⟨d,_⟩ | ⟨J,_,_,d,_,e,_⟩
  ·rw [g] at d;simp at d
  ·obtain rfl:b=J:=by rw [g] at d;simp at d;exact d.1
   exact ⟨_,_,_,e,rfl⟩
 obtain ⟨p,j,q,e,K⟩:=I;subst K;refine ⟨b,f,g,x.trans (by simp [List.getD,m]),y,v,H,⟨?_,?_,?_,?_,a.hC,a.hM,a.b0,?_⟩,by rw [w];exact c⟩
 ·rw [←a.blk]
  refine c.block C (qd a.blk) fun k=> ?_
  have r:=a.blk;obtain rfl:C=b:=by simpa using k
  rw [e] at r;cases r
 ·exact a.map.kept c fun L N=>by
   obtain rfl:b=L:=by simpa using N
   exact ⟨_,_,_,e,by decide⟩
 ·rw [List.length_set];exact F
 ·exact (a.sh.kept c (Off.block e (by decide))).setAt i u l (qp t c (Off.block e (by decide)))
 ·unfold yC
  rw [←a.eT];refine World.cell?_of_block (c.block 0 (by omega) fun k=> ?_);have:=a.b0;simp at k;omega
theorem Zm {b:World}(a:Below W.heap.size W b)(c:Option Nat):W.grownBy b c:=⟨a.os,a.tape,a.output,a.size,fun d e _=>a.block d e⟩
theorem Qv:(prog.info? 24).map (fun a=>(a.zero,a.size,a.bytes))=some (some (.slice none 0 0),1,24):=by kernel_rfl
theorem zmF (Y:KSt B C M n A D E h s W){bu:List MStmt}{b:List MExpr}{bX bv:List Value}(aJ:TrAt B W A D bu b bX bv)(aR:zcS bu b=true)
  (i:Nat) (bY:i<b.length) (bZ:h.length=b.length) (aS:List (List Int)) (bw:zP b s.names (YK b i) 0 s.shapes= .ok aS):
  Calls prog 105 #[.pointer (some ⟨C,0,none⟩),.int .i64 i] W fun aa bx=>aa= .returned .nilIface∧W.grownBy bx E.ownBlock∧∃f,f.length=h.length∧KSt B C M n A D E f {s with shapes:=aS} bx:=by
 have H:=Z aJ;have b0:=Z Y;have aT:=Z aR;have c4:=aJ.esm;have c5:=qd Y.blk;have b1:=Y.cells.2.1;have bz:=Z bw;have c6:=ze9 b i;have aU:B≤W.heap.size:=by have:=Y.hC;omega
 have bA:=Z Y.shp.lt;have bB:=QC aR;have aK:=Z bB.1;clear bB;obtain ⟨aV,_,_,aW,rfl,_,-,-⟩:=aJ.ex.slots;clear Y aJ aR bw;go_enter func105,ntmps105;go_wp2_with (go_at_call 163;refine (zlE C i _ b bv _ b1 ((H.exAt aT).later (Below.refl _ _) aU) bY).mono ?_;rintro aa _ ⟨_,rfl,aX,bC⟩;have bD:=Z aX;have I:=Z bC;obtain ⟨bE,bF,rfl,_,-⟩:=qg aX;clear aX bC);go_loopg [17] (i+1) (fun j ac wr=>∃(a:Nat) (f:List Value) (J:List (List Int)),a≤i+1∧j=i+1-a∧ac= .int .i64 a∧f.length=b.length∧Hid (zP b s.names ((YK b i).drop a) a J= .ok aS)∧Hid (KSt B C M n A (.slice aV b.length aW) E f {s with shapes:=J} wr)∧Hid (W.grownBy wr E.ownBlock)∧Hid (wr.ownsRow W.heap.size 3 1 (.slice bE (i+1) bF) (i+1) (ints ((YK b i).map Int.ofNat))))
 case atStart=>exact ⟨0,h,s.shapes,by omega,rfl,rfl,bZ,bz,Z (b0.later I),Z ⟨I.os,I.tape,I.output,I.size,fun aL b2 _=>I.block aL b2⟩,bD⟩
 case round=>
  obtain ⟨a,f,J,_,_,rfl,aY,aZ,x,y,aM⟩:=hrel;clear bD I bz
  by_cases b3:a<i+1
  ·obtain ⟨bG,b4,bH,_,_,-,bI,-,-⟩:=zm aM a b3
   obtain ⟨rfl,rfl⟩:bE=some ⟨bG,0,none⟩∧bF=b4:=by simpa using bH
   have p:a<b.length:=by omega
   have bJ:a<(YK b i).length:=by omega
   have z:=List.drop_eq_getElem_cons bJ;have b5:wr.cell? ⟨bG,a,none⟩=some (.int .i64 ((YK b i)[a]:Int)):=by rw [bI];simp [ints,bJ]
   have K:=aZ.out;rw [z] at K;have bK:=zhd K p;generalize (YK b i)[a]=aN at b5 bK;clear K z bI bH;have k1:(0:Int)≤(a:Int):=by omega
   have k2:(a:Int)<(i:Int)+1:=by omega
   rcases bK with ⟨r,F⟩ | ⟨r,ad,L,bL,ae,F⟩ | ⟨r,ad,L,bM,ae,F⟩
   ·subst r
    have af:=Z F;clear F;go_wp2_with fail;go_roundg (i+1-(a+1))
    case measure=>omega
    case rel=>exact ⟨a+1,f,J,by omega,rfl,by go_num,aY,af,x,y,aM⟩
   ·have af:=Z F
    have a0:=Z (show YL b[a].kind b[a].num (b[a].args.map fun d=>J.getD d [])=([],true) by rw [ad];rfl);have b6:=Z bL;have a1:=Z ae;have b7:(b[a].kind==2)=true:=by simpa using ad
    have b8:((b[a].kind:Int)==2)=true:=by simp;omega
    clear F bL ae ad;have N:=Qq y aU (fun j O=>(bA j O).1);have b9:=Z N;have ca:=y.size;obtain ⟨a2,a3,cb,cc,cd,ag,a4,ce,ah,cf,cg,ch,ci,cj⟩:=(H.later N).expr a p;obtain ⟨rfl,rfl⟩:aV=a2∧aW=a3:=by simpa using ag
    subst a4;have ai:=H.eb b[a] (List.getElem_mem p);have aj:=H.ok aT a p;have ak:=Z (aK a p).2;have al:=(aK a p).1;obtain ⟨k,am,a5,l,rfl,ck,an,P⟩:=ah.slots;simp only [Nat.mul_one] at P;obtain ⟨cl,cm,cn,co⟩:=x.cells;have cp:=qd x.blk;have cq:(0:Int)≤(a:Int):=by omega
    have cr:(a:Int)<(b.length:Int):=by omega
    have cs:b[a].args.length≤3:=by
     have:YJ b[a].kind≤3:=by unfold YJ;repeat' split<;>omega
     omega
    have ct:(aN==0)=false:=by simpa using r
    have cu:((aN:Int)==0)=false:=by simpa using r
    generalize cv:b[a].args=c at *;have ao:=Z an;have a6:=Z P;have a7:=Z al;have aO:=Z ai;have a8:=Z aj;clear N ag ah ai aj al an P r;go_wp2_with fail;have ap:=(Below.refl wr.heap.size wr).alloc (Nat.le_refl _) (.cells #[.int .i64 b[a].kind,.string (qx b[a].name),.int .u64 b[a].num,.slice k c.length l,.int .i64 b[a].pos] 146);have aq:=Z (heap_alloc_new wr (.cells #[.int .i64 b[a].kind,.string (qx b[a].name),.int .u64 b[a].num,.slice k c.length l,.int .i64 b[a].pos] 146));have ar:=Z ap;have a9:(wr.alloc (.cells #[.int .i64 b[a].kind,.string (qx b[a].name),.int .u64 b[a].num,.slice k c.length l,.int .i64 b[a].pos] 146)).heap.size=wr.heap.size+1:=by simp
    clear ap;generalize wr.alloc (.cells #[.int .i64 b[a].kind,.string (qx b[a].name),.int .u64 b[a].num,.slice k c.length l,.int .i64 b[a].pos] 146)=Q at aq ar a9 ⊢;go_loopg [8,35] c.length (fun j au ac g=>∃e:Nat,e≤c.length∧j=c.length-e∧ac= .int .i64 e∧Hid (g.ownsRow Q.heap.size 24 1 au e ((c.take e).map fun d=>f.getD d .nilIface))∧Hid (Below Q.heap.size Q g))
    case atStart=>exact ⟨0,Nat.zero_le _,rfl,rfl,Z (World.ownsRow_nil _ _ _ _),Z (Below.refl _ _)⟩
    case round=>
     obtain ⟨e,cw,cx,rfl,t,u⟩:=hrel;rename Value=>au
     rename World=>g
     have v:=Z (ar.trans (u.mono (by omega)));have m:=Z (x.later v);have ba:=u.size;have R:=(u.block wr.heap.size (by omega)).trans aq;have av:=Z R;obtain ⟨cy,cz,cA,cB,cC⟩:=(show g.cell? ⟨wr.heap.size,0,none⟩=some (.int .i64 b[a].kind)∧g.cell? ⟨wr.heap.size,1,none⟩=some (.string (qx b[a].name))∧g.cell? ⟨wr.heap.size,2,none⟩=some (.int .u64 b[a].num)∧g.cell? ⟨wr.heap.size,3,none⟩=some (.slice k c.length l)∧g.cell? ⟨wr.heap.size,4,none⟩=some (.int .i64 b[a].pos) by refine ⟨?_,?_,?_,?_,?_⟩<;>simp [World.cell?,R]);obtain ⟨cD,cE,cF,bb⟩:=m.cells;clear R
     by_cases w:e<c.length
     ·have bc:=ak.out c[e] (List.getElem_mem w)
      have bd:=(v.cell (p:=⟨am,a5+e,none⟩) (show am<wr.heap.size by have:=(ao (by omega)).2;omega)).trans ((a6 e w).trans (by simp [ints,w]:_=some (Value.int .i64 (c[e]:Int))));obtain ⟨rfl,cG⟩:=ao.out (by omega);have z:(c.take (e+1)).map (fun d=>f.getD d Value.nilIface)=(c.take e).map (fun d=>f.getD d Value.nilIface)++[f.getD c[e] Value.nilIface]:=by rw [List.take_add_one,List.getElem?_eq_getElem w,List.map_append];rfl
      have S:=Z z;clear z;generalize c[e]=d at bc bd S;obtain ⟨be,cH,aw,-,cI,-,ax,-,-⟩:=zm m.shp d (by omega);rw [aw] at bb;have bf:g.cell? ⟨be,d,none⟩=some (f.getD d .nilIface):=by rw [ax];simp [List.getD,show d<f.length by omega]
      have ay:f.getD d .nilIface=f[d]'(by omega):=by simp [List.getD,show d<f.length by omega]
      obtain ⟨bg,bh,az,-,-⟩:=qg (m.sh.get d (by omega) (by have:=m.sh.length;omega));obtain ⟨aA,aB⟩:∃aA,f.getD d .nilIface= .slice bg aA bh:=⟨_,ay.trans az⟩;rw [aB] at bf S;clear ay az aB;have cJ:(0:Int)≤(d:Int):=by omega
      have cK:(d:Int)<(f.length:Int):=by omega
      have cL:(0:Int)≤(e:Int):=by omega
      have cM:(e:Int)<(c.length:Int):=by omega
      have o:=t.out;clear ax aw;go_wp2_with (at_builtin;refine yS rfl _ _ 27 rfl 24 (.slice none 0 0) 1 24 underlying27 Qv rfl (by decide) #[_] _ _ _ _ o rfl rfl rfl (by intro cN aC;simp at aC;subst aC;rfl) (by omega) (by omega) (by unfold maxLen;omega) ?_;intro cO cP aD aE _;have bi:=Z aD;have bj:=Z aE;clear aD aE);go_roundg (c.length-(e+1))
      case measure=>omega
      case rel=>
       refine ⟨e+1,by omega,rfl,by go_num,?_,Z (u.grown bj ba (fun j O=>(t.lt j O).1))⟩;rw [S.out];exact bi
     ·obtain rfl:e=c.length:=by omega
      have o:=t.out;rw [List.take_length] at o;have bk:=Z o;obtain ⟨bl,bm,rfl,-,-⟩:=qg o;clear o t;have aF:ShO g (.slice bl c.length bm) (c.map fun d=>J.getD d []):=⟨_,by have:=Arr.of_owns bk;rw [show c.length=(c.map fun d=>f.getD d .nilIface).length by simp] at this;simpa using this,qj.pick m.sh c (fun d bn=>by have:=ak.out d bn;omega)⟩;have bo:=Z aF;clear aF;have T:=a8.out b[a].num (qx b[a].name) (.slice k c.length l) b[a].pos _ _ g ⟨_,_,_,rfl⟩ bo (by rw [List.length_map];exact a7);rw [a0.out] at T;have bp:=Z T;clear T;have cQ:(qN L==0)=false:=by simpa using a1.out
      go_wp2_with (go_at_call 164;refine bp.mono ?_;rintro aa U ⟨_,rfl,bN,q⟩;have aP:=Z q;have V:=Z (m.later q);have ab:=(q.block wr.heap.size (qd av)).trans av;have cR:U.cell? ⟨wr.heap.size,0,none⟩=some (.int .i64 b[a].kind):=(by simp [World.cell?,ab]);have c8:U.cell? ⟨wr.heap.size,1,none⟩=some (.string (qx b[a].name)):=(by simp [World.cell?,ab]);have c9:=V.cells.2.2.1;have bO:=q.size;obtain ⟨cS,bP,bQ⟩:=V.map;have bR:=bQ b[a].name aO.1;simp only [b6.out] at bR;obtain ⟨bS,bT,G⟩:=bR;have bq:=Z G;have bU:=fun (aL:Nat)=>(show YM (U.drewN aL) M n cS from bP.kept (yI (qC (Below.refl _ _) aL)) (by simp)).look b[a].name aO.2 aO.1;simp only [bT] at bU;obtain ⟨_,_,rfl,-,-⟩:=qg bN;obtain ⟨cT,cU,rfl,-,-⟩:=qg G;have da:=bU 0;clear G bN q ab bQ bP bT)
      first | go_quiet (fail) | (fail "region")
      have aQ:=qC (Below.refl U.heap.size U) nq;have br:=Z (V.later aQ);have bV:=Z (Below.owns bq aQ);have bW:=Z (aP.trans (aQ.mono bO));obtain ⟨cV,cW,X,cX,cY,cZ,c0,aG,aH⟩:=br.stp a (by omega) _ L bV;have bs:=Z aG;have aI:=Z aH;have bt:=br.cells.2.2.2;rw [X] at bt;have c1:=Z X;have c2:(a:Int)<(f.length:Int):=by omega
      clear aQ aG aH X;go_wp2_with (go_at_call 34;refine (zB _ L _ (Arr.of_owns bV)).mono ?_;rintro aa c3 ⟨rfl,rfl⟩);go_roundg (i+1-(a+1))
      case measure=>omega
      case rel=>
       refine ⟨a+1,_,_,by omega,rfl,by go_num,by rw [List.length_set];exact aY,af,bs,?_,qp (Below.owns (Below.owns aM v) bW) aI (Off.owned br.shp (by decide))⟩;exact ((y.trans (Zm v _)).trans (Zm bW _)).trans aI
   ·have af:=Z F
    have a0:=Z bM;have a1:=Z ae;have b7:(b[a].kind==2)=false:=by simpa using ad
    have b8:((b[a].kind:Int)==2)=false:=by simp;omega
    clear F bM ae;have N:=Qq y aU (fun j O=>(bA j O).1);have b9:=Z N;have ca:=y.size;obtain ⟨a2,a3,cb,cc,cd,ag,a4,ce,ah,cf,cg,ch,ci,cj⟩:=(H.later N).expr a p;obtain ⟨rfl,rfl⟩:aV=a2∧aW=a3:=by simpa using ag
    subst a4;have ai:=H.eb b[a] (List.getElem_mem p);have aj:=H.ok aT a p;have ak:=Z (aK a p).2;have al:=(aK a p).1;obtain ⟨k,am,a5,l,rfl,ck,an,P⟩:=ah.slots;simp only [Nat.mul_one] at P;obtain ⟨cl,cm,cn,co⟩:=x.cells;have cp:=qd x.blk;have cq:(0:Int)≤(a:Int):=by omega
    have cr:(a:Int)<(b.length:Int):=by omega
    have cs:b[a].args.length≤3:=by
     have:YJ b[a].kind≤3:=by unfold YJ;repeat' split<;>omega
     omega
    have ct:(aN==0)=false:=by simpa using r
    have cu:((aN:Int)==0)=false:=by simpa using r
    generalize cv:b[a].args=c at *;have ao:=Z an;have a6:=Z P;have a7:=Z al;have aO:=Z ai;have a8:=Z aj;clear N ag ah ai aj al an P r;go_wp2_with fail;have ap:=(Below.refl wr.heap.size wr).alloc (Nat.le_refl _) (.cells #[.int .i64 b[a].kind,.string (qx b[a].name),.int .u64 b[a].num,.slice k c.length l,.int .i64 b[a].pos] 146);have aq:=Z (heap_alloc_new wr (.cells #[.int .i64 b[a].kind,.string (qx b[a].name),.int .u64 b[a].num,.slice k c.length l,.int .i64 b[a].pos] 146));have ar:=Z ap;have a9:(wr.alloc (.cells #[.int .i64 b[a].kind,.string (qx b[a].name),.int .u64 b[a].num,.slice k c.length l,.int .i64 b[a].pos] 146)).heap.size=wr.heap.size+1:=by simp
    clear ap;generalize wr.alloc (.cells #[.int .i64 b[a].kind,.string (qx b[a].name),.int .u64 b[a].num,.slice k c.length l,.int .i64 b[a].pos] 146)=Q at aq ar a9 ⊢;go_loopg [8,35] c.length (fun j au ac g=>∃e:Nat,e≤c.length∧j=c.length-e∧ac= .int .i64 e∧Hid (g.ownsRow Q.heap.size 24 1 au e ((c.take e).map fun d=>f.getD d .nilIface))∧Hid (Below Q.heap.size Q g))
    case atStart=>exact ⟨0,Nat.zero_le _,rfl,rfl,Z (World.ownsRow_nil _ _ _ _),Z (Below.refl _ _)⟩
    case round=>
     obtain ⟨e,cw,cx,rfl,t,u⟩:=hrel;rename Value=>au
     rename World=>g
     have v:=Z (ar.trans (u.mono (by omega)));have m:=Z (x.later v);have ba:=u.size;have R:=(u.block wr.heap.size (by omega)).trans aq;have av:=Z R;obtain ⟨cy,cz,cA,cB,cC⟩:=(show g.cell? ⟨wr.heap.size,0,none⟩=some (.int .i64 b[a].kind)∧g.cell? ⟨wr.heap.size,1,none⟩=some (.string (qx b[a].name))∧g.cell? ⟨wr.heap.size,2,none⟩=some (.int .u64 b[a].num)∧g.cell? ⟨wr.heap.size,3,none⟩=some (.slice k c.length l)∧g.cell? ⟨wr.heap.size,4,none⟩=some (.int .i64 b[a].pos) by refine ⟨?_,?_,?_,?_,?_⟩<;>simp [World.cell?,R]);obtain ⟨cD,cE,cF,bb⟩:=m.cells;clear R
     by_cases w:e<c.length
     ·have bc:=ak.out c[e] (List.getElem_mem w)
      have bd:=(v.cell (p:=⟨am,a5+e,none⟩) (show am<wr.heap.size by have:=(ao (by omega)).2;omega)).trans ((a6 e w).trans (by simp [ints,w]:_=some (Value.int .i64 (c[e]:Int))));obtain ⟨rfl,cG⟩:=ao.out (by omega);have z:(c.take (e+1)).map (fun d=>f.getD d Value.nilIface)=(c.take e).map (fun d=>f.getD d Value.nilIface)++[f.getD c[e] Value.nilIface]:=by rw [List.take_add_one,List.getElem?_eq_getElem w,List.map_append];rfl
      have S:=Z z;clear z;generalize c[e]=d at bc bd S;obtain ⟨be,cH,aw,-,cI,-,ax,-,-⟩:=zm m.shp d (by omega);rw [aw] at bb;have bf:g.cell? ⟨be,d,none⟩=some (f.getD d .nilIface):=by rw [ax];simp [List.getD,show d<f.length by omega]
      have ay:f.getD d .nilIface=f[d]'(by omega):=by simp [List.getD,show d<f.length by omega]
      obtain ⟨bg,bh,az,-,-⟩:=qg (m.sh.get d (by omega) (by have:=m.sh.length;omega));obtain ⟨aA,aB⟩:∃aA,f.getD d .nilIface= .slice bg aA bh:=⟨_,ay.trans az⟩;rw [aB] at bf S;clear ay az aB;have cJ:(0:Int)≤(d:Int):=by omega
      have cK:(d:Int)<(f.length:Int):=by omega
      have cL:(0:Int)≤(e:Int):=by omega
      have cM:(e:Int)<(c.length:Int):=by omega
      have o:=t.out;clear ax aw;go_wp2_with (at_builtin;refine yS rfl _ _ 27 rfl 24 (.slice none 0 0) 1 24 underlying27 Qv rfl (by decide) #[_] _ _ _ _ o rfl rfl rfl (by intro cN aC;simp at aC;subst aC;rfl) (by omega) (by omega) (by unfold maxLen;omega) ?_;intro cO cP aD aE _;have bi:=Z aD;have bj:=Z aE;clear aD aE);go_roundg (c.length-(e+1))
      case measure=>omega
      case rel=>
       refine ⟨e+1,by omega,rfl,by go_num,?_,Z (u.grown bj ba (fun j O=>(t.lt j O).1))⟩;rw [S.out];exact bi
     ·obtain rfl:e=c.length:=by omega
      have o:=t.out;rw [List.take_length] at o;have bk:=Z o;obtain ⟨bl,bm,rfl,-,-⟩:=qg o;clear o t;have aF:ShO g (.slice bl c.length bm) (c.map fun d=>J.getD d []):=⟨_,by have:=Arr.of_owns bk;rw [show c.length=(c.map fun d=>f.getD d .nilIface).length by simp] at this;simpa using this,qj.pick m.sh c (fun d bn=>by have:=ak.out d bn;omega)⟩;have bo:=Z aF;clear aF;have T:=a8.out b[a].num (qx b[a].name) (.slice k c.length l) b[a].pos _ _ g ⟨_,_,_,rfl⟩ bo (by rw [List.length_map];exact a7);rw [a0.out] at T;have bp:=Z T;clear T;have cQ:(qN L==0)=false:=by simpa using a1.out
      go_wp2_with (first | (go_at_call 34;refine (zB _ L _ (Arr.of_owns bq)).mono ?_;rintro aa c3 ⟨rfl,rfl⟩) | (go_at_call 164;refine bp.mono ?_;rintro aa U ⟨bS,rfl,G,q⟩;have bq:=Z G;have aP:=Z q;have V:=Z (m.later q);have ab:=(q.block wr.heap.size (qd av)).trans av;have cR:U.cell? ⟨wr.heap.size,0,none⟩=some (.int .i64 b[a].kind):=(by simp [World.cell?,ab]);have bt:=V.cells.2.2.2;have bO:=q.size;obtain ⟨cV,cW,X,cX,cY,cZ,c0,aG,aH⟩:=V.stp a (by omega) bS L G;have bs:=Z aG;have aI:=Z aH;have c1:=Z X;rw [X] at bt;have c2:(a:Int)<(f.length:Int):=(by omega);obtain ⟨cT,cU,rfl,-,-⟩:=qg G;clear G q ab aG aH X));go_roundg (i+1-(a+1))
      case measure=>omega
      case rel=>
       refine ⟨a+1,_,_,by omega,rfl,by go_num,by rw [List.length_set];exact aY,af,bs,?_,qp (Below.owns (Below.owns aM v) aP) aI (Off.owned V.shp (by decide))⟩;exact ((y.trans (Zm v _)).trans (Zm aP _)).trans aI
  ·obtain rfl:a=i+1:=by omega
   have K:=aZ.out;rw [List.drop_of_length_le (by omega)] at K;simp only [zP,Except.ok.injEq] at K;subst K;clear aZ;go_wp2_with fail;go_ret;exact ⟨rfl,y,f,by omega,x⟩
theorem zs (v:Value)(l:List Int)(w:World)(f:Arr w.heap.size w 1 v l.length (ints l))(A:l.length≤1000000000):
  Calls prog 69 #[v] w fun m g=>∃h,m= .returned h∧g.ownsRow w.heap.size 3 1 h l.length (ints l)∧Below w.heap.size w g:=by
 have:∀(w:World) (b:Option Addr) (c a d e:Nat),(binOp .eql 24 (.slice b c a) (.slice none d e)).run prog w= .ok (.bool b.isNone) w:=fun w b c a d e=>Lib.run_eql_slice_nil w _ _ b c a d e underlying24
 have n:=Z f;obtain ⟨o,a,rfl,_,_,i,p,q⟩:=f;rcases o with _ | r
 ·obtain rfl:=i rfl
  have s:l.length=0:=by omega
  have t:l=[]:=List.length_eq_zero_iff.1 s;subst t;go_enter func69,ntmps69;go_wp2_with fail;go_ret;exact ⟨_,rfl,World.ownsRow_nil _ _ _ _,Below.refl _ _⟩
 ·have u:=Z (n.later ((Below.refl w.heap.size w).alloc (Nat.le_refl _) (.cells #[] 3)) (Nat.le_refl _))
  clear q p i;go_enter func69,ntmps69;go_wp2_with (at_builtin;refine zgk rfl _ _ 24 rfl 3 (.int .i64 0) 1 8 underlying24 qD rfl (by decide) 0 l.length w.heap.size w.heap.size (.slice (some ⟨w.heap.size,0,none⟩) 0 0) (.slice (some r) l.length a) [] (ints l) (World.ownsRow_made w #[] 0 (Nat.le_refl _) (by unfold maxLen;omega) rfl) u rfl rfl (zaV _) (by rw [World.size_alloc];omega) (by omega) (by unfold maxLen;omega) ?_;intro _ _ j k _;have x:=Z j;have y:=Z k;clear j k);go_ret;refine ⟨_,rfl,by simpa using x.out,((Below.refl w.heap.size w).alloc (Nat.le_refl _) _).grown y (by rw [World.size_alloc];omega) (fun _ z=>by simp [Value.ownBlock] at z;omega)⟩
end Go.Proofs.YtklofgfkaaoipaaGreatDoor
namespace Go.Proofs.YtklofgfkaaoipaaGreatDoor
open Go.Proofs.Tryz
variable {h:List MExpr}{s:TS}{names:List (List Nat×List Int)}{A:List MStmt}{D:List (List Int)}
theorem Z2 {a:MStmt}{l:List MStmt}{k:Nat}{g:TS}(b:QU h (a::l) k s= .ok g)(c:a.kind=1∨a.kind=3∨(a.kind=2∧a.expr<h.length)):
  (a.kind=1∧(a.party=0∨a.party=1)∧qN a.shape≠0∧∃d,ZO s a.name a.shape= .ok d∧k+1≤8∧QU h l (k+1) d= .ok g)∨
  (a.kind=2∧a.expr<h.length∧∃e d,zP h s.names (YK h a.expr) 0 s.shapes= .ok e∧ZO {s with shapes:=e} a.name (e.getD a.expr [])= .ok d∧QU h l k d= .ok g)∨
  (a.kind=3∧(∃i,YI s.names a.name=some i)∧QU h l k s= .ok g):=by
 unfold QU at b;rcases c with c | c | ⟨c,n⟩
 ·rw [if_pos c] at b
  split at b
  ·cases b
  ·rename_i f
   split at b
   ·cases b
   ·rename_i d j
    split at b
    ·cases b
    ·refine .inl ⟨c,?_,fun m=>f (.inr m),d,j,by omega,b⟩
     have:¬(a.party≠0∧a.party≠1):=fun m=>f (.inl m)
     omega
 ·rw [if_neg (by omega),if_neg (by omega)] at b
  split at b
  ·cases b
  ·rename_i f
   refine .inr (.inr ⟨c,?_,b⟩);rcases hl:YI s.names a.name with _ | i
   ·rw [hl] at f;simp at f
   ·exact ⟨i,rfl⟩
 ·rw [if_neg (by omega),if_pos c] at b
  split at b
  ·cases b
  ·rename_i e o
   split at b
   ·cases b
   ·rename_i d j
    exact .inr (.inl ⟨c,n,e,d,o,j,b⟩)
theorem Zf :∀(b:List Nat) (e:Nat) (c d:List (List Int)),zP h names b e c= .ok d→d.length=c.length
 |[],_,c,d,a=>by simp only [zP,Except.ok.injEq] at a;rw [a]
 |f::b,e,c,d,a=>by
  unfold zP at a
  split at a
  ·exact Zf b _ _ _ a
  ·simp only at a
   split at a
   ·split at a
    ·cases a
    ·split at a
     ·cases a
     ·have:=Zf b _ _ _ a;simpa using this
   ·split at a
    ·cases a
    ·have:=Zf b _ _ _ a;simpa using this
theorem Zg {b:TS}{x:List Nat}{l:List Int}(a:ZO s x l= .ok b):b={s with names:=s.names++[(x,l)]}:=by
 unfold ZO at a
 split at a
 ·cases a
 ·simpa using a.symm
theorem zby (a:zbc A h= .ok D):zcS A h=true∧∃b,QU h A 0 ⟨[],List.replicate h.length []⟩= .ok b∧b.shapes=D:=by
 unfold zbc at a
 split at a
 ·rename_i c
  split at a
  ·cases a
  ·rename_i d e
   exact ⟨c,d,e,by simpa using a⟩
 ·cases a
theorem zeA {s:List Int}(a:qN s≠0):s.length≤2:=by
 unfold qN at a
 split at a
 ·exact absurd rfl a
 ·split at a
  ·exact absurd rfl a
  ·omega
theorem zkp {l:List (List Int)}{i:Nat}{x:List Int}(c:∀a∈l,a.length≤2)(d:x.length≤2):∀a∈l.set i x,a.length≤2:=fun a e=>by
 rcases List.mem_or_eq_of_mem_set e with b | b
 ·exact c a b
 ·rw [b];exact d
theorem Y6 :∀(b:List Nat) (i:Nat) (d e:List (List Int)),zP h names b i d= .ok e→(∀f∈d,f.length≤2)→∀f∈e,f.length≤2
 |[],_,d,e,a,c=>by simp only [zP,Except.ok.injEq] at a;rw [←a];exact c
 |j::b,i,d,e,a,c=>by
  unfold zP at a
  split at a
  ·exact Y6 b _ _ _ a c
  ·simp only at a
   split at a
   ·split at a
    ·cases a
    ·split at a
     ·cases a
     ·rename_i g
      exact Y6 b _ _ _ a (zkp c (zeA g))
   ·split at a
    ·cases a
    ·rename_i g
     exact Y6 b _ _ _ a (zkp c (zeA (not_or.1 g).2))
theorem Zt :∀(b:List MStmt) (n:Nat) (d a:TS),(∀c∈b,c.kind=1∨c.kind=3∨(c.kind=2∧c.expr<h.length))→QU h b n d= .ok a→(∀i∈d.shapes,i.length≤2)→∀i∈a.shapes,i.length≤2
 |[],_,d,a,_,g,e=>by simp only [QU,Except.ok.injEq] at g;rw [←g];exact e
 |c::b,n,d,a,o,g,e=>by
  have j:=fun p k=>o p (List.mem_cons_of_mem _ k)
  rcases Z2 g (o c (by simp)) with ⟨-,-,-,l,m,-,f⟩ | ⟨-,-,_,l,k,m,f⟩ | ⟨-,-,f⟩
  ·have:=Zg m
   exact Zt b _ l a j f (by rw [this];exact e)
  ·have:=Zg m
   exact Zt b _ l a j f (by rw [this];exact Y6 _ _ _ _ k e)
  ·exact Zt b _ d a j f e
theorem zcQ (b:zbc A h= .ok D):∀a∈D,a.length≤2:=by
 obtain ⟨c,d,e,rfl⟩:=zby b;exact Zt A 0 _ d (QC c).2 e (fun a f=>by rw [(List.mem_replicate.1 f).2];simp)
end Go.Proofs.YtklofgfkaaoipaaGreatDoor
namespace Go.Proofs.YtklofgfkaaoipaaGreatDoor
open Go.RowKit Go.Proofs.Tryz
variable {B:Nat}
theorem zd8 {w a:World}(b:Below B w a):Below B w a.drew:=b.drew
theorem KSt.new {W:World}(c d:Value)(n:Nat)(p:n≤1000)(g:B≤W.heap.size)(h:0<B)(i:yC W):
  KSt B (W.heap.size+2) W.heap.size 0 c d (.slice (some ⟨W.heap.size+1,0,none⟩) n n) (List.replicate n (.slice none 0 0)) ⟨[],List.replicate n []⟩ (((W.alloc (.map #[] 0)).alloc (.cells (Array.replicate n (.slice none 0 0)) 24)).alloc (.cells #[c,d,.map (some W.heap.size),.slice (some ⟨W.heap.size+1,0,none⟩) n n] 229))∧
  KSt B (W.heap.size+2) (W.heap.size+1) 0 c d (.slice (some ⟨W.heap.size,0,none⟩) n n) (List.replicate n (.slice none 0 0)) ⟨[],List.replicate n []⟩ (((W.alloc (.cells (Array.replicate n (.slice none 0 0)) 24)).alloc (.map #[] 0)).alloc (.cells #[c,d,.map (some (W.heap.size+1)),.slice (some ⟨W.heap.size,0,none⟩) n n] 229)):=by
 have j:∀(a:World),B≤a.heap.size→(a.alloc (.cells (Array.replicate n (Value.slice none 0 0)) 24)).ownsRow B 24 1 (.slice (some ⟨a.heap.size,0,none⟩) n n) (List.replicate n (Value.slice none 0 0)).length (List.replicate n (.slice none 0 0)):=fun a m=>by
  have:=World.ownsRow_lit (base:=B) (e:=24) (size:=1) a (Array.replicate n (Value.slice none 0 0)) n m (by unfold maxLen;omega) (by simp);simpa using this
 have k:∀(a:World) (f:Nat),qj 0 a (List.replicate f (.slice none 0 0)) (List.replicate f []):=fun a f=>by
  induction f with
  |zero=>trivial
  |succ f ih=>exact ⟨World.ownsRow_nil _ _ _ _,ih⟩
 have b:∀(a:World) (l:Obj),Below a.heap.size a (a.alloc l):=fun a l=>(Below.refl _ _).alloc (Nat.le_refl _) _
 refine ⟨⟨?_,?_,?_,k _ n,by omega,g,h,?_⟩,⟨?_,?_,?_,k _ n,by omega,by omega,h,?_⟩⟩
 ·have:=heap_alloc_new ((W.alloc (.map #[] 0)).alloc (.cells (Array.replicate n (.slice none 0 0)) 24)) (.cells #[c,d,.map (some W.heap.size),.slice (some ⟨W.heap.size+1,0,none⟩) n n] 229)
  simpa only [World.size_alloc] using this
 ·exact ⟨fun _=>none,((YM.made W).kept (yI (b _ _)) (by simp)).kept (yI (b _ _)) (by simp),fun o _=>rfl⟩
 ·have:=j (W.alloc (.map #[] 0)) (by rw [World.size_alloc];omega)
  rw [World.size_alloc] at this;exact this.alloc _
 ·exact ((i.below (b _ _)).below (b _ _)).below (b _ _)
 ·have:=heap_alloc_new ((W.alloc (.cells (Array.replicate n (.slice none 0 0)) 24)).alloc (.map #[] 0)) (.cells #[c,d,.map (some (W.heap.size+1)),.slice (some ⟨W.heap.size,0,none⟩) n n] 229)
  simpa only [World.size_alloc] using this
 ·have:=YM.made (W.alloc (.cells (Array.replicate n (.slice none 0 0)) 24))
  rw [World.size_alloc] at this;exact ⟨fun _=>none,this.kept (yI (b _ _)) (by simp),fun o _=>rfl⟩
 ·exact ((j W g).alloc _).alloc _
 ·exact ((i.below (b _ _)).below (b _ _)).below (b _ _)
theorem zlj (n:Nat):madeCells (Value.slice none 0 0).cells n=(Array.replicate n (.slice none 0 0)):=by
 apply Array.toList_inj.1
 show (madeCells #[.slice none 0 0] n).toList=_;rw [toList_madeCells_one];simp
theorem zll (n:Nat)(f:n≤100000)(w:World):(Instr.makeSlice 27 (.int .i64 (n:Int)) (.int .i64 (n:Int))).run prog w= .ok (.slice (some ⟨w.heap.size,0,none⟩) n n) (w.alloc (.cells (Array.replicate n (.slice none 0 0)) 24)):=by
 obtain ⟨a,b,c,d,e⟩:=info_parts Qv;have:=run_make (P:=prog) w 27 24 a (.slice none 0 0) underlying27 b c .i64 .i64 (n:Int) (n:Int) (by omega) (by omega) (by rw [e];omega) (by omega);rw [d,Int.toNat_natCast,Nat.mul_one,zlj] at this;exact this
theorem zfc (bk bl:Value)(d:List MStmt)(b:List MExpr)(av aw:List Value)(w:World)(X:TrAt w.heap.size w bk bl d b av aw)(bm:yC w)(dc:0<w.heap.size)(bn:List (List Int))(aT:zbc d b= .ok bn):
  Calls prog 66 #[.agg #[bk,bl]] w fun g bo=>∃bp,g= .returned (.tuple #[bp,.nilIface])∧qO w.heap.size bo bp bn∧Below w.heap.size w bo:=by
 obtain ⟨aU,bq,ae,rfl⟩:=zby aT;have aV:=Z X;have br:=Z ae;have bs:=Z aU;have cg:=Z (QC aU).2;have ch:=Z (zcQ aT);have bt:=X.esm;have dd:=X.ssm;obtain ⟨L,_,_,M,rfl,_,-,-⟩:=X.ex.slots;obtain ⟨D,_,_,E,rfl,_,-,-⟩:=X.stm.slots;have ax:=(Below.refl w.heap.size w).alloc (Nat.le_refl _) (.cells #[.slice D d.length E,.slice L b.length M] 71);have ci:=Z ax;have cj:=Z (show TrAt (w.alloc (.cells #[.slice D d.length E,.slice L b.length M] 71)).heap.size (w.alloc (.cells #[.slice D d.length E,.slice L b.length M] 71)) _ _ d b av aw from (X.later ax).up (by simp));have ck:=Z (heap_alloc_new w (.cells #[.slice D d.length E,.slice L b.length M] 71));have cl:=Z (bm.below ax);have cm:(w.alloc (.cells #[.slice D d.length E,.slice L b.length M] 71)).heap.size=w.heap.size+1:=by simp
 have bu:=Z (zll b.length (by omega));clear X bm aT ae aU ax;go_enter func66,ntmps66;go_upto_region 3 with (go_at_call 102;refine (znN _ _ d b av aw _ cj bs).mono ?_;rintro g af ⟨rfl,N⟩;have de:=Z N;have ay:=(N.block w.heap.size (by omega)).trans ck;have bv:=Z ay;have cn:=(yL ay).1;have k1:=(yL ay).2;have az:w.heap.size+1≤af.heap.size:=(by have:=N.size;omega);have co:w.heap.size<af.heap.size:=(by omega);have bw:=Z (cl.below N);have cp:=Z (ci.trans (N.mono (by omega)));clear N ay cm);go_cut [4] from 17 to 24 (fun cq aA=>∃(p O:Nat) (aW:Value),cq= .pointer (some ⟨p,0,none⟩)∧Hid (KSt (w.heap.size+1) p O 0 (.slice D d.length E) (.slice L b.length M) aW (List.replicate b.length (.slice none 0 0)) ⟨[],List.replicate b.length []⟩ aA)∧Hid (Below (w.heap.size+1) af aA))
 case first=>
  have bx:=bu.out;have df:=fun w=>run_makeMap (P:=prog) 227 w
  first | go_region | (fail "region")
  all_goals
   go_wp2_with fail;go_meet
   first
   |exact ⟨_,_,_,rfl,Z ((KSt.new _ _ b.length bt az (by omega) bw).1.later (Below.refl _ _).drew),Z (zd8 ((((Below.refl (w.heap.size+1) af).alloc az _).alloc (by rw [World.size_alloc];omega) _).alloc (by rw [World.size_alloc,World.size_alloc];omega) _))⟩
   |exact ⟨_,_,_,rfl,Z ((KSt.new _ _ b.length bt az (by omega) bw).2.later (Below.refl _ _).drew),Z (zd8 ((((Below.refl (w.heap.size+1) af).alloc az _).alloc (by rw [World.size_alloc];omega) _).alloc (by rw [World.size_alloc,World.size_alloc];omega) _))⟩
 case rest=>
  rename World=>aA
  obtain ⟨p,O,aW,rfl,bz,aB⟩:=hcut;have aX:=(aB.block w.heap.size (by omega)).trans bv;have cr:=(yL aX).1;have cs:=(yL aX).2;have ct:w.heap.size<aA.heap.size:=by have:=aB.size;omega
  have bA:(List.replicate b.length (Value.slice none 0 0)).length=b.length:=List.length_replicate;have bB:(List.replicate b.length ([]:List Int)).length=b.length:=List.length_replicate;have cu:=Z (show ∀cv∈bq.shapes,cv.length≤2 from ch);clear aX bv cn k1 co;go_wp2_with fail;go_loopg [5,28] d.length (fun Y cw cx wr=>∃(f k aa:Nat) (n:TS) (y:List Value),f≤d.length∧Y=d.length-f∧cw= .int .i64 k∧cx= .int .i64 f∧k≤f∧aa≤f∧y.length=b.length∧n.shapes.length=b.length∧Hid (QU b (d.drop f) k n= .ok bq)∧Hid (KSt (w.heap.size+1) p O aa (.slice D d.length E) (.slice L b.length M) aW y n wr)∧Hid (Below (w.heap.size+1) af wr))
  case atStart=>exact ⟨0,0,0,_,_,Nat.zero_le _,rfl,rfl,rfl,Nat.le_refl _,Nat.le_refl _,bA,bB,br,bz,aB⟩
  case round=>
   obtain ⟨f,k,aa,n,y,cy,cz,rfl,rfl,cA,_,ai,bC,aY,z,aj⟩:=hrel;clear bz aB br cr cs ct bA bB;rename World=>wr
   have aC:=Z (cp.trans (aj.mono (by omega)));have cB:=aC.size;have dg:=aj.size
   by_cases aD:f<d.length
   ·obtain ⟨cC,cD,_,_,_,bD,cE,_,aZ,a0,a1,a2,Q,a3,a4⟩:=(aV.later aC).stmt f aD
    obtain ⟨rfl,rfl⟩:D=cC∧E=cD:=by simpa using bD
    subst cE;have ab:=aY.out;rw [List.drop_eq_getElem_cons aD] at ab;have ae:=Z2 ab (cg _ (List.getElem_mem aD));have F:=Z (aV.sb d[f] (List.getElem_mem aD));obtain ⟨q,r,rfl,-,-⟩:=qg aZ;have dh:(0:Int)≤(f:Int):=by omega
    have di:(f:Int)<(d.length:Int):=by omega
    have ak:=Z aZ;clear ab bD aZ;generalize d[f]=cF at ae F ak a0 a1 a2 Q a3 a4;obtain ⟨a5,u,l,h,e,s⟩:=cF;simp only at ae F ak a0 a1 a2 Q a3 a4;rcases ae with ⟨v,cG,bE,al,R,_,t⟩ | ⟨v,cH,aE,al,a6,R,t⟩ | ⟨v,⟨_,bF⟩,t⟩
    ·obtain rfl:a5=1:=v
     have a7:=Z R;have am:=Z t;have dj:(qN h==0)=false:=by simpa using bE
     have k8:¬(8:Int)<(k:Int)+1:=by omega
     have an:=Zg R;have a8:al.shapes.length=b.length:=by rw [an];exact bC
     have i:=(Below.refl wr.heap.size wr).alloc (Nat.le_refl _) (.cells #[.int .i64 1,.int .i64 u,.string (qx l),.slice q h.length r,.int .i64 e,.int .i64 s] 149);have ao:=Z i;have S:=Z (z.later i);have aF:=Z (heap_alloc_new wr (.cells #[.int .i64 1,.int .i64 u,.string (qx l),.slice q h.length r,.int .i64 e,.int .i64 s] 149));have aG:=Z (Below.owns ak i);clear R t an i bE;rcases cG with bG | bG
     all_goals
      obtain rfl:=bG;go_wp2_with (first | (go_at_call 104;refine (zhF S (by omega) ⟨1,_,l,h,e,s⟩ (.slice q h.length r) _ h ⟨_,_,_,rfl⟩ aG F.1 F.2).mono ?_;unfold zd5;rw [a7.out];rintro g m ⟨ag,rfl,ap,-⟩;have x:=Z ag;have A:=Z ap;clear ag ap) | (go_at_call 34;refine (zB _ h _ (Arr.of_owns aG)).mono ?_;rintro g _ ⟨rfl,rfl⟩));go_roundg (d.length-(f+1))
      case measure=>omega
      case rel=>exact ⟨f+1,k+1,aa+1,al,y,by omega,rfl,by go_num,by go_num,by omega,by omega,ai,a8,am,A,Z ((aj.trans (ao.mono (by omega))).trans x)⟩
    ·obtain rfl:a5=2:=v
     obtain ⟨j,aH⟩:∃j,aE.getD e []=j:=⟨_,rfl⟩;rw [aH] at R;have cI:=Z aH;clear aH;have a7:=Z R;have cJ:=Z a6;have am:=Z t;have aH:=Zf _ _ _ _ a6;have an:=Zg R;have a8:al.shapes.length=b.length:=by rw [an];simp only;omega
     have i:=(Below.refl wr.heap.size wr).alloc (Nat.le_refl _) (.cells #[.int .i64 2,.int .i64 u,.string (qx l),.slice q h.length r,.int .i64 e,.int .i64 s] 149);have ao:=Z i;have S:=Z (z.later i);have aF:=Z (heap_alloc_new wr (.cells #[.int .i64 2,.int .i64 u,.string (qx l),.slice q h.length r,.int .i64 e,.int .i64 s] 149));have aG:=Z (Below.owns ak i);have cK:=Z (show TrAt (w.heap.size+1) (wr.alloc (.cells #[.int .i64 2,.int .i64 u,.string (qx l),.slice q h.length r,.int .i64 e,.int .i64 s] 149)) _ _ d b av aw from (aV.later (aC.trans (i.mono cB))).up (by omega));clear R a6 t an i;go_wp2_with (go_at_call 105;refine (zmF S cK bs e cH (by omega) aE cJ).mono ?_;rintro g m ⟨rfl,aI,aJ,_,ap⟩;have T:=(aI.block wr.heap.size (by rw [World.size_alloc];omega) (fun g=>yz S.shp aF (by decide) g.symm)).trans aF;have x:=Z (Qq aI (by rw [World.size_alloc];omega) (fun Y C=>(S.shp.lt Y C).1));have A:=Z ap;have bH:=aI.size;have dk:wr.heap.size<m.heap.size:=(by rw [World.size_alloc] at bH;omega);have bI:m.cell? ⟨wr.heap.size,0,none⟩=some (.int .i64 2):=(by simp [World.cell?,T]);have bJ:m.cell? ⟨wr.heap.size,1,none⟩=some (.int .i64 u):=(by simp [World.cell?,T]);have bK:m.cell? ⟨wr.heap.size,2,none⟩=some (.string (qx l)):=(by simp [World.cell?,T]);have bL:m.cell? ⟨wr.heap.size,3,none⟩=some (.slice q h.length r):=(by simp [World.cell?,T]);have bM:m.cell? ⟨wr.heap.size,4,none⟩=some (.int .i64 e):=(by simp [World.cell?,T]);have bN:m.cell? ⟨wr.heap.size,5,none⟩=some (.int .i64 s):=(by simp [World.cell?,T]);have cL:=Z T;clear aI T ap bH);have a9:e<aJ.length:=by omega
     have bO:e<aE.length:=by omega
     obtain ⟨aq,cM,bP,-,_,-,ar,-,-⟩:=zm A.shp e a9;have Q:=A.cells.2.2.2;rw [bP] at Q;have G:=A.sh.get e a9 bO;have bQ:aE[e]=j:=by rw [←cI.out];simp [List.getD,bO]
     rw [bQ] at G;obtain ⟨U,V,ba,-,-⟩:=qg G;have bb:m.cell? ⟨aq,e,none⟩=some (.slice U j.length V):=by rw [ar,List.getElem?_eq_getElem a9,ba]
     rw [ba] at G;have dl:(0:Int)≤(e:Int):=by omega
     have bR:(e:Int)<(aJ.length:Int):=by omega
     have cN:=Z (show m.drew.ownsRow 0 3 1 (.slice U j.length V) j.length (ints j) from G);clear ar G ba bQ bP;clear a0 a1 a2 a3 a4;have ah:wr.heap.size≠O:=fun g=>by obtain ⟨bS,bT,ac⟩:=(A.map).blk;rw [←g,cL.out] at ac;cases ac
     have cO:p≠O:=fun g=>by obtain ⟨bS,bT,ac⟩:=(A.map).blk;rw [←g,A.blk] at ac;cases ac
     have cP:aq≠O:=fun g=>by obtain ⟨bS,bT,ac⟩:=(A.map).blk;have:=bb;unfold World.cell? at this;rw [g,ac] at this;cases this
     go_region_held3 (fun W=>W.cell? ⟨wr.heap.size,0,none⟩=some (.int .i64 2)∧W.cell? ⟨wr.heap.size,1,none⟩=some (.int .i64 u)∧W.cell? ⟨wr.heap.size,2,none⟩=some (.string (qx l))∧W.cell? ⟨wr.heap.size,3,none⟩=some (.slice q h.length r)∧W.cell? ⟨wr.heap.size,4,none⟩=some (.int .i64 e)∧W.cell? ⟨wr.heap.size,5,none⟩=some (.int .i64 s)∧W.cell? ⟨p,3,none⟩=some (.slice (some ⟨aq,0,none⟩) aJ.length cM)∧W.cell? ⟨aq,e,none⟩=some (.slice U j.length V)) (first | exact ⟨bI,bJ,bK,bL,bM,bN,Q,bb⟩ | exact cQ) ((go_at_call 104;refine (zhF (A.later (Below.refl _ _).drew) (by omega) ⟨2,u,l,h,e,s⟩ (.slice q h.length r) _ j ⟨_,_,_,rfl⟩ cN F.1 F.2).mono ?_;unfold zd5;rw [a7.out];rintro g _ ⟨bU,rfl,bV,H⟩;have cQ:=Z (And.intro (H.cell (a:=⟨wr.heap.size,0,none⟩) bI (by simpa using ah)) (And.intro (H.cell (a:=⟨wr.heap.size,1,none⟩) bJ (by simpa using ah)) (And.intro (H.cell (a:=⟨wr.heap.size,2,none⟩) bK (by simpa using ah)) (And.intro (H.cell (a:=⟨wr.heap.size,3,none⟩) bL (by simpa using ah)) (And.intro (H.cell (a:=⟨wr.heap.size,4,none⟩) bM (by simpa using ah)) (And.intro (H.cell (a:=⟨wr.heap.size,5,none⟩) bN (by simpa using ah)) (And.intro (H.cell (a:=⟨p,3,none⟩) Q (by simpa using cO)) (H.cell (a:=⟨aq,e,none⟩) bb (by simpa using cP)))))))));have cR:=Z bU;have cS:=Z bV;clear bU bV H))
     all_goals
      go_wp2_with fail;go_roundg (d.length-(f+1))
      case measure=>omega
      case rel=>exact ⟨f+1,k,aa+1,al,aJ,by omega,rfl,by go_num,by go_num,by omega,by omega,by omega,a8,am,cS,Z ((((aj.trans (ao.mono (by omega))).trans x).drew).trans cR)⟩
    ·obtain rfl:a5=3:=v
     have am:=Z t;have i:=(Below.refl wr.heap.size wr).alloc (Nat.le_refl _) (.cells #[.int .i64 3,.int .i64 u,.string (qx l),.slice q h.length r,.int .i64 e,.int .i64 s] 149);have ao:=Z i;have S:=Z (z.later i);have aF:=Z (heap_alloc_new wr (.cells #[.int .i64 3,.int .i64 u,.string (qx l),.slice q h.length r,.int .i64 e,.int .i64 s] 149));have aG:=Z (Below.owns ak i);obtain ⟨cT,bW,bX⟩:=S.map;have bY:=bX l F.1;simp only [bF] at bY;obtain ⟨_,bZ,b0⟩:=bY;have b1:=fun (b2:Nat)=>(show YM ((wr.alloc (.cells #[.int .i64 3,.int .i64 u,.string (qx l),.slice q h.length r,.int .i64 e,.int .i64 s] 149)).drewN b2) O aa cT from bW.kept (yI (qC (Below.refl _ _) b2)) (by simp)).look l F.2 F.1
     simp only [bZ] at b1;obtain ⟨_,_,rfl,-,-⟩:=qg b0;have dm:=b1 0;have dp:=z.cells.2.2.1;have cU:=qd z.blk;clear t i bW bX bZ b0 bF;go_wp2_with fail
     first | go_quiet (fail) | (fail "region")
     go_wp2_with fail;go_roundg (d.length-(f+1))
     case measure=>omega
     case rel=>exact ⟨f+1,k,aa,n,y,by omega,rfl,by go_num,by go_num,by omega,by omega,ai,bC,am,Z (S.later (qC (Below.refl _ _) _)),Z (qC (aj.trans (ao.mono (by omega))) _)⟩
   ·obtain rfl:f=d.length:=by omega
    have ab:=aY.out;rw [List.drop_length] at ab;simp only [QU,Except.ok.injEq] at ab;subst ab;obtain ⟨-,-,-,Q⟩:=z.cells;have cU:=qd z.blk;obtain ⟨U,V,rfl,cV,-⟩:=qg z.shp;rw [ai] at Q cV;have bx:=bu.out wr;have b3:=World.ownsRow_lit (base:=w.heap.size) (e:=24) (size:=1) wr (Array.replicate b.length (Value.slice none 0 0)) b.length (by omega) (by unfold maxLen;omega) (by simp);have bc:=(Below.refl wr.heap.size wr).alloc (Nat.le_refl _) (.cells (Array.replicate b.length (Value.slice none 0 0)) 24);have bd:=Z (show (wr.alloc (.cells (Array.replicate b.length (Value.slice none 0 0)) 24)).ownsRow w.heap.size 24 1 (.slice (some ⟨wr.heap.size,0,none⟩) b.length b.length) b.length ([]++List.replicate (b.length-0) (.slice none 0 0)) by simpa using b3);have be:=Z bc;have aK:=Z (z.later bc);have b4:=Z (fun Y C=>(z.shp.lt Y C).2);clear aY b3 bc cy cz cA;go_wp2_with fail;generalize wr.alloc (.cells (Array.replicate b.length (Value.slice none 0 0)) 24)=dq at bd be aK ⊢;generalize b5:wr.heap.size=o at bd be b4 ⊢;have b6:=Z b5;clear b5 bx;go_loopg [117] b.length (fun Y cW I=>∃(c:Nat) (J:List Value),c≤b.length∧Y=b.length-c∧cW= .int .i64 c∧J.length=c∧Hid (I.ownsRow w.heap.size 24 1 (.slice (some ⟨o,0,none⟩) b.length b.length) b.length (J++List.replicate (b.length-c) (.slice none 0 0)))∧Hid (qj w.heap.size I J (n.shapes.take c))∧Hid (I.heap[p]? =some (.cells #[.slice D d.length E,.slice L b.length M,.map (some O),.slice U b.length V] 229 (0,0)))∧Hid (I.ownsRow (w.heap.size+1) 24 1 (.slice U b.length V) b.length y)∧Hid (qj 0 I y n.shapes)∧Hid (Below w.heap.size w I))
    case atStart=>
     refine ⟨0, [],Nat.zero_le _,rfl,rfl,rfl,bd,Z trivial,Z (by have:=aK.blk;rw [ai] at this;exact this),Z (by have:=aK.shp;rw [ai] at this;exact this),Z aK.sh,Z (aC.trans (be.mono (by have:=b6.out;omega)))⟩
    case round=>
     obtain ⟨c,J,_,_,rfl,bf,aL,b7,b8,b9,ca,au⟩:=hrel;rename World=>I
     have bg:=b8.out;have dr:I.cell? ⟨p,3,none⟩=some (.slice U b.length V):=by simp [World.cell?,bg]
     have cX:=qd bg;clear bg
     by_cases cY:c<b.length
     ·obtain ⟨bh,cZ,cb,-,_,-,cc,-,-⟩:=zm b9 c cY
      obtain ⟨rfl,rfl⟩:U=some ⟨bh,0,none⟩∧V=cZ:=by simpa using cb
      have cd:c<y.length:=by omega
      have bi:c<n.shapes.length:=by omega
      have K:=ca.get c cd bi;have c0:=cu.out n.shapes[c] (List.getElem_mem bi);have c1:I.cell? ⟨bh,c,none⟩=some y[c]:=by rw [cc];simp [cd]
      have ce:=Z (show n.shapes.take (c+1)=n.shapes.take c++[n.shapes[c]] by rw [List.take_add_one,List.getElem?_eq_getElem bi];rfl);generalize n.shapes[c]=j at K c0 ce;generalize y[c]=ds at K c1;obtain ⟨_,_,rfl,-,-⟩:=qg K;have c2:=Z K;have dt:(0:Int)≤(c:Int):=by omega
      have du:(c:Int)<(b.length:Int):=by omega
      clear K cb cc;go_wp2_with (go_at_call 69;refine (zs _ j _ (Arr.of_owns c2) (by omega)).mono ?_;rintro g m ⟨_,rfl,G,ag⟩;have c3:=Z G;have x:=Z ag;obtain ⟨aM,aN,rfl,-,-⟩:=qg G;have ad:=Below.owns aL ag;have dv:=ad.frozenAt c;have ar:=ad.cellAt c (by omega);have dw:m.cell? ⟨o,c,none⟩=some (.slice none 0 0):=(by rw [ar];simp [List.getElem?_append,bf,show 0<b.length-c by omega]);have cf:=ad.stored c (.slice aM j.length aN);have bj:=Z cf;have dx:o<m.heap.size:=(by have:=(ad.lt o rfl).2;exact this);clear G ag ad ar cf);go_roundg (b.length-(c+1))
      case measure=>omega
      case rel=>
       have C:=bj.2;have c4:∃aO aP,m.heap[o]? =some (Obj.cells aO 24 aP):=by
        rcases bj.1.2 with ⟨aQ,_⟩ | ⟨_,_,_,aQ,_,_,_⟩
        ·simp at aQ
        ·have ad:=Below.owns aL x
         rcases ad.2 with ⟨aQ,_⟩ | ⟨c5,_,_,c6,_,N,_⟩
         ·simp at aQ
         ·obtain rfl:o=c5:=by simpa using (by simpa using c6:_∧_).1
          exact ⟨_,_,N⟩
       obtain ⟨aO,aP,aR⟩:=c4;have c8:=Off.block (B:=0) aR (show 24≠3 by decide);refine ⟨c+1,J++[.slice aM j.length aN],by omega,rfl,by go_num,by simp [bf],?_,?_,?_,?_,?_,?_⟩
       ·have:=bj.1
        have bR:(J++List.replicate (b.length-c) (Value.slice none 0 0)).set c (.slice aM j.length aN)=J++[.slice aM j.length aN]++List.replicate (b.length-(c+1)) (.slice none 0 0):=by
         rw [show b.length-c=b.length-(c+1)+1 by omega,List.replicate_succ,List.set_append_right _ _ (by omega),show c-J.length=0 by omega];simp
        rw [bR] at this;exact this
       ·rw [ce.out]
        exact (((b7.later x).kept C (fun k v=>by obtain rfl:o=k:=(by simpa using v);exact .inr (.inr ⟨aO,_,aP,aR,by decide⟩))).append ⟨qp (qk c3 au.size) C (fun k v=>by obtain rfl:o=k:=(by simpa using v);exact .inr (.inr ⟨aO,_,aP,aR,by decide⟩)),trivial⟩)
       ·have aS:=(x.block p cX).trans b8
        exact Z ((C.block p (qd aS) (fun g=>by obtain rfl:p=o:=(by simpa using g);rw [aR] at aS;cases aS)).trans aS)
       ·refine Z ((Below.owns b9 x).kept C (.inr fun g=> ?_))
        have:=b4.out o (by have c9:some bh=some o:=g;exact c9);have:=b6.out;omega
       ·exact Z ((ca.later x).kept C c8)
       ·exact Z ((au.trans (x.mono au.size)).grown C (by have:=x.size;have:=au.size;omega) (fun k v=>by obtain rfl:o=k:=(by simpa using v);exact (aL.lt o rfl).1))
     ·obtain rfl:c=b.length:=by omega
      have K:=aL.out;rw [Nat.sub_self,List.replicate_zero,List.append_nil] at K;have t:=b7.out;rw [List.take_of_length_le (by omega)] at t;have da:=Z K;have db:=Z t;clear K t;go_wp2_with fail;go_ret2;exact ⟨_,rfl,⟨J,by rw [bf];exact da,db⟩,au⟩
end Go.Proofs.YtklofgfkaaoipaaGreatDoor

/-
  THE CONTRACT of plan.Slots.
-/
import Derived.Test.YtklofgfkaaoipaaGreatDoorMMem
import Derived.Test.YtklofgfkaaoipaaGreatDoorMRepeat
import Derived.Deep.Light
import Derived.Test.YtklofgfkaaoipaaGreatDoorMHd
set_option maxHeartbeats 16000000
set_option maxRecDepth 100000
set_option linter.unusedSimpArgs false
set_option linter.unusedVariables false
namespace Go.Proofs.YtklofgfkaaoipaaGreatDoor
open Go.RowKit Go.Proofs.Tryz
variable {w A W:World}{h D E:Nat}{f:List Int}{v:Value}
structure SSt (w:World)(bl bs bf base:Nat)(last slots f:List Int)(v:Value)(wr:World):Prop where
 lastb:wr.heap[bl]? =some (.cells (ints last).toArray 3 (0,0))
 slotb:wr.heap[bs]? =some (.cells (ints slots).toArray 3 (0,0))
 fat:FAt base bf wr f v
 below:Below w.heap.size w wr
 l1:w.heap.size≤bl
 l2:bl<bs
 l3:bs<base
 l4:base≤bf
theorem SSt.lt {base:Nat}{a b:List Int}(c:SSt w h D E base a b f v A):E<A.heap.size:=qd c.fat.1
theorem SSt.own {base:Nat}{c d:List Int}(a:SSt w h D E base c d f v A)(j:Nat)(b:v.ownBlock=some j):base≤j∧j<A.heap.size∧j≠E:=
 ⟨(a.fat.2.1.lt j b).1,(a.fat.2.1.lt j b).2,fun e=>yz a.fat.2.1 a.fat.1 (by decide) (by rw [b,e])⟩
theorem SSt.later {base:Nat}{c d:List Int}(a:SSt w h D E base c d f v A)(b:Below A.heap.size A W):SSt w h D E base c d f v W where
 lastb:=(b.block _ (qd a.lastb)).trans a.lastb
 slotb:=(b.block _ (qd a.slotb)).trans a.slotb
 fat:=⟨(b.block _ a.lt).trans a.fat.1,Below.owns a.fat.2.1 b,Nat.le_trans a.fat.2.2 b.size⟩
 below:=a.below.trans (b.mono a.below.size)
 l1:=a.l1
 l2:=a.l2
 l3:=a.l3
 l4:=a.l4
theorem SSt.heap {base:Nat}{d e g:List Int}{v':Value}(a:SSt w h D E base d e f v A)(i:FAt base E W g v')(b:FFr E v A W):SSt w h D E base d e g v' W where
 lastb:=(b.block _ (qd a.lastb) (by have:=a.l2;have:=a.l3;have:=a.l4;omega) (fun c=>by have:=(a.own _ c).1;have:=a.l2;have:=a.l3;omega)).trans a.lastb
 slotb:=(b.block _ (qd a.slotb) (by have:=a.l3;have:=a.l4;omega) (fun c=>by have:=(a.own _ c).1;have:=a.l3;omega)).trans a.slotb
 fat:=i
 below:=a.below.trans (b.below (base:=0) (by have:=a.l1;have:=a.l2;have:=a.l3;have:=a.l4;omega) (fun _ j=>by have:=(a.own _ j).1;have:=a.l1;have:=a.l2;have:=a.l3;omega) a.below.size)
 l1:=a.l1
 l2:=a.l2
 l3:=a.l3
 l4:=a.l4
theorem SSt.last_at {base:Nat}{a b:List Int}(c:SSt w h D E base a b f v A)(k:Nat)(d:k<a.length):A.cell? ⟨h,k,none⟩=some (.int .i64 (a.getD k 0)):=(qV c.lastb k d).1
theorem SSt.slot_at {base:Nat}{b a:List Int}(c:SSt w h D E base b a f v A)(k:Nat)(d:k<a.length):A.cell? ⟨D,k,none⟩=some (.int .i64 (a.getD k 0))∧A.frozen? ⟨D,k,none⟩=false:=qV c.slotb k d
theorem SSt.drewN {base:Nat}{b c:List Int}(a:SSt w h D E base b c f v A)(n:Nat):SSt w h D E base b c f v (A.drewN n):=⟨a.lastb,a.slotb,a.fat,⟨a.below.os,a.below.tape,a.below.output,a.below.size,a.below.block⟩,a.l1,a.l2,a.l3,a.l4⟩
theorem SSt.ofr {base:Nat}{i j:List Int}{k:Value}(a:SSt w h D E base i j f v A)(d:OFr k A W)(e:∀b,k.ownBlock=some b→E<b∧v.ownBlock≠some b):SSt w h D E base i j f v W where
 lastb:=(d.block _ (qd a.lastb) (by have:=qd a.lastb;omega) (fun c=>by have:=(e _ c).1;have:=a.l2;have:=a.l3;have:=a.l4;omega)).trans a.lastb
 slotb:=(d.block _ (qd a.slotb) (by have:=qd a.slotb;omega) (fun c=>by have:=(e _ c).1;have:=a.l3;have:=a.l4;omega)).trans a.slotb
 fat:=⟨(d.block _ a.lt (by have:=a.lt;omega) (fun c=>by have:=(e _ c).1;omega)).trans a.fat.1,zh9 a.fat.2.1 (fun b g=>d.block b (a.own b g).2.1 (by have:=(a.own b g).2.1;omega) (fun c=>(e b c).2 g)),Nat.le_trans a.fat.2.2 d.size⟩
 below:=a.below.trans (d.below (base:=0) a.below.size (fun _ l=>by have:=(e _ l).1;have:=a.l1;have:=a.l2;have:=a.l3;have:=a.l4;omega) a.below.size)
 l1:=a.l1
 l2:=a.l2
 l3:=a.l3
 l4:=a.l4
theorem SSt.setSlot {base:Nat}{b c:List Int}(a:SSt w h D E base b c f v A)(k:Nat)(x:Int):SSt w h D E base b (c.set k x) f v (A.setCell ⟨D,k,none⟩ (.int .i64 x)) where
 lastb:=(qe (by have:=a.l2;omega) _).trans a.lastb
 slotb:=zo a.slotb k x
 fat:=⟨(qe (by have:=a.l3;have:=a.l4;omega) _).trans a.fat.1,ownsRow_setCell_other a.fat.2.1 (fun d=>by have:=(a.own D d).1;have:=a.l3;omega) _,by simpa using a.fat.2.2⟩
 below:=a.below.setCell (p:=⟨D,k,none⟩) (by have:=a.l1;have:=a.l2;show w.heap.size≤D;omega) _
 l1:=a.l1
 l2:=a.l2
 l3:=a.l3
 l4:=a.l4
theorem SSt.start {n:Nat}{b:List Int}(c:A.heap[h]? =some (.cells (ints b).toArray 3 (0,0)))(a:Below w.heap.size w A)(e:w.heap.size≤h):
  SSt w h A.heap.size (A.heap.size+1+1) (A.heap.size+1) b (List.replicate n 0) [] (.slice (some ⟨A.heap.size+1,0,none⟩) 0 0)
   (((A.alloc (.cells (ints (List.replicate n 0)).toArray 3)).alloc (.cells #[] 3)).alloc (.cells #[.slice (some ⟨A.heap.size+1,0,none⟩) 0 0] 101)) where
 lastb:=zqO _ _ _ c
 slotb:=QH _ (heap_alloc2_old _ _ _)
 fat:=by
  have d:((A.alloc (.cells (ints (List.replicate n 0)).toArray 3)).alloc (.cells #[] 3)).heap.size=A.heap.size+1+1:=by rw [World.size_alloc,World.size_alloc]
  refine ⟨?_,⟨rfl,.inr ⟨A.heap.size+1,0,#[],rfl,Nat.le_refl _,QH _ (heap_alloc2_new _ _ _),Nat.le_refl _,Nat.zero_le _,rfl,rfl⟩⟩,by rw [World.size_alloc,d];omega⟩;rw [←d];exact heap_alloc_new _ _
 below:=((a.alloc a.size _).alloc (by have:=a.size;rw [World.size_alloc];omega) _).alloc (by have:=a.size;rw [World.size_alloc,World.size_alloc];omega) _
 l1:=e
 l2:=qd c
 l3:=Nat.lt_succ_self _
 l4:=Nat.le_succ _
theorem znw (v:Value)(ops:List MOp)(w:World)(b:qK ops 65536 65536=false)(c:Arr w.heap.size w 6 v ops.length (qz ops))(h:ops.length≤1000000)(d:∀i∈ops,i.c<18446744073709551616)(e:yC w):
  Calls prog 20 #[v] w fun f j=>f= .returned (.tuple #[.slice none 0 0,.int .i64 0])∧Below w.heap.size w j:=by
 obtain ⟨_,_,rfl,_,k,l,m⟩:=c.open;have a:0<ops.length:=by
  rcases Nat.eq_zero_or_pos ops.length with a | a
  ·have:ops=[]:=List.length_eq_zero_iff.1 a
   subst this;exact absurd b (by decide)
  ·exact a
 have s:((0:Int) != (ops.length:Int))=true:=by simp;omega
 have n:=Z c;have o:=Z e;have p:=Z d;have q:=Z b;clear c e d b l m k;go_enter func20,ntmps20;go_wp2_with (go_at_call 18;go_must (refine (zdh _ ops _ q n h p o).mono ?_;rintro f _ ⟨rfl,g⟩;have r:=Z g;clear g));go_ret2;exact ⟨rfl,r⟩
theorem zl1 (v:Value)(ops:List MOp)(w:World)(aq:qK ops 65536 65536=true)(aI:Arr w.heap.size w 6 v ops.length (qz ops))(b9:ops.length≤16384)(bc:∀i∈ops,i.c<18446744073709551616)(bd:yC w):
  Calls prog 20 #[v] w fun j R=>∃aJ,j= .returned (.tuple #[aJ,.int .i64 (Qb ops).2])∧R.ownsRow w.heap.size 3 1 aJ (Qb ops).1.length (ints (Qb ops).1)∧Below w.heap.size w R:=by
 have E:=Zr aq;have aK:=QP ops;rw [if_pos aq] at aK;obtain ⟨_,_,rfl,_,ar,A,B⟩:=aI.open;obtain ⟨ca,be,bf,bg,bh⟩:=info_parts qD;have cb:=Z aI;have cc:=Z bd;have cd:=Z bc;have bi:=Z aq;have bj:=Z B;have bk:=Z E;have ce:=Z aK;have bl:=fun (w:World)=>run_make (P:=prog) w 24 3 ca (.int .i64 0) underlying24 be bf .i64 .i64 ops.length ops.length (by omega) (by omega) (by rw [bh];omega) (by omega)
 have cN:∀(w:World),(Instr.makeSlice 24 (.int .i64 ops.length) (.int .i64 ops.length)).run prog w= .ok (.slice (some ⟨w.heap.size,0,none⟩) ops.length ops.length) (w.alloc (.cells (ints (List.replicate ops.length 0)).toArray 3)):=by
  intro w;have:=bl w;rw [bg,Int.toNat_natCast,Nat.mul_one,YS] at this;exact this
 clear aI bd bc aq A B ar E aK bl be bf bg bh;go_enter func20,ntmps20;go_wp2_with (go_at_call 18;go_must (refine (zaG _ ops _ bi cb b9 cd cc).mono ?_;rintro j au ⟨aJ,rfl,aL,bm⟩;rw [ce.out] at aL;obtain ⟨_,_,rfl,_,cf⟩:=qg aL;have bn:=Z bm;clear bm aL cf));have S:w.heap.size≤au.heap.size:=bn.size;have av:=Z (heap_alloc_new au (.cells (ints (List.replicate ops.length 0)).toArray 3));have T:=Z (bn.alloc S (.cells (ints (List.replicate ops.length 0)).toArray 3));generalize au.heap.size=r at av S ⊢;generalize au.alloc (.cells (ints (List.replicate ops.length 0)).toArray 3)=cO at av T ⊢;go_loopg [28] ops.length (fun u I wr=>∃(a:Nat) (t:List Int),a≤ops.length∧u=ops.length-a∧I= .int .i64 a∧Hid (t.length=ops.length)∧Hid (Q9 (ops.drop a) a t=zx ops)∧Hid (wr.heap[r]? =some (.cells (ints t).toArray 3 (0,0)))∧Hid (Below w.heap.size w wr))
 case atStart=>exact ⟨0,_,Nat.zero_le _,rfl,rfl,by simp [Hid],rfl,av,T⟩
 case round=>
  obtain ⟨a,t,cg,aM,rfl,aN,aO,U,V⟩:=hrel;clear av T
  by_cases m:a<ops.length
  ·obtain ⟨J,ch,rfl,aP,W⟩:=bj.out (by omega)
   obtain ⟨X,Y,aa,ab,ac,ad⟩:=y8 W V aP rfl a m;have F:=Z (List.drop_eq_getElem_cons m);have K:=Z (bk a m);generalize ops[a]=i at X Y aa ab ac ad F K;obtain ⟨ci,cj⟩:=qV U a (by have:=aN.out;omega);have ck:=qd U;clear W;go_wp2_with (go_at_call 41;go_must (refine (zaJ i _).mono ?_;unfold qY;rintro j bo ⟨aw,rfl,ae,af⟩;obtain ⟨_,_,rfl,cl,bp⟩:=qg ae;have bq:=Z bp;have T:=Z (yF af);clear bp ae af));have aQ:=T.out;have ax:(wr.setCell ⟨r,a,none⟩ (.int .i64 a)).heap.size=wr.heap.size:=by simp
   have br:=Z ((aQ.2.1.block r (by rw [ax];exact ck)).trans (zo U a a));have cm:=Z ((V.setCell (p:=⟨r,a,none⟩) S (.int .i64 a)).trans (aQ.2.1.mono (by rw [ax];exact V.size)));have bs:∀(u:Nat),(wr.setCell ⟨r,a,none⟩ (.int .i64 a)).heap.size+1≤u→r<u:=fun u aM=>by rw [ax] at aM;omega
   have cn:=Z bs;have bt:(t.set a (a:Int)).length=ops.length:=by simp;exact aN
   have bu:=Z bt;obtain ⟨ag,aR⟩:∃ag,t.set a (a:Int)=ag:=⟨_,rfl⟩;rw [aR] at br bu;have co:=Z aR;obtain ⟨l,ay⟩:∃l,yt i=l:=⟨_,rfl⟩;rw [ay] at bq cl K ⊢;have cp:=Z ay;have cP:l.length≤2:=by rw [←ay];exact Yu i
   clear aQ ax bs bt aR ay X Y aa ab ac ad ci cj;go_loopg [40] l.length (fun u I C=>∃(b:Nat) (G:List Int),b≤l.length∧u=l.length-b∧I= .int .i64 b∧Hid (G=(l.take b).foldl (fun t ah=>t.set ah.toNat a) ag)∧Hid (G.length=ops.length)∧Hid (C.heap[r]? =some (.cells (ints G).toArray 3 (0,0)))∧Hid (∀J,J≠r→C.heap[J]? =bo.heap[J]?)∧Hid (Below w.heap.size w C))
   case atStart=>exact ⟨0,ag,Nat.zero_le _,rfl,rfl,rfl,bu,br,fun _ _=>rfl,cm⟩
   case round=>
    obtain ⟨b,G,L,cq,rfl,az,aA,aS,M,bv⟩:=hrel
    by_cases ai:b<l.length
    ·obtain ⟨aT,rfl,bw,cr,bx⟩:=bq.out (by omega)
     have cQ:=cn.out aT (by simpa using bw);have aj:=K.out l[b] (List.getElem_mem _);have aU:wr.cell? ⟨aT,b,none⟩=some (.int .i64 l[b]):=by
      have e:=bx b (by omega);rw [yY l b ai] at e;simp only [World.cell?] at e ⊢;rw [M.out aT (by omega)];exact e
     have s:=Z (show (l.take (b+1)).foldl (fun t ah=>t.set ah.toNat (a:Int)) ag=G.set l[b].toNat a by rw [List.take_succ_eq_append_getElem ai,List.foldl_append,←az.out];rfl);generalize l[b]=ah at aU aj s;obtain ⟨ak,cs⟩:=aj;obtain ⟨x,rfl⟩:=Int.eq_ofNat_of_zero_le ak;have ct:x<G.length:=by have:=aA.out;omega
     obtain ⟨_,_⟩:=qV aS x ct;have aV:x<ops.length:=by have:=aA.out;omega
     rw [Int.toNat_natCast] at s;clear bx bw cr ak
     as_aux_lemma=>
      go_wp2_with fail;go_roundg (l.length-(b+1))
      case measure=>omega
      case rel=>
       refine ⟨b+1,_,by omega,rfl,by go_num,s.symm,by simp [Hid];exact aA,zo aS x a,fun J bz=>(qe bz _).trans (M J bz),bv.setCell (p:=⟨r,x,none⟩) S _⟩
    ·obtain rfl:b=l.length:=by omega
     have cu:=Z (show G=QO t a i by rw [az.out,List.take_length,QO,cp.out,co.out])
     as_aux_lemma=>
      go_wp2_with fail;go_roundg (ops.length-(a+1))
      case measure=>omega
      case rel=>
       refine ⟨a+1,G,by omega,rfl,by go_num,aA,?_,aS,bv⟩;unfold Hid;rw [←aO.out,F.out,Q9,cu.out]
  ·obtain rfl:a=ops.length:=by omega
   have bA:=Z (show t=zx ops by rw [←aO.out,List.drop_length,Q9]);have aB:=Z (SSt.start (n:=ops.length) U V S);rw [bA.out] at aB;have bB:=aB.fat.cell;clear U aO aN V bA;go_wp2_with fail;generalize wr.heap.size=f at aB bB ⊢;clear bB;go_loopg [10,57] ops.length (fun u h I C=>∃(a:Nat) (c:SlotSt) (v:Value),a≤ops.length∧u=ops.length-a∧I= .int .i64 a∧h= .int .i64 c.arena∧0≤c.arena∧c.arena≤a∧c.slots.length=ops.length∧c.free.length≤3 * a∧
    Hid (Yn (zx ops) (ops.drop a) a c=Yn (zx ops) ops 0 (Zk ops.length))∧Hid (SSt w r f (f+1+1) (f+1) (zx ops) c.slots c.free v C))
   case atStart=>exact ⟨0,Zk ops.length,_,Nat.zero_le _,rfl,rfl,rfl,by simp [Zk],by simp [Zk],by simp [Zk],by simp [Zk],rfl,aB⟩
   case round=>
    obtain ⟨a,c,aW,cg,aM,rfl,rfl,_,_,o,_,al,H⟩:=hrel;have aC:=zc9 ops
    by_cases m:a<ops.length
    ·obtain ⟨J,ch,rfl,aP,W⟩:=bj.out (by omega)
     obtain ⟨X,Y,aa,ab,ac,ad⟩:=y8 W H.below aP rfl a m;have F:=Z (List.drop_eq_getElem_cons m);have K:=Z (fun h A=>bk.out a m h (zdz _ h A));generalize ops[a]=i at X Y aa ab ac ad F K;clear W;have cR:=H.lt;go_wp2_with (first | (go_at_call 41;go_must (refine (zaJ i _).mono ?_;unfold qY;rintro j bo ⟨aw,rfl,ae,af⟩;have aX:=Z ae;have bC:=Z (yF af);clear ae af X Y aa ab ac ad)) | (go_at_call 42;go_must (refine (znz aw (yt i) _ _ (Yu i) aX).mono ?_;rintro j _ ⟨rfl,bD,bE⟩;have bF:=Z bD;have bG:=Z bE;clear bD bE)) | (go_at_call 43;go_must (refine (zhr aw (srt (yt i)) _ _ (by rw [zhc];exact Yu i) bF).mono ?_;rintro j bH ⟨_,rfl,aY,bI,bJ⟩;obtain ⟨bK,bL,rfl,cv,bM⟩:=qg aY;have bN:=Z aY;have bO:=Z bI;have aZ:=Z bJ;have bP:=Z bM;clear aY bI bJ bM)));have bQ:=H.later bC.2.1;have aD:∀b,aw.ownBlock=some b→f+1+1<b∧aW.ownBlock≠some b:=fun b L=>by
      have e:=(aX.lt b L).1;rw [World.size_alloc] at e;exact ⟨by omega,fun j=>by have:=(H.own b j).2.1;omega⟩
     have bR:=(bQ.ofr bG aD).ofr bO aD;have bS:∀b,(Value.slice bK (zar (srt (yt i))).length bL).ownBlock=some b→f+1+1<b∧b<bH.heap.size∧aW.ownBlock≠some b:=fun b L=>by
      rw [aZ.out] at L;have e:=aD b L;have a0:=(bN.lt b (by rw [aZ.out];exact L)).2;exact ⟨e.1,a0,e.2⟩
     have cw:=Z bR;have aE:=Z bS;clear bQ aD bR bS;obtain ⟨g,E⟩:∃g,Yj i=g:=⟨_,rfl⟩;have bT:zar (srt (yt i))=g:=E;rw [bT] at bP aE bN cv ⊢;rw [E] at K;have cS:g.length≤2:=by rw [←E];exact zhX i
     have cx:=Z E;clear E bT aX bC bF bG bO aZ;go_loopg [69] g.length (fun u I C=>∃(b:Nat) (d:List Int) (v:Value),b≤g.length∧u=g.length-b∧I= .int .i64 b∧d.length≤c.free.length+b∧Hid (d=(g.take b).foldl (zad (zx ops) c.slots a) c.free)∧Hid (SSt w r f (f+1+1) (f+1) (zx ops) c.slots d v C)∧
      Hid (∀h,(Value.slice bK g.length bL).ownBlock=some h→h<C.heap.size∧v.ownBlock≠some h∧C.heap[h]? =bH.heap[h]?))
     case atStart=>exact ⟨0,c.free,aW,Nat.zero_le _,rfl,rfl,by omega,rfl,cw,fun h A=>⟨(aE h A).2.1,(aE h A).2.2,rfl⟩⟩
     case round=>
      obtain ⟨b,d,v,L,cq,rfl,_,a1,k,M⟩:=hrel
      by_cases ai:b<g.length
      ·obtain ⟨bU,rfl,cy,bV,bW⟩:=bP.out (by omega)
       have bX:=M.out bU rfl;have aU:wr.cell? ⟨bU,b,none⟩=some (.int .i64 g[b]):=by
        have e:=bW b (by omega);rw [yY g b ai] at e;simp only [World.cell?] at e ⊢;rw [bX.2.2];exact e
       have aj:=K.out g[b] (List.getElem_mem _);have s:=Z (show (g.take (b+1)).foldl (zad (zx ops) c.slots a) c.free=zad (zx ops) c.slots a d g[b] by rw [List.take_succ_eq_append_getElem ai,List.foldl_append,←a1.out];rfl);generalize g[b]=ah at aU aj s;obtain ⟨ak,cs⟩:=aj;obtain ⟨x,rfl⟩:=Int.eq_ofNat_of_zero_le ak;have aV:x<ops.length:=by omega
       have aF:=k.last_at x (by rw [aC];exact aV);have cz:=(k.slot_at x (by rw [o];exact aV)).1;have bY:=k.fat.cell;unfold zad at s;rw [Int.toNat_natCast] at s;obtain ⟨y,B⟩:∃y,(zx ops).getD x 0=y:=⟨_,rfl⟩;obtain ⟨am,bZ⟩:∃am,c.slots.getD x 0=am:=⟨_,rfl⟩;rw [B] at aF s;rw [bZ] at cz s;clear bW cy bV bX ak B bZ
       by_cases q:y=a
       ·subst q
        have a2:=Z (show _=ZD d am from s.trans (if_pos rfl));clear s
        as_aux_lemma=>
         go_wp2_with (go_at_call 44;go_must (refine (zau (f+1) (f+1+1) v d am _ k.fat (by omega)).mono ?_;rintro j _ ⟨rfl,cA,b0,b1,b2⟩;have cB:=Z b0;have a3:=Z b1;have cC:=Z b2;clear b0 b1 b2));go_roundg (g.length-(b+1))
         case measure=>omega
         case rel=>
          refine ⟨b+1,ZD d am,cA,by omega,rfl,by go_num,by rw [zc4];omega,a2.symm,k.heap cB a3,fun h A=> ?_⟩;have e:=M.out h A;have a0:=aE.out h A;refine ⟨Nat.lt_of_lt_of_le e.1 a3.size,fun j=> ?_,(a3.block h e.1 (by omega) e.2.1).trans e.2.2⟩;rcases cC h j with a4 | a4
          ·exact e.2.1 a4
          ·omega
       ·have a2:=Z (show _=d from s.trans (if_neg q))
        have b3:(y==(a:Int))=false:=by simpa using q
        clear s q
        as_aux_lemma=>
         go_wp2_with fail;go_roundg (g.length-(b+1))
         case measure=>omega
         case rel=>
          exact ⟨b+1,d,v,by omega,rfl,by go_num,by omega,a2.symm,k,M⟩
      ·obtain rfl:b=g.length:=by omega
       have aG:=Z (show d=Ze (zx ops) a i c by rw [a1.out,List.take_length,Ze,cx.out]);have bY:=k.fat.cell;have aF:=k.last_at a (by rw [aC];exact m);obtain ⟨y,B⟩:∃y,(zx ops).getD a 0=y:=⟨_,rfl⟩;rw [B] at aF;have N:=Z B;have cD:=k.slot_at a (by rw [o];exact m);obtain ⟨cE,cF⟩:=cD;clear B M a1
       by_cases O:0<d.length
       ·obtain ⟨cG,_,rfl,bV,_⟩:=k.fat.2.1.form O
        have b4:wr.cell? ⟨cG,0,none⟩=some (.int .i64 (d.getD 0 0)):=by
         have:=k.fat.2.1.cellAt 0 (by omega);rw [yY d 0 O] at this;simpa [List.getD,O] using this
        have cH:(0:Int)<d.length:=by omega
        obtain ⟨z,aH⟩:∃z,d.getD 0 0=z:=⟨_,rfl⟩;rw [aH] at b4;have cT:=Z aH;have D:=Z (k.setSlot a z);have cI:=D.fat.cell;have an:=Z (show ZM a c d=⟨c.slots.set a z,c.arena,zat d⟩ by rw [ZM,if_pos O,aH]);clear aH;go_upto_region 33 with (first | (go_at_call 45;go_must (refine (zcv _ d.length _ _ k.fat.arr).mono ?_;rintro j R ⟨rfl,rfl⟩)) | (go_at_call 46;go_must (refine (zhG (f+1) (f+1+1) _ d _ D.fat O (by omega)).mono ?_;rintro j _ ⟨⟨_,rfl⟩,b5,b6,b7,cJ⟩;have Q:=Z (D.heap b6 b7);clear b6 b7 cJ)));have a5:=Q.last_at a (by rw [aC];exact m);rw [N.out] at a5;have cK:=(Q.slot_at a (by rw [List.length_set,o];exact m)).1;have b8:(c.slots.set a z).getD a 0=z:=by simp [List.getD,o,m]
        rw [b8] at cK;have cL:=Q.fat.cell;clear b8 cI b4 aF cE cF bY
        by_cases q:y=a
        ·subst q
         as_aux_lemma=>
          go_wp2_with (go_at_call 44;go_must (refine (zau (f+1) (f+1+1) b5 (zat d) z _ Q.fat (by rw [zel];omega)).mono ?_;rintro j cM ⟨rfl,a6,ao,ap,a7⟩;have a8:=Z ao;have a9:=Z ap;clear ao ap a7));go_roundg (ops.length-(a+1))
          case measure=>omega
          case rel=>
           refine ⟨a+1,⟨c.slots.set a z,c.arena,ZD (zat d) z⟩,a6,by omega,rfl,by go_num,rfl,by simp only;omega,by simp only;omega,by simp only [List.length_set];exact o,by simp only [zc4,zel];omega,?_,Q.heap a8 a9⟩;unfold Hid;rw [←al.out,F.out,Yn,ZN,←aG.out];rw [an.out,zan,if_pos N.out];simp [List.getD,o,m]
        ·have b3:(y==(a:Int))=false:=by simpa using q
         have ba:=Z q;clear q
         as_aux_lemma=>
          go_wp2_with fail;go_roundg (ops.length-(a+1))
          case measure=>omega
          case rel=>
           refine ⟨a+1,⟨c.slots.set a z,c.arena,zat d⟩,b5,by omega,rfl,by go_num,rfl,by simp only;omega,by simp only;omega,by simp only [List.length_set];exact o,by simp only [zel];omega,?_,Q⟩;unfold Hid;rw [←al.out,F.out,Yn,ZN,←aG.out];rw [an.out,zan,if_neg (by rw [N.out];exact ba)]
       ·have cH:¬(0:Int)<d.length:=by omega
        have D:=Z (k.setSlot a c.arena);have cU:=k.l2;have cV:¬f=r:=by omega
        have cW:¬r=f:=by omega
        have an:=Z (show ZM a c d=⟨c.slots.set a c.arena,c.arena+1,d⟩ by rw [ZM,if_neg O]);have a5:=D.last_at a (by rw [aC];exact m);rw [N.out] at a5;have cL:=D.fat.cell
        by_cases q:y=a
        ·subst q
         as_aux_lemma=>
          go_wp2_with (first | (go_at_call 45;go_must (refine (zcv _ d.length _ _ k.fat.arr).mono ?_;rintro j R ⟨rfl,rfl⟩)) | (go_at_call 44;go_must (refine (zau (f+1) (f+1+1) v d c.arena _ D.fat (by omega)).mono ?_;rintro j cM ⟨rfl,a6,ao,ap,a7⟩;have a8:=Z ao;have a9:=Z ap;clear ao ap a7)));go_roundg (ops.length-(a+1))
          case measure=>omega
          case rel=>
           refine ⟨a+1,⟨c.slots.set a c.arena,c.arena+1,ZD d c.arena⟩,a6,by omega,rfl,by go_num,rfl,by simp only;omega,by simp only;omega,by simp only [List.length_set];exact o,by simp only [zc4];omega,?_,D.heap a8 a9⟩;unfold Hid;rw [←al.out,F.out,Yn,ZN,←aG.out];rw [an.out,zan,if_pos N.out];simp [List.getD,o,m]
        ·have b3:(y==(a:Int))=false:=by simpa using q
         have ba:=Z q;clear q
         as_aux_lemma=>
          go_wp2_with (go_at_call 45;go_must (refine (zcv _ d.length _ _ k.fat.arr).mono ?_;rintro j R ⟨rfl,rfl⟩));go_roundg (ops.length-(a+1))
          case measure=>omega
          case rel=>
           refine ⟨a+1,⟨c.slots.set a c.arena,c.arena+1,d⟩,v,by omega,rfl,by go_num,rfl,by simp only;omega,by simp only;omega,by simp only [List.length_set];exact o,by simp only;omega,?_,D⟩;unfold Hid;rw [←al.out,F.out,Yn,ZN,←aG.out];rw [an.out,zan,if_neg (by rw [N.out];exact ba)]
    ·obtain rfl:a=ops.length:=by omega
     have bb:=al.out;rw [List.drop_length,Yn] at bb;have ar:Qb ops=(c.slots,c.arena):=by rw [Qb,if_pos bi.out,←bb]
     have az:=Z ar;clear ar bb;go_wp2_with fail;go_ret2;rw [az.out];refine ⟨_,rfl,?_,H.below⟩;have e:=H.slotb;have a0:=H.l1;have a4:=H.l2;rw [o];exact ⟨by simp [ints,o],.inr ⟨f,ops.length,_,rfl,by omega,e,Nat.le_refl _,by unfold maxLen;omega,by simp [ints,o],by
      rw [Nat.mul_one];exact List.take_of_length_le (by rw [qP,o];exact Nat.le_refl _)⟩⟩
theorem zdi (v:Value)(ops:List MOp)(w:World)(d:Arr w.heap.size w 6 v ops.length (qz ops))(h:ops.length≤1000000)(e:∀i∈ops,i.c<18446744073709551616)(f:yC w):
  Calls prog 20 #[v] w fun b c=>∃g,b= .returned (.tuple #[g,.int .i64 (Qb ops).2])∧c.ownsRow w.heap.size 3 1 g (Qb ops).1.length (ints (Qb ops).1)∧Below w.heap.size w c:=by
 by_cases a:qK ops 65536 65536=true
 ·refine zl1 v ops w a d ?_ e f
  simp only [qK,Bool.and_eq_true,decide_eq_true_eq] at a;exact a.1.2
 ·have j:qK ops 65536 65536=false:=by simpa using a
  have b:Qb ops=([],0):=by rw [Qb,if_neg a]
  rw [b];exact (znw v ops w j d h e f).mono fun b c ⟨k,l⟩=>⟨_,k,World.ownsRow_nil _ _ _ _,l⟩
end Go.Proofs.YtklofgfkaaoipaaGreatDoor

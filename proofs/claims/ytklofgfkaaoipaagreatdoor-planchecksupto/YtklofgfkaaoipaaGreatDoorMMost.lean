/-
  THE CONTRACT of plan.most.
-/
import Derived.Test.YtklofgfkaaoipaaGreatDoorMAlone
import Derived.Maps.OwnOps
import Derived.Maps.OwnSet
import Derived.Maps.Views
import Derived.Test.YtklofgfkaaoipaaGreatDoorMHd
set_option maxHeartbeats 16000000
set_option maxRecDepth 100000
set_option linter.unusedSimpArgs false
set_option linter.unusedVariables false
namespace Go.Proofs.YtklofgfkaaoipaaGreatDoor
open Go.RowKit Go.Maps Go.Proofs.Tryz
variable {w J w1 W E:World}{b n h A D F G:Nat}{m:Int→Int}{s:MostSt}{o:MOp}{H I:Int}
theorem zmO:Keyed prog 3:=int_keyed underlying3
theorem zoY (w:World):(zeroValue 3).run prog w= .ok (.int .i64 0) w:=by kernel_rfl
theorem znV {x:Int}(a: -9223372036854775808≤x∧x≤9223372036854775807):(Lit.int .i64 x).wf=true:=WalkArith.wf_i64 a
def QI (w:World)(b n:Nat)(m:Int→Int):Prop:=
 ∃a:DataW Unit,w.ownsMap prog 3 (plainElem prog 3) b n a∧∀c,a.atKey (.int .i64 c) (.lit (.int .i64 0))= .lit (.int .i64 (m c))
theorem QI.made (w:World):QI (w.alloc (.map #[] 0)) w.heap.size 0 (fun _=>0):=⟨_,World.ownsMap_made _ _ _ _,fun _=>rfl⟩
theorem QI.lt (a:QI w b n m):b<w.heap.size:=by obtain ⟨d,c,_⟩:=a;exact c.lt
theorem QI.kept {a:Option Nat}(c:QI w b n m)(d:w.grownBy J a)(e:some b≠a):QI J b n m:=by obtain ⟨f,g,h⟩:=c;exact ⟨f,g.kept d e,h⟩
theorem QI.drew (a:QI w b n m):QI w.drew b n m:=a
theorem QI.mono {a:Nat}(c:QI w b n m)(d:n≤a):QI w b a m:=by obtain ⟨e,f,g⟩:=c;exact ⟨e,f.mono d,g⟩
theorem QI.look (c:QI w b n m)(r:Int)(d: -9223372036854775808≤r∧r≤9223372036854775807):
  (Instr.lookup 95 (.map (some b)) (.int .i64 r) false).run prog w= .ok (.int .i64 (m r)) w:=by
 obtain ⟨h,e,f⟩:=c;obtain ⟨i,g,a,_⟩:=e.lookup_int zmO underlying95 underlying3 (zoY _) (keyOf_int_mk underlying3 (znV d));rw [f r] at a;simp only [DataW.lit.injEq,Lit.int.injEq,true_and] at a;rw [g,a]
theorem QI.put (e:QI w b n m)(o:n<1000000)(r x:Int)(f: -9223372036854775808≤r∧r≤9223372036854775807)(g: -9223372036854775808≤x∧x≤9223372036854775807):
  ∃a,(Instr.mapUpdate 95 (.map (some b)) (.int .i64 r) (.int .i64 x)).run prog w= .ok () a∧QI a b (n+1) (upd m r x)∧w.grownBy a (some b):=by
 obtain ⟨p,d,h⟩:=e;obtain ⟨a,i,j,k⟩:=d.update zmO underlying95 (by unfold maxLen;omega) (keyOf_int_mk underlying3 (znV f)) (plainElem_int underlying3 (znV g));refine ⟨a,i,⟨_,j,fun l=> ?_⟩,k⟩;unfold upd
 by_cases c:l=r
 ·subst c
  rw [if_pos rfl,atKey_put_same d.isMap (by simp [WideAt.IsKeyLit])]
 ·rw [if_neg c,atKey_put_other (by simp;exact c),h]
theorem zaU (a:Below w.heap.size w J):w.grownBy J none:=⟨a.os,a.tape,a.output,a.size,fun b c _=>a.block b c⟩
structure MSt (w1:World)(Bs b0 b1 n:Nat)(s:MostSt)(W:World):Prop where
 said:W.heap[Bs]? =some (.cells #[.map (some b0),.map (some b1)] 96 (0,0))
 map0:QI W b0 n s.s0
 map1:QI W b1 n s.s1
 below:Below w1.heap.size w1 W
 l0:w1.heap.size≤Bs
 l1:Bs<b0
 l2:b0<b1
theorem MSt.later (a:MSt w1 h A D n s W)(b:Below W.heap.size W E):MSt w1 h A D n s E:=
 ⟨(b.block _ (qd a.said)).trans a.said,a.map0.kept (zaU b) (by simp),a.map1.kept (zaU b) (by simp),a.below.trans (b.mono a.below.size),a.l0,a.l1,a.l2⟩
theorem MSt.drew (a:MSt w1 h A D n s W):MSt w1 h A D n s W.drew:=⟨a.said,a.map0,a.map1,a.below.drew,a.l0,a.l1,a.l2⟩
theorem MSt.set0 (a:MSt w1 h A D n s W)(c:QI E A (n+1) m)(b:W.grownBy E (some A)):MSt w1 h A D (n+1) {s with s0:=m} E:=
 ⟨(b.block _ (qd a.said) (by have:=a.l1;simp;omega)).trans a.said,c,(a.map1.kept b (by have:=a.l2;simp;omega)).mono (by omega),a.below.grown b a.below.size (fun e d=>by have:=a.l0;have:=a.l1;simp at d;omega),a.l0,a.l1,a.l2⟩
theorem MSt.set1 (a:MSt w1 h A D n s W)(c:QI E D (n+1) m)(b:W.grownBy E (some D)):MSt w1 h A D (n+1) {s with s1:=m} E:=
 ⟨(b.block _ (qd a.said) (by have:=a.l1;have:=a.l2;simp;omega)).trans a.said,(a.map0.kept b (by have:=a.l2;simp;omega)).mono (by omega),c,a.below.grown b a.below.size (fun e d=>by have:=a.l0;have:=a.l1;have:=a.l2;simp at d;omega),a.l0,a.l1,a.l2⟩
theorem zhy (a:MNeed)(w:World):(Instr.field 26 (.agg #[.int .i64 a.tri,.int .i64 a.bits,.int .i64 a.ots,.int .i64 a.t0,.int .i64 a.t1,.int .i64 a.rounds,.int .i64 a.w0,.int .i64 a.w1]) 5).run prog w= .ok (.agg #[.int .i64 a.w0,.int .i64 a.w1]) w:=by kernel_rfl
structure OpW (Bo Bn:Nat)(o:MOp)(x0 x1:Int)(W:World):Prop where
 op:W.heap[Bo]? =some (.cells o.arr 61 (0,0))
 wd:W.heap[Bn]? =some (.cells #[.int .i64 x0,.int .i64 x1] 23 (0,0))
theorem OpW.later (a:OpW F G o H I W)(b:Below W.heap.size W E):OpW F G o H I E:=⟨(b.block _ (qd a.op)).trans a.op,(b.block _ (qd a.wd)).trans a.wd⟩
theorem OpW.grown (a:OpW F G o H I W)(c:W.grownBy E (some b))(d:b<F)(e:b<G):OpW F G o H I E:=
 ⟨(c.block _ (qd a.op) (by simp;omega)).trans a.op,(c.block _ (qd a.wd) (by simp;omega)).trans a.wd⟩
theorem OpW.drew (a:OpW F G o H I W):OpW F G o H I W.drew:=⟨a.op,a.wd⟩
theorem OpW.cells (a:OpW F G o H I W):
  (W.cell? ⟨F,0,none⟩=some (.int .i64 o.kind)∧W.cell? ⟨F,1,none⟩=some (.int .i64 o.a)∧W.cell? ⟨F,2,none⟩=some (.int .i64 o.b)∧W.cell? ⟨F,3,none⟩=some (.int .i64 o.k)∧W.cell? ⟨F,4,none⟩=some (.int .u64 o.c)∧W.cell? ⟨F,5,none⟩=some (.int .i64 o.party))∧
  W.cell? ⟨G,0,none⟩=some (.int .i64 H)∧W.cell? ⟨G,1,none⟩=some (.int .i64 I):=⟨Qd a.op,yL a.wd⟩
theorem MSt.cells (a:MSt w1 h A D n s W):W.cell? ⟨h,0,none⟩=some (.map (some A))∧W.cell? ⟨h,1,none⟩=some (.map (some D)):=yL a.said
theorem MSt.old (a:MSt w1 h A D n s W){g k:Nat}{x:Value}(b:g<w1.heap.size)(c:w1.cell? ⟨g,k,none⟩=some x):W.cell? ⟨g,k,none⟩=some x:=(a.below.cell (p:=⟨g,k,none⟩) b).trans c
theorem zcA (v:Value)(ops:List MOp)(w:World)(av:qK ops 65536 65536=true)(aH:Arr w.heap.size w 6 v ops.length (qz ops))(bo:ops.length≤16384)(aT:∀c∈ops,c.c<18446744073709551616)(aU:yC w):
  Calls prog 19 #[v] w (qM (.int .i64 (zbH ops)) w):=by
 have ay:=YF ops;have az:=QP ops;rw [if_pos av] at az;obtain ⟨bN,bO,rfl,bP,bp,bq,aV⟩:=aH.open;have br:=Z aH;have aW:=Z aU;have aX:=Z aT;have bs:=Z av;have bt:=Z aV;have bu:=Z ay;obtain ⟨C,aI⟩:∃C,qw ops=C:=⟨_,rfl⟩;rw [aI] at az;have aJ:=Z aI;have bv:=Z az;have bQ:=@run_makeMap prog;clear aH aU aT av bq aV bp ay az aI;go_enter func19,ntmps19;go_wp2_with (go_at_call 18;go_must (refine (zaG _ ops _ bs br bo aX aW).mono ?_;rw [aJ.out];rintro t o ⟨bR,rfl,aY,aZ⟩;obtain ⟨bS,bT,rfl,bU,a0⟩:=qg aY;have bw:=Z a0;have aA:=Z aZ;clear aZ aY a0));refine wp_loop_rounds 3 ?_;rw [rounds_succ];go_wp2_with fail;rw [rounds_succ];go_wp2_with fail;rw [rounds_succ];go_wp2_with fail;have ap:=Z (show MSt o o.heap.size (o.heap.size+1) (o.heap.size+1+1) 0 ⟨fun _=>0,fun _=>0,0⟩ (((o.alloc (.cells #[.map (some (o.heap.size+1)),.map (some (o.heap.size+1+1))] 96)).alloc (.map #[] 0)).alloc (.map #[] 0)) by
  have aK:(o.alloc (.cells #[.map (some (o.heap.size+1)),.map (some (o.heap.size+1+1))] 96)).heap.size=o.heap.size+1:=by rw [World.size_alloc]
  have bx:((o.alloc (.cells #[.map (some (o.heap.size+1)),.map (some (o.heap.size+1+1))] 96)).alloc (.map #[] 0)).heap.size=o.heap.size+1+1:=by rw [World.size_alloc,aK]
  refine ⟨QH _ (heap_alloc2_old _ _ _),?_,?_,qB _ _ _ _,Nat.le_refl _,by omega,by omega⟩
  ·have:=QI.made (o.alloc (.cells #[.map (some (o.heap.size+1)),.map (some (o.heap.size+1+1))] 96))
   rw [aK] at this;exact this.kept (World.grownBy_alloc _ _ none) (by simp)
  ·have:=QI.made ((o.alloc (.cells #[.map (some (o.heap.size+1)),.map (some (o.heap.size+1+1))] 96)).alloc (.map #[] 0))
   rw [bx] at this;exact this)
 generalize o.heap.size+1+1=aL at ap ⊢;generalize o.heap.size+1=a1 at ap ⊢;generalize a2:o.heap.size=bz at ap ⊢;have bV:=Z a2;clear a2;generalize ((o.alloc (.cells #[.map (some a1),.map (some aL)] 96)).alloc (.map #[] 0)).alloc (.map #[] 0)=bW at ap ⊢;go_loopg [6,23] ops.length (fun bA bB bC wr=>∃(b:Nat) (f:MostSt),b≤ops.length∧bA=ops.length-b∧bC= .int .i64 b∧bB= .int .i64 f.ou∧Hid (Qk (ops.drop b) (C.drop b) f=Qk ops C ⟨fun _=>0,fun _=>0,0⟩)∧Hid (f.small (60000 * b:Nat))∧Hid (MSt o bz a1 aL (2 * b) f wr))
 case atStart=>exact ⟨0,_,Nat.zero_le _,rfl,rfl,rfl,rfl,by simp [Hid,MostSt.small],ap⟩
 case round=>
  obtain ⟨b,f,bX,bY,rfl,rfl,D,E,aq⟩:=hrel;clear ap
  by_cases a3:b<ops.length
  ·have a4:b<C.length:=by have:=bv.out;omega
   have aM:=aA.trans (aq.below.mono aA.size);obtain ⟨bZ,b0,rfl,bD,a5⟩:=bt.out (by omega);obtain ⟨a6,a7,a8,a9,ba,bb⟩:=y8 a5 aM bD rfl b a3;obtain ⟨bE,rfl,b1,B,bc⟩:=bw.out (by omega);have aB:o.cell? ⟨bE,b,none⟩=some (.int .i64 C[b]):=by rw [bc b (by omega),yY C b a4]
   have ay:=bu.out C[b] (by rw [aJ.out];exact List.getElem_mem _);have bd:=aX.out ops[b] (List.getElem_mem _);have F:=Z (List.drop_eq_getElem_cons a3);have G:=Z (List.drop_eq_getElem_cons a4);generalize ops[b]=c at a6 a7 a8 a9 ba bb F bd;generalize C[b]=g at aB ay G;have bF:=zaO c;have bG:=Z (zm1 c bd);have bH:=aq.map0.lt;have be:=aq.map1.lt;have aC:=Z aM;obtain ⟨m,aN⟩:∃m,zy (yO c)=m:=⟨_,rfl⟩;rw [aN] at bF;have bf:=Z aN;have bI:=zhy m;clear a5 bc aM aN;go_upto_region 13 with (first | (go_at_call 39;go_must (refine (zkB c _).mono ?_;unfold ZC;rintro t b2 ⟨bJ,rfl,bg,bh⟩;have bi:=Z bg;have ar:=Z bh;clear bg bh a6 a7 a8 a9 ba bb)) | (go_at_call 22;go_must (refine (za4 bJ (yO c) _ (Arr.of_owns bi) (by have:=zez c;omega) bG (aW.below (aC.trans ((yF ar).2.1.mono aC.size)))).mono ?_;unfold qM;rw [bf.out];rintro t aw ⟨rfl,bj⟩;have aD:=Z bj;clear bj;unfold MNeed.arr)));have I:=((aq.later (yF ar).2.1).later aD).later ((Below.refl _ _).alloc (Nat.le_refl _) (.cells #[.int .i64 m.w0,.int .i64 m.w1] 23));have au:OpW wr.heap.size aw.heap.size c m.w0 m.w1 (aw.alloc (.cells #[.int .i64 m.w0,.int .i64 m.w1] 23)):=⟨QH _ ((aD.block _ (by have:=(yF ar).2.2;omega)).trans (yF ar).1),heap_alloc_new _ _⟩;have bK:aL<wr.heap.size:=be;have bk:wr.heap.size<aw.heap.size:=by have:=(yF ar).2.2;have:=aD.size;omega
   clear bi ar aD aq bI bH be;generalize wr.heap.size=b3 at au bK bk ⊢;generalize aw.heap.size=b4 at au bk ⊢;generalize aw.alloc (.cells #[.int .i64 m.w0,.int .i64 m.w1] 23)=b5 at I au ⊢;obtain ⟨bl,bm,b6,b7⟩:=E.out;have b8:=bl g;obtain ⟨e,aE⟩:∃e,zg c g=e:=⟨_,rfl⟩;have b9: -1≤e∧e≤32768:=by
    rw [←aE,zg];split<;>omega
   have ca:=bm e;have cb:=I.drew.map0.look g (by omega);obtain ⟨cc,cd,bn,aO⟩:=I.drew.map0.put (by omega) g (f.s0 g+m.w0) (by omega) (by omega);have aP:=I.drew.set0 bn aO;have aQ:=au.drew.grown aO (by have:=I.l2;omega) (by have:=I.l2;omega);obtain ⟨ce,cf⟩:=I.cells;obtain ⟨⟨cg,ch,ci,cj,ck,cl⟩,cm,aK⟩:=au.cells;obtain ⟨cn,co⟩:=aP.cells;obtain ⟨⟨cp,cq,cr,cs,ct,cu⟩,cv,cw⟩:=aQ.cells;have cx:=I.old B aB;have J:=Z aB;have K:=Z aP;have L:=Z aQ;have u:=Z (show yZ c g f=⟨upd f.s0 g (f.s0 g+m.w0),upd f.s1 e (f.s1 e+m.w1),if yP c then max (if yP c then max f.ou (f.s0 g+m.w0) else f.ou) (f.s1 e+m.w1) else (if yP c then max f.ou (f.s0 g+m.w0) else f.ou)⟩ by
    simp only [yZ,QF,Yv,aE,bf.out])
   have aR:=Z aE;clear I au aP aQ bn aO bl bm aB aE;have cy:(0:Int)≤b:=by omega
   have cz:(b:Int)<C.length:=by omega
   go_wp2_with fail;refine wp_loop_rounds 3 ?_;rw [rounds_succ]
   by_cases aF:yP c=true
   ·have n:=Z aF
    clear aF
    by_cases H:c.kind=17
    ·have ax:e=g-1:=by rw [←aR.out,zg,if_pos H]
     subst ax;have k17:(c.kind==17)=true:=by simpa using H
     clear H
     by_cases bL:f.ou<f.s0 g+m.w0
     ·by_cases aS:f.s0 g+m.w0<f.s1 (g-1)+m.w1
      ·as_aux_lemma=>
        go_wp2_with fail;go_region
        all_goals
         go_wp2_with (go_at_call 40;go_must (refine (yE c _).mono ?_;unfold qM;rw [n.out];rintro t M ⟨rfl,i⟩;have d:=K.later i;have j:=L.later i;obtain ⟨N,O⟩:=d.cells;obtain ⟨⟨P,Q,R,S,T,U⟩,V,W⟩:=j.cells;have x:=d.map0.look g (by omega);simp only [zA] at x;have X:=d.old B J;have k:=Z d;have y:=Z j;clear d j i));have Y:=k.drew.map1.look (g-1) (by omega);obtain ⟨aa,ab,p,l⟩:=k.drew.map1.put (by omega) (g-1) (f.s1 (g-1)+m.w1) (by omega) (by omega);have q:=Z (k.drew.set1 p l);have r:=y.drew.grown l (by omega) (by omega);obtain ⟨⟨ac,ad,ae,af,ag,ah⟩,ai,aj⟩:=r.cells;obtain ⟨ak,al⟩:=q.cells;clear p l r;rw [rounds_succ];go_wp2_with fail;go_region
         all_goals
          go_wp2_with (go_at_call 40;go_must (refine (yE c _).mono ?_;unfold qM;rw [n.out];rintro t am ⟨rfl,s⟩;have h:=q.later s;obtain ⟨an,ao⟩:=h.cells;have z:=h.map1.look (g-1) (by omega);simp only [zA] at z;have A:=Z h;clear h s));rw [rounds_succ];go_wp2_with fail;go_roundg (ops.length-(b+1))
          case measure=>omega
          case rel=>
           go_light;refine ⟨b+1,yZ c g f,by omega,rfl,by go_num,congrArg (Value.int .i64) (by rw [u.out,n.out];simp only [if_true];omega),?_,?_,?_⟩
           ·unfold Hid;rw [←D.out,F.out,G.out,Qk]
           ·have:=zh E c g
            rw [show ((60000 * (b+1):Nat):Int)=((60000 * b:Nat):Int)+60000 by omega];exact this
           ·have a:=A.out
            rw [u.out];exact ⟨a.said,a.map0,a.map1,a.below,a.l0,a.l1,a.l2⟩
      ·as_aux_lemma=>
        go_wp2_with fail;go_region
        all_goals
         go_wp2_with (go_at_call 40;go_must (refine (yE c _).mono ?_;unfold qM;rw [n.out];rintro t M ⟨rfl,i⟩;have d:=K.later i;have j:=L.later i;obtain ⟨N,O⟩:=d.cells;obtain ⟨⟨P,Q,R,S,T,U⟩,V,W⟩:=j.cells;have x:=d.map0.look g (by omega);simp only [zA] at x;have X:=d.old B J;have k:=Z d;have y:=Z j;clear d j i));have Y:=k.drew.map1.look (g-1) (by omega);obtain ⟨aa,ab,p,l⟩:=k.drew.map1.put (by omega) (g-1) (f.s1 (g-1)+m.w1) (by omega) (by omega);have q:=Z (k.drew.set1 p l);have r:=y.drew.grown l (by omega) (by omega);obtain ⟨⟨ac,ad,ae,af,ag,ah⟩,ai,aj⟩:=r.cells;obtain ⟨ak,al⟩:=q.cells;clear p l r;rw [rounds_succ];go_wp2_with fail;go_region
         all_goals
          go_wp2_with (go_at_call 40;go_must (refine (yE c _).mono ?_;unfold qM;rw [n.out];rintro t am ⟨rfl,s⟩;have h:=q.later s;obtain ⟨an,ao⟩:=h.cells;have z:=h.map1.look (g-1) (by omega);simp only [zA] at z;have A:=Z h;clear h s));rw [rounds_succ];go_wp2_with fail;go_roundg (ops.length-(b+1))
          case measure=>omega
          case rel=>
           go_light;refine ⟨b+1,yZ c g f,by omega,rfl,by go_num,congrArg (Value.int .i64) (by rw [u.out,n.out];simp only [if_true];omega),?_,?_,?_⟩
           ·unfold Hid;rw [←D.out,F.out,G.out,Qk]
           ·have:=zh E c g
            rw [show ((60000 * (b+1):Nat):Int)=((60000 * b:Nat):Int)+60000 by omega];exact this
           ·have a:=A.out
            rw [u.out];exact ⟨a.said,a.map0,a.map1,a.below,a.l0,a.l1,a.l2⟩
     ·by_cases aS:f.ou<f.s1 (g-1)+m.w1
      ·as_aux_lemma=>
        go_wp2_with fail;go_region
        all_goals
         go_wp2_with (go_at_call 40;go_must (refine (yE c _).mono ?_;unfold qM;rw [n.out];rintro t M ⟨rfl,i⟩;have d:=K.later i;have j:=L.later i;obtain ⟨N,O⟩:=d.cells;obtain ⟨⟨P,Q,R,S,T,U⟩,V,W⟩:=j.cells;have x:=d.map0.look g (by omega);simp only [zA] at x;have X:=d.old B J;have k:=Z d;have y:=Z j;clear d j i));have Y:=k.drew.map1.look (g-1) (by omega);obtain ⟨aa,ab,p,l⟩:=k.drew.map1.put (by omega) (g-1) (f.s1 (g-1)+m.w1) (by omega) (by omega);have q:=Z (k.drew.set1 p l);have r:=y.drew.grown l (by omega) (by omega);obtain ⟨⟨ac,ad,ae,af,ag,ah⟩,ai,aj⟩:=r.cells;obtain ⟨ak,al⟩:=q.cells;clear p l r;rw [rounds_succ];go_wp2_with fail;go_region
         all_goals
          go_wp2_with (go_at_call 40;go_must (refine (yE c _).mono ?_;unfold qM;rw [n.out];rintro t am ⟨rfl,s⟩;have h:=q.later s;obtain ⟨an,ao⟩:=h.cells;have z:=h.map1.look (g-1) (by omega);simp only [zA] at z;have A:=Z h;clear h s));rw [rounds_succ];go_wp2_with fail;go_roundg (ops.length-(b+1))
          case measure=>omega
          case rel=>
           go_light;refine ⟨b+1,yZ c g f,by omega,rfl,by go_num,congrArg (Value.int .i64) (by rw [u.out,n.out];simp only [if_true];omega),?_,?_,?_⟩
           ·unfold Hid;rw [←D.out,F.out,G.out,Qk]
           ·have:=zh E c g
            rw [show ((60000 * (b+1):Nat):Int)=((60000 * b:Nat):Int)+60000 by omega];exact this
           ·have a:=A.out
            rw [u.out];exact ⟨a.said,a.map0,a.map1,a.below,a.l0,a.l1,a.l2⟩
      ·as_aux_lemma=>
        go_wp2_with fail;go_region
        all_goals
         go_wp2_with (go_at_call 40;go_must (refine (yE c _).mono ?_;unfold qM;rw [n.out];rintro t M ⟨rfl,i⟩;have d:=K.later i;have j:=L.later i;obtain ⟨N,O⟩:=d.cells;obtain ⟨⟨P,Q,R,S,T,U⟩,V,W⟩:=j.cells;have x:=d.map0.look g (by omega);simp only [zA] at x;have X:=d.old B J;have k:=Z d;have y:=Z j;clear d j i));have Y:=k.drew.map1.look (g-1) (by omega);obtain ⟨aa,ab,p,l⟩:=k.drew.map1.put (by omega) (g-1) (f.s1 (g-1)+m.w1) (by omega) (by omega);have q:=Z (k.drew.set1 p l);have r:=y.drew.grown l (by omega) (by omega);obtain ⟨⟨ac,ad,ae,af,ag,ah⟩,ai,aj⟩:=r.cells;obtain ⟨ak,al⟩:=q.cells;clear p l r;rw [rounds_succ];go_wp2_with fail;go_region
         all_goals
          go_wp2_with (go_at_call 40;go_must (refine (yE c _).mono ?_;unfold qM;rw [n.out];rintro t am ⟨rfl,s⟩;have h:=q.later s;obtain ⟨an,ao⟩:=h.cells;have z:=h.map1.look (g-1) (by omega);simp only [zA] at z;have A:=Z h;clear h s));rw [rounds_succ];go_wp2_with fail;go_roundg (ops.length-(b+1))
          case measure=>omega
          case rel=>
           go_light;refine ⟨b+1,yZ c g f,by omega,rfl,by go_num,congrArg (Value.int .i64) (by rw [u.out,n.out];simp only [if_true];omega),?_,?_,?_⟩
           ·unfold Hid;rw [←D.out,F.out,G.out,Qk]
           ·have:=zh E c g
            rw [show ((60000 * (b+1):Nat):Int)=((60000 * b:Nat):Int)+60000 by omega];exact this
           ·have a:=A.out
            rw [u.out];exact ⟨a.said,a.map0,a.map1,a.below,a.l0,a.l1,a.l2⟩
    ·have ax:e=g:=by rw [←aR.out,zg,if_neg H]
     subst ax;have k17:(c.kind==17)=false:=by simpa using H
     clear H
     by_cases bL:f.ou<f.s0 e+m.w0
     ·by_cases aS:f.s0 e+m.w0<f.s1 e+m.w1
      ·as_aux_lemma=>
        go_wp2_with fail;go_region
        all_goals
         go_wp2_with (go_at_call 40;go_must (refine (yE c _).mono ?_;unfold qM;rw [n.out];rintro t M ⟨rfl,i⟩;have d:=K.later i;have j:=L.later i;obtain ⟨N,O⟩:=d.cells;obtain ⟨⟨P,Q,R,S,T,U⟩,V,W⟩:=j.cells;have x:=d.map0.look e (by omega);simp only [zA] at x;have X:=d.old B J;have k:=Z d;have y:=Z j;clear d j i));have Y:=k.drew.map1.look e (by omega);obtain ⟨aa,ab,p,l⟩:=k.drew.map1.put (by omega) e (f.s1 e+m.w1) (by omega) (by omega);have q:=Z (k.drew.set1 p l);have r:=y.drew.grown l (by omega) (by omega);obtain ⟨⟨ac,ad,ae,af,ag,ah⟩,ai,aj⟩:=r.cells;obtain ⟨ak,al⟩:=q.cells;clear p l r;rw [rounds_succ];go_wp2_with fail;go_region
         all_goals
          go_wp2_with (go_at_call 40;go_must (refine (yE c _).mono ?_;unfold qM;rw [n.out];rintro t am ⟨rfl,s⟩;have h:=q.later s;obtain ⟨an,ao⟩:=h.cells;have z:=h.map1.look e (by omega);simp only [zA] at z;have A:=Z h;clear h s));rw [rounds_succ];go_wp2_with fail;go_roundg (ops.length-(b+1))
          case measure=>omega
          case rel=>
           go_light;refine ⟨b+1,yZ c e f,by omega,rfl,by go_num,congrArg (Value.int .i64) (by rw [u.out,n.out];simp only [if_true];omega),?_,?_,?_⟩
           ·unfold Hid;rw [←D.out,F.out,G.out,Qk]
           ·have:=zh E c e
            rw [show ((60000 * (b+1):Nat):Int)=((60000 * b:Nat):Int)+60000 by omega];exact this
           ·have a:=A.out
            rw [u.out];exact ⟨a.said,a.map0,a.map1,a.below,a.l0,a.l1,a.l2⟩
      ·as_aux_lemma=>
        go_wp2_with fail;go_region
        all_goals
         go_wp2_with (go_at_call 40;go_must (refine (yE c _).mono ?_;unfold qM;rw [n.out];rintro t M ⟨rfl,i⟩;have d:=K.later i;have j:=L.later i;obtain ⟨N,O⟩:=d.cells;obtain ⟨⟨P,Q,R,S,T,U⟩,V,W⟩:=j.cells;have x:=d.map0.look e (by omega);simp only [zA] at x;have X:=d.old B J;have k:=Z d;have y:=Z j;clear d j i));have Y:=k.drew.map1.look e (by omega);obtain ⟨aa,ab,p,l⟩:=k.drew.map1.put (by omega) e (f.s1 e+m.w1) (by omega) (by omega);have q:=Z (k.drew.set1 p l);have r:=y.drew.grown l (by omega) (by omega);obtain ⟨⟨ac,ad,ae,af,ag,ah⟩,ai,aj⟩:=r.cells;obtain ⟨ak,al⟩:=q.cells;clear p l r;rw [rounds_succ];go_wp2_with fail;go_region
         all_goals
          go_wp2_with (go_at_call 40;go_must (refine (yE c _).mono ?_;unfold qM;rw [n.out];rintro t am ⟨rfl,s⟩;have h:=q.later s;obtain ⟨an,ao⟩:=h.cells;have z:=h.map1.look e (by omega);simp only [zA] at z;have A:=Z h;clear h s));rw [rounds_succ];go_wp2_with fail;go_roundg (ops.length-(b+1))
          case measure=>omega
          case rel=>
           go_light;refine ⟨b+1,yZ c e f,by omega,rfl,by go_num,congrArg (Value.int .i64) (by rw [u.out,n.out];simp only [if_true];omega),?_,?_,?_⟩
           ·unfold Hid;rw [←D.out,F.out,G.out,Qk]
           ·have:=zh E c e
            rw [show ((60000 * (b+1):Nat):Int)=((60000 * b:Nat):Int)+60000 by omega];exact this
           ·have a:=A.out
            rw [u.out];exact ⟨a.said,a.map0,a.map1,a.below,a.l0,a.l1,a.l2⟩
     ·by_cases aS:f.ou<f.s1 e+m.w1
      ·as_aux_lemma=>
        go_wp2_with fail;go_region
        all_goals
         go_wp2_with (go_at_call 40;go_must (refine (yE c _).mono ?_;unfold qM;rw [n.out];rintro t M ⟨rfl,i⟩;have d:=K.later i;have j:=L.later i;obtain ⟨N,O⟩:=d.cells;obtain ⟨⟨P,Q,R,S,T,U⟩,V,W⟩:=j.cells;have x:=d.map0.look e (by omega);simp only [zA] at x;have X:=d.old B J;have k:=Z d;have y:=Z j;clear d j i));have Y:=k.drew.map1.look e (by omega);obtain ⟨aa,ab,p,l⟩:=k.drew.map1.put (by omega) e (f.s1 e+m.w1) (by omega) (by omega);have q:=Z (k.drew.set1 p l);have r:=y.drew.grown l (by omega) (by omega);obtain ⟨⟨ac,ad,ae,af,ag,ah⟩,ai,aj⟩:=r.cells;obtain ⟨ak,al⟩:=q.cells;clear p l r;rw [rounds_succ];go_wp2_with fail;go_region
         all_goals
          go_wp2_with (go_at_call 40;go_must (refine (yE c _).mono ?_;unfold qM;rw [n.out];rintro t am ⟨rfl,s⟩;have h:=q.later s;obtain ⟨an,ao⟩:=h.cells;have z:=h.map1.look e (by omega);simp only [zA] at z;have A:=Z h;clear h s));rw [rounds_succ];go_wp2_with fail;go_roundg (ops.length-(b+1))
          case measure=>omega
          case rel=>
           go_light;refine ⟨b+1,yZ c e f,by omega,rfl,by go_num,congrArg (Value.int .i64) (by rw [u.out,n.out];simp only [if_true];omega),?_,?_,?_⟩
           ·unfold Hid;rw [←D.out,F.out,G.out,Qk]
           ·have:=zh E c e
            rw [show ((60000 * (b+1):Nat):Int)=((60000 * b:Nat):Int)+60000 by omega];exact this
           ·have a:=A.out
            rw [u.out];exact ⟨a.said,a.map0,a.map1,a.below,a.l0,a.l1,a.l2⟩
      ·as_aux_lemma=>
        go_wp2_with fail;go_region
        all_goals
         go_wp2_with (go_at_call 40;go_must (refine (yE c _).mono ?_;unfold qM;rw [n.out];rintro t M ⟨rfl,i⟩;have d:=K.later i;have j:=L.later i;obtain ⟨N,O⟩:=d.cells;obtain ⟨⟨P,Q,R,S,T,U⟩,V,W⟩:=j.cells;have x:=d.map0.look e (by omega);simp only [zA] at x;have X:=d.old B J;have k:=Z d;have y:=Z j;clear d j i));have Y:=k.drew.map1.look e (by omega);obtain ⟨aa,ab,p,l⟩:=k.drew.map1.put (by omega) e (f.s1 e+m.w1) (by omega) (by omega);have q:=Z (k.drew.set1 p l);have r:=y.drew.grown l (by omega) (by omega);obtain ⟨⟨ac,ad,ae,af,ag,ah⟩,ai,aj⟩:=r.cells;obtain ⟨ak,al⟩:=q.cells;clear p l r;rw [rounds_succ];go_wp2_with fail;go_region
         all_goals
          go_wp2_with (go_at_call 40;go_must (refine (yE c _).mono ?_;unfold qM;rw [n.out];rintro t am ⟨rfl,s⟩;have h:=q.later s;obtain ⟨an,ao⟩:=h.cells;have z:=h.map1.look e (by omega);simp only [zA] at z;have A:=Z h;clear h s));rw [rounds_succ];go_wp2_with fail;go_roundg (ops.length-(b+1))
          case measure=>omega
          case rel=>
           go_light;refine ⟨b+1,yZ c e f,by omega,rfl,by go_num,congrArg (Value.int .i64) (by rw [u.out,n.out];simp only [if_true];omega),?_,?_,?_⟩
           ·unfold Hid;rw [←D.out,F.out,G.out,Qk]
           ·have:=zh E c e
            rw [show ((60000 * (b+1):Nat):Int)=((60000 * b:Nat):Int)+60000 by omega];exact this
           ·have a:=A.out
            rw [u.out];exact ⟨a.said,a.map0,a.map1,a.below,a.l0,a.l1,a.l2⟩
   ·have aG:yP c=false:=by simpa using aF
    have n:=Z aG;have H:¬c.kind=17:=by
     intro av;rw [yP] at aG;simp [av] at aG
    have ax:e=g:=by rw [←aR.out,zg,if_neg H]
    subst ax;have k17:(c.kind==17)=false:=by simpa using H
    clear H aF aG
    as_aux_lemma=>
     go_wp2_with fail;go_region
     all_goals
      go_wp2_with (go_at_call 40;go_must (refine (yE c _).mono ?_;unfold qM;rw [n.out];rintro t M ⟨rfl,i⟩;have d:=K.later i;have j:=L.later i;obtain ⟨N,O⟩:=d.cells;obtain ⟨⟨P,Q,R,S,T,U⟩,V,W⟩:=j.cells;have x:=d.map0.look e (by omega);simp only [zA] at x;have X:=d.old B J;have k:=Z d;have y:=Z j;clear d j i));have Y:=k.drew.map1.look e (by omega);obtain ⟨aa,ab,p,l⟩:=k.drew.map1.put (by omega) e (f.s1 e+m.w1) (by omega) (by omega);have q:=Z (k.drew.set1 p l);have r:=y.drew.grown l (by omega) (by omega);obtain ⟨⟨ac,ad,ae,af,ag,ah⟩,ai,aj⟩:=r.cells;obtain ⟨ak,al⟩:=q.cells;clear p l r;rw [rounds_succ];go_wp2_with fail;go_region
      all_goals
       go_wp2_with (go_at_call 40;go_must (refine (yE c _).mono ?_;unfold qM;rw [n.out];rintro t am ⟨rfl,s⟩;have h:=q.later s;obtain ⟨an,ao⟩:=h.cells;have z:=h.map1.look e (by omega);simp only [zA] at z;have A:=Z h;clear h s));rw [rounds_succ];go_wp2_with fail;go_roundg (ops.length-(b+1))
       case measure=>omega
       case rel=>
        go_light;refine ⟨b+1,yZ c e f,by omega,rfl,by go_num,congrArg (Value.int .i64) (by rw [u.out,n.out];simp only [if_false,Bool.false_eq_true]),?_,?_,?_⟩
        ·unfold Hid;rw [←D.out,F.out,G.out,Qk]
        ·have:=zh E c e
         rw [show ((60000 * (b+1):Nat):Int)=((60000 * b:Nat):Int)+60000 by omega];exact this
        ·have a:=A.out
         rw [u.out];exact ⟨a.said,a.map0,a.map1,a.below,a.l0,a.l1,a.l2⟩
  ·obtain rfl:b=ops.length:=by omega
   have B:=D.out;rw [List.drop_length,Qk] at B;have bM:=Z (show f.ou=zbH ops by rw [zbH,aJ.out,←B]);have aC:=Z (aA.trans (aq.below.mono aA.size));clear B;go_wp2_with fail;go_ret;exact ⟨QL bM,aC⟩
end Go.Proofs.YtklofgfkaaoipaaGreatDoor

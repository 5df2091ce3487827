/-
  THE CONTRACT of micro.forms.
-/
import Derived.Test.YtklofgfkaaoipaaGreatDoorMMem
import Derived.Test.YtklofgfkaaoipaaGreatDoorMOps
import Derived.Deep.DeepCutAuto
import Derived.Deep.Light
import Derived.Test.YtklofgfkaaoipaaGreatDoorMHd
set_option maxHeartbeats 16000000
set_option maxRecDepth 100000
set_option linter.unusedSimpArgs false
set_option linter.unusedVariables false
namespace Go.Proofs.YtklofgfkaaoipaaGreatDoor
open Go.RowKit Go.Proofs.Tryz
theorem zfA (v:Value)(ops:List MOp)(o c:Int)(w:World)(F:Arr w.heap.size w 6 v ops.length (qz ops))(b6:ops.length≤1000000)(aQ:∀a∈ops,a.c<18446744073709551616)(aR:yC w):
  Calls prog 35 #[v,.agg #[.int .i64 o,.int .i64 c]] w (zkz (zaA ops o c) w):=by
 obtain ⟨_,_,rfl,_,bE,bF,aS⟩:=F.open;have aT:=Z aS;have aU:=Z aR;have bG:=Z aQ;clear F aS bF bE aR aQ;go_enter func35,ntmps35;go_wp2_with fail;go_loopg [7,17] ops.length (fun ak al am wr=>∃e:Nat,e≤ops.length∧ak=ops.length-e∧am= .int .i64 e∧al= .int .i64 (Ql (ops.take e):Nat)∧wr.heap[w.heap.size]? =some (.cells #[.int .i64 o,.int .i64 c] 23 (0,0))∧w.heap.size+1≤wr.heap.size∧Below w.heap.size w wr)
 case atStart=>exact ⟨0,Nat.zero_le _,rfl,rfl,rfl,heap_alloc_new _ _,by simp,(Below.refl _ _).alloc (Nat.le_refl _) _⟩
 case round=>
  obtain ⟨e,bH,bI,rfl,rfl,aV,an,G⟩:=hrel;have ao:=Z aV;have ap:=za2 (ops.take e);rw [List.length_take] at ap;clear aV
  by_cases H:e<ops.length
  ·obtain ⟨bJ,bK,rfl,aq,I⟩:=aT.out (by omega)
   obtain ⟨t,u,x,y,z,A⟩:=y8 I G aq rfl e H;have ar:=Z (ZG ops e H);generalize ops[e]=a at t u x y z A ar;clear I;have B:=Z G;clear G
   by_cases m:qI a=true
   ·have p:(a.kind==18||a.kind==19)=true:=m
    have au:=Z m;clear m;go_wp2_with (go_at_call 78;go_must (refine (zff _ _ _ _ _ _ _).mono ?_;rw [p];rintro j X ⟨rfl,C⟩;clear t u x y z A p));go_roundg (ops.length-(e+1))
    case measure=>omega
    case rel=>
     obtain ⟨bL,s,bM⟩:=yF C;refine ⟨e+1,by omega,rfl,by go_num,by rw [ar.out,au.out];go_num,(s.block _ (by omega)).trans ao,by omega,B.trans (s.mono B.size)⟩
   ·have p:(a.kind==18||a.kind==19)=false:=(Bool.not_eq_true _).mp m
    have au:=Z m;clear m;go_wp2_with (go_at_call 78;go_must (refine (zff _ _ _ _ _ _ _).mono ?_;rw [p];rintro j X ⟨rfl,C⟩;clear t u x y z A p));go_roundg (ops.length-(e+1))
    case measure=>omega
    case rel=>
     obtain ⟨bL,s,bM⟩:=yF C;refine ⟨e+1,by omega,rfl,by go_num,by rw [ar.out,if_neg au.out];rfl,(s.block _ (by omega)).trans ao,by omega,B.trans (s.mono B.size)⟩
  ·obtain rfl:e=ops.length:=by omega
   rw [List.take_length] at ap ⊢;have B:=Z G;clear G;generalize aW:Ql ops=b at ap ⊢;have bN:=Z aW;clear aW;obtain ⟨bO,aX,aY,aZ,a0⟩:=info_parts qD;have J:=run_make (P:=prog) wr 24 3 bO (.int .i64 0) underlying24 aX aY .i64 .i64 b b (by omega) (by omega) (by rw [a0];omega) (by omega);rw [aZ,Int.toNat_natCast,Nat.mul_one] at J;have av:=heap_alloc_new wr (.cells (madeCells (Value.int .i64 0).cells b) 3);rw [YS] at J av;have a1:=(QH (.cells (ints (List.replicate b 0)).toArray 3) ao);have Y:=B.alloc (Nat.le_of_lt an) (.cells (ints (List.replicate b 0)).toArray 3);have bP:wr.heap.size<(wr.alloc (.cells (ints (List.replicate b 0)).toArray 3)).heap.size:=by simp
   have bQ:=Z J;have a2:=Z av;have a3:=Z a1;have a4:=Z Y;clear av a1 Y bQ aX aY aZ a0;generalize aa:wr.heap.size=q at a2 an J bP;have bR:=Z aa;clear aa;go_wp2_with fail;clear J;go_loopg [6,30] ops.length (fun ak al am ab=>∃(e:Nat) (i f:List Int),e≤ops.length∧ak=ops.length-e∧am= .int .i64 e∧Hid (i.length=e)∧Hid (f.length=b)∧Hid (zZ o c b (ops.drop e) f i=zaA ops o c)∧
    Hid (ab.ownsRow (q+1) 90 1 al i.length (ints i))∧Hid (ab.heap[q]? =some (.cells (ints f).toArray 3 (0,0)))∧Hid (ab.heap[w.heap.size]? =some (.cells #[.int .i64 o,.int .i64 c] 23 (0,0)))∧Hid (Below w.heap.size w ab))
   case atStart=>
    exact ⟨0, [],List.replicate b 0,Nat.zero_le _,rfl,rfl,rfl,by simp [Hid],by simp only [Hid,List.drop_zero];rw [zaA,bN.out],World.ownsRow_nil _ _ _ _,by rw [←bR.out];exact heap_alloc_new _ _,a3,a4⟩
   case round=>
    obtain ⟨e,i,f,bH,bI,rfl,a5,a6,aw,ax,a7,ay,D⟩:=hrel;clear a3 a4 a2
    by_cases H:e<ops.length
    ·obtain ⟨bJ,bK,rfl,aq,I⟩:=aT.out (by omega)
     obtain ⟨t,u,x,y,z,A⟩:=y8 I D aq rfl e H;have az:=Z (List.drop_eq_getElem_cons H);have a8:=bG.out ops[e] (List.getElem_mem _);generalize ops[e]=a at t u x y z A az a8;clear I;obtain ⟨d,n,a9⟩:∃d n,qq a o c=(d,n):=⟨_,_,rfl⟩;have aA:=Z a9;clear a9;have ba:=Z (D.alloc D.size (.cells a.arr 61));have bb:=yL (QH (.cells a.arr 61) ay);simp only [MOp.arr] at bb;obtain ⟨bS,bT⟩:=bb;go_upto_region 14 with (go_at_call 38;go_must (refine (zeZ a o c _ a8 (aU.below ba)).mono ?_;rw [aA.out];unfold qM Rule.out Rule.arr;rintro j X ⟨rfl,C⟩;have bc:=Z C;clear C));have hF:=FSt.mk1 (r:=d) ax a7 ay D an bc;simp only [Rule.arr] at hF;clear t u x y z A bS bT ba ax a7 ay D bc;generalize s:wr.heap.size=aB at hF ⊢;generalize Y:X.heap.size=K at hF ⊢;generalize X.alloc (.cells #[.int .i64 d.a,.int .i64 d.b,.int .i64 d.makes,.int .i64 d.k,.bool d.c,.bool d.party,.int .i64 d.rounds] 92)=b7 at hF ⊢;clear s Y;obtain ⟨ac,m⟩:∃ac,qI a=ac:=⟨_,rfl⟩;have p:(a.kind==18||a.kind==19)=ac:=m;have E:=Z m;have bd:=Z p;obtain ⟨aC,aD,aE,ad,aF,aG⟩:=hF.opc;have be:=Z hF;clear m p hF;go_upto_if 42 with (go_at_call 78;go_must (refine (zff _ _ _ _ _ _ _).mono ?_;rw [bd.out];rintro j _ ⟨rfl,bf⟩;have r:=Z (be.later bf);clear bf));clear aC aD aE ad aF aG be bd;obtain ⟨ok1,bg⟩:∃ok1,yH b f a (d,n)=ok1:=⟨_,rfl⟩;have k:=Z bg;clear bg;go_cut [14] from 31 to 148 (fun L M=>L= .bool ok1∧Hid (FSt w q aB K a {d with k:=opK b a (d,n)} o c (YT f a ok1) i u6 M))
     case first=>
      obtain ⟨aC,aD,aE,ad,aF,aG⟩:=r.opc;obtain ⟨bh,bi,bj,aH,bk,bl,bm,bU⟩:=r.rulec;cases ac
      ·as_aux_lemma=>
       go_wp2_with fail;go_meet
       case rel=>
        have c:qI a=false:=E.out;have l:opK b a (d,n)=d.k:=by simp [opK,c]
        refine ⟨?_,?_⟩
        ·rw [←k.out];simp [yH,c]
        ·unfold Hid;rw [l,zjL _ _ _ c];exact r
      ·have N:=Z (r.setK b)
       have b8:=r.lt2;have b9:=r.lt3;have ca:¬K=q:=by omega
       have cb:¬q=K:=by omega
       have cc:¬K=aB:=by omega
       have cd:¬aB=K:=by omega
       cases n
       ·
        as_aux_lemma=>
        go_wp2_with fail;go_meet
        case rel=>
         have c:qI a=true:=E.out;have l:opK b a (d,false)=b:=by simp [opK,c]
         refine ⟨?_,?_⟩
         ·rw [←k.out];simp [yH,c]
         ·unfold Hid;rw [l,←k.out,show yH b f a (d,false)=false by simp [yH,c]];rw [zbs];exact N
       ·by_cases ae:0≤a.k
        ·by_cases bn:a.k<b
         ·obtain ⟨g,O⟩:=Int.eq_ofNat_of_zero_le ae
          have bV:g<f.length:=by have:=a6.out;omega
          obtain ⟨bW,_⟩:=r.seenc g bV;have bX:=Z (show f.getD g 0=f.getD g 0 from rfl);rw [O] at ad bn ae;have Q:=Z O;clear O;obtain ⟨R,aI⟩:∃R,f.getD g 0=R:=⟨_,rfl⟩;rw [aI] at bW;have af:=Z (show f[g]?.getD 0=R by rw [←aI];simp [List.getD]);clear aI bX;have ag:g<b:=by omega
          by_cases aJ:R=0
          ·subst aJ
           have bY:=Z (N.setSeen g)
           as_aux_lemma=>
           go_wp2_with fail;go_meet
           case rel=>
            have c:qI a=true:=E.out;have l:opK b a (d,true)=b:=by simp [opK,c]
            refine ⟨?_,?_⟩
            ·rw [←k.out];simp [yH,c,Q.out,af.out,ag]
            ·unfold Hid;rw [l,←k.out,show yH b f a (d,true)=true by simp [yH,c,Q.out,af.out,ag]];rw [zjM _ _ c,Q.out,Int.toNat_natCast];exact bY
          ·have bo:(R==0)=false:=by simpa using aJ
           clear aJ
           as_aux_lemma=>
           go_wp2_with fail;go_meet
           case rel=>
            have c:qI a=true:=E.out;have l:opK b a (d,true)=b:=by simp [opK,c]
            refine ⟨?_,?_⟩
            ·rw [←k.out];simp [yH,c,Q.out,af.out,ag,bo]
            ·unfold Hid;rw [l,←k.out,show yH b f a (d,true)=false by simp [yH,c,Q.out,af.out,ag,bo]];rw [zbs];exact N
         ·have bp:decide (a.k<b)=false:=by simpa using bn
          as_aux_lemma=>
          go_wp2_with fail;go_meet
          case rel=>
           have c:qI a=true:=E.out;have l:opK b a (d,true)=b:=by simp [opK,c]
           refine ⟨?_,?_⟩
           ·rw [←k.out];simp [yH,c,bp]
           ·unfold Hid;rw [l,←k.out,show yH b f a (d,true)=false by simp [yH,c,bp]];rw [zbs];exact N
        ·have bq:decide (0≤a.k)=false:=by simpa using ae
         as_aux_lemma=>
         go_wp2_with fail;go_meet
         case rel=>
          have c:qI a=true:=E.out;have l:opK b a (d,true)=b:=by simp [opK,c]
          refine ⟨?_,?_⟩
          ·rw [←k.out];simp [yH,c,bq]
          ·unfold Hid;rw [l,←k.out,show yH b f a (d,true)=false by simp [yH,c,bq]];rw [zbs];exact N
     case rest=>
      obtain ⟨rfl,h⟩:=hcut;clear r;obtain ⟨S,br⟩:∃S,qG i a.a d.a=S:=⟨_,rfl⟩;obtain ⟨T,bs⟩:∃T,qG i a.b d.b=T:=⟨_,rfl⟩;have ah:=Z br;have aK:=Z bs;clear br bs;obtain ⟨aC,aD,aE,ad,aF,aG⟩:=h.opc;obtain ⟨bh,bi,bj,aH,bk,bl,bm,bU⟩:=h.rulec;simp only at bh bi bj aH bk bl bm;have aL:=Z (Arr.of_owns h.own);obtain ⟨ai,aM⟩:∃ai,opK b a (d,n)=ai:=⟨_,rfl⟩;rw [aM] at aH;have U:=Z aM;clear aM;go_upto_region 19 with fail;go_cut [14] from 31 to 148 (fun L M=>L= .bool (ok1&&(S&&T))∧wc=M)
      case first=>
       cases ok1
       ·as_aux_lemma=>
        go_wp2_with fail;go_meet
        case rel=>exact ⟨rfl,rfl⟩
       ·cases S
        ·as_aux_lemma=>
         go_wp2_with (go_at_call 79;go_must (refine (zdl u6 i a.a d.a _ aL).mono ?_;rw [ah.out];rintro j bt ⟨rfl,rfl⟩));go_meet
         case rel=>exact ⟨rfl,rfl⟩
        ·cases T
         ·as_aux_lemma=>
          go_wp2_with (go_at_call 79;go_must (refine (zdl u6 i _ _ _ aL).mono ?_;(first | rw [ah.out] | rw [aK.out]);rintro j bt ⟨rfl,rfl⟩));go_meet
          case rel=>exact ⟨rfl,rfl⟩
         ·as_aux_lemma=>
          go_wp2_with (go_at_call 79;go_must (refine (zdl u6 i _ _ _ aL).mono ?_;(first | rw [ah.out] | rw [aK.out]);rintro j bt ⟨rfl,rfl⟩));go_meet
          case rel=>exact ⟨rfl,rfl⟩
      case rest=>
       obtain ⟨rfl,rfl⟩:=hcut;obtain ⟨V,aN⟩:∃V,(ok1&&(S&&T))=V:=⟨_,rfl⟩;rw [aN];have bZ:=Z aN;clear aN;go_upto_region 20 with fail;go_cut [14] from 31 to 148 (fun L M=>L= .bool (V&&zX b a (d,n))∧wc=M)
       case first=>
        cases V
        ·as_aux_lemma=>
          go_wp2_with fail
          all_goals
           go_meet
           case rel=>
            go_light;refine ⟨?_,rfl⟩;rw [zX,U.out];simp [*]
            try (intros;omega)
        ·by_cases ce:0<ai
         ·by_cases ae:0≤a.k
          ·by_cases cf:a.k<ai
           ·as_aux_lemma=>
             go_wp2_with fail
             all_goals
              go_meet
              case rel=>
               go_light;refine ⟨?_,rfl⟩;rw [zX,U.out];simp [*]
               try (intros;omega)
           ·as_aux_lemma=>
             go_wp2_with fail
             all_goals
              go_meet
              case rel=>
               go_light;refine ⟨?_,rfl⟩;rw [zX,U.out];simp [*]
               try (intros;omega)
          ·as_aux_lemma=>
            go_wp2_with fail
            all_goals
             go_meet
             case rel=>
              go_light;refine ⟨?_,rfl⟩;rw [zX,U.out];simp [*]
              try (intros;omega)
         ·as_aux_lemma=>
           go_wp2_with fail
           all_goals
            go_meet
            case rel=>
             go_light;refine ⟨?_,rfl⟩;rw [zX,U.out];simp [*]
             try (intros;omega)
       case rest=>
        obtain ⟨rfl,rfl⟩:=hcut;obtain ⟨aj,aO⟩:∃aj,zl b f i a (d,n)=aj:=⟨_,rfl⟩;have bu:(V&&zX b a (d,n))=aj:=by rw [←aO,zl,k.out,ah.out,aK.out,bZ.out]
        rw [bu];have bv:=Z aO;clear aO bu;cases aj
        ·as_aux_lemma=>
         go_wp2_with (go_at_call 14;go_must (refine (yV _ _ _ _ (aU.below h.below)).mono ?_;rintro j _ ⟨v,rfl,F,bw⟩;have b0:=Z F;have b1:=Z bw;clear F bw));go_ret2;have W:=aw.out;rw [az.out,zi6 aA.out bv.out] at W;rw [←W];exact ⟨h.below.trans (b1.mono h.below.size),_,rfl,_,_,b0⟩
        ·as_aux_lemma=>
         have bx:=h.own;have aa:q+1≤wc.heap.size:=by have:=qd h.rule;have:=h.lt2;have:=h.lt3;omega
         have cg:i.length≤1000000:=by have:=a5.out;omega
         go_wp2_with (at_builtin;go_must (refine yS rfl _ _ 85 rfl 90 (.int .i64 0) 1 8 underlying85 zk2 rfl (by decide) #[_] _ _ _ _ bx rfl rfl rfl (by intro _ bz;simp at bz;subst bz;rfl) aa (by omega) (by unfold maxLen;omega) ?_;intro _ b2 bA bB _;have b3:=Z bA;have bC:=Z bB;clear bA bB));go_roundg (ops.length-(e+1))
         case measure=>omega
         case rel=>
          have aP:=bx.lt;have bD:∀g,(u6.ownBlock=some g→False)→g<wc.heap.size→b2.heap[g]? =wc.heap[g]? :=fun g b4 b5=>bC.block g b5 (fun j=>b4 j.symm)
          refine ⟨e+1,i++[d.makes],YT f a ok1,by omega,rfl,by go_num,by simp [Hid,a5.out],by simp only [Hid];rw [zjK];exact a6,?_,?_,?_,?_,?_⟩
          ·unfold Hid;rw [←aw.out,az.out,zhC aA.out bv.out k.out]
          ·unfold Hid;rw [yd,List.length_append];exact b3
          ·exact (bD q (fun j=>by have:=aP q j;omega) (by omega)).trans h.seen
          ·exact (bD _ (fun j=>by have:=aP _ j;have:=h.lt1;omega) (by have:=h.lt1;omega)).trans h.elems
          ·exact h.below.grown bC h.below.size (fun g O=>by have:=aP g O;have:=h.lt1;omega)
    ·obtain rfl:e=ops.length:=by omega
     go_wp2_with fail;go_ret2;have W:=aw.out;rw [List.drop_length,zZ] at W;rw [←W];refine ⟨D,_,rfl,?_⟩;have:=ax.out;exact qk this (by omega)
end Go.Proofs.YtklofgfkaaoipaaGreatDoor

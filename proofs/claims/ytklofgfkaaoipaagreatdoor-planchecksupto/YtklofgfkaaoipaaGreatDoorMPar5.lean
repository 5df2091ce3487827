/-
  THE CONTRACTS of the parser's recursive methods, each a step: sum, prod.
-/
import Derived.Test.YtklofgfkaaoipaaGreatDoorMParsePlain
import Derived.Deep.LoopGhost
import Derived.OwnWalk
import Derived.Test.YtklofgfkaaoipaaGreatDoorMHd
set_option maxHeartbeats 16000000
set_option maxRecDepth 100000
set_option linter.unusedSimpArgs false
set_option linter.unusedVariables false
namespace Go.Proofs.YtklofgfkaaoipaaGreatDoor
open Go.RowKit Go.Proofs.Tryz
variable {B P f n:Nat}{T:List MTok}{h A D E v:Value}{s:PS}{F G I V J:List Value}{W H:World}{t:MTok}
theorem znF (ih:∀ao,ao≤f→GoC B P T h ao .prod 224):GoC B P T h (f+1) .sum 198:=by
 intro M aK _ _ aL aM aN ap aq ar;have au:yu T .prod M≤f:=by simp only [yu,Qm] at ar ⊢;omega
 have R:=Z ih;obtain ⟨aO,N⟩:∃k,pGo T f .prod M=k:=⟨_,rfl⟩;have O:=Adv.go T f .prod M;rw [N] at O;obtain ⟨x,S⟩:=aO;simp only at O;obtain ⟨Q,U⟩:∃Q,pGo T f (.sumL S) x=Q:=⟨_,rfl⟩;have av:pGo T (f+1) .sum M=Q:=by simp only [pGo,N];exact U
 rw [av];have aP:x.exprs.length≤x.pos:=by have:=O.exprs;omega
 have aQ:yu T (.sumL S) x≤f:=by have:=O.pos;simp only [yu,Qm] at ar ⊢;omega
 have aw:=Z ap;have ax:=Z N;have ay:=Z U;clear ap N U av ih;go_enter func198,ntmps198;go_wp2_with (go_at_call 224;refine (R f (Nat.le_refl _) aw aq au).mono ?_;rw [ax.out];rintro g _ ⟨rfl,az⟩;have aA:=Z az;clear az);go_loopg [3] f (fun aR aS wr=>∃(a:PS) (i t:Nat),aR=t∧aS= .int .i64 i∧t≤f∧yu T (.sumL i) a≤t∧a.exprs.length≤a.pos∧Hid (pGo T t (.sumL i) a=Q)∧Hid (zV B P T h aK aL aM a aN wr))
 case atStart=>exact ⟨x,S,f,rfl,rfl,Nat.le_refl _,aQ,aP,ay,aA⟩
 case round=>
  obtain ⟨a,i,t,_,rfl,_,y,_,w,aB⟩:=hrel;obtain ⟨b,rfl⟩:∃b,t=b+1:=⟨t-1,by simp only [yu,Qm] at y;omega⟩;obtain ⟨_,aC,_,_,aD⟩:=aB.out;have V:=Z aC;have l:=Z aD;have c:=w.out;simp only [pGo] at c;clear aC aD aB w aA ay ax aw au aq;rcases hi:pIs T a [43] with _ | _
  ·rcases hj:pIs T a [45] with _ | _
   ·rw [hi,hj,if_neg (by simp),if_neg (by simp)] at c
    subst c;have z:=Z hi;have w:=Z hj;clear hi hj;go_wp2_with (first | (go_at_call 153;refine (yp A _ [45] rfl).mono ?_;rw [w.out,if_neg (by simp)];rintro g aT ⟨rfl,aU,C,aV,aW,D⟩;have W:=Z (E.trans C);have X:=Z D;clear C D) | (go_at_call 153;refine (yp F _ [43] rfl).mono ?_;rw [z.out,if_neg (by simp)];rintro g aE ⟨rfl,aF,r,aG,aH,s⟩;have E:=Z (G.trans r);have A:=Z s;clear r s) | (go_at_call 100;refine (qS l).mono ?_;rintro g aI ⟨rfl,j⟩;have F:=Z (l.later j);have G:=Z (V.trans (PMod.below j l.blt));have aJ:=fun H=>yD (qA T a) H;clear j));go_ret;exact ⟨rfl,_,W,_,_,X⟩
   ·rw [hi,hj,if_neg (by simp),if_pos rfl] at c
    have Y:=(zD hj).1;obtain ⟨aa,u⟩:∃k,pGo T b .prod (qr a)=k:=⟨_,rfl⟩;have d:=Adv.go T b .prod (qr a);rw [u] at d c;obtain ⟨m,n⟩:=aa;simp only at d c;have o:=Adv.put ⟨5, [],0, [i,n],(qA T a).pos⟩ Y d;have ab:(qr a).exprs.length≤(qr a).pos:=by simp only [qr];omega
    have ac:m.exprs.length≤m.pos:=by have:=d.exprs;omega
    have ad:yu T .prod (qr a)≤b:=by simp only [yu,Qm,qr] at y ⊢;omega
    have I:b≤f:=by omega
    obtain ⟨ae,p⟩:∃k,Qo m ⟨5, [],0, [i,n],(qA T a).pos⟩=k:=⟨_,rfl⟩;rw [p] at o c;obtain ⟨e,J⟩:=ae;simp only at o c;have af:e.exprs.length≤e.pos:=by have:=o.exprs;omega
    have v:a.pos+1≤e.pos:=by
     have ag:=d.pos;have aX:e.pos=m.pos:=by have:=congrArg (fun ah=>ah.1.pos) p;simp only at this;rw [←this];unfold Qo;split<;>rfl
     simp only [qr] at ag;omega
    have ai:yu T (.sumL J) e≤b:=by simp only [yu,Qm] at y ⊢;omega
    have aj:=Z u;have ak:=Z p;have al:=Z c;have z:=Z hi;have w:=Z hj;clear hi hj c u p d o;go_wp2_with (first | (go_at_call 199;refine (Y5 (q.alloc (.cells #[.int .i64 i,.int .i64 n] 3)) ⟨5, [],0, [i,n],(qA T a).pos⟩ _ (za7 q.blt (heap_alloc_new _ _)) (q.el ac)).mono ?_;rw [ak.out];rintro g aY ⟨rfl,v⟩;have am:=Z ((an.fresh q.blt _ _ _).post v);clear v) | (go_at_call 224;refine (R b I X ab ad).mono ?_;rw [aj.out];rintro g aZ ⟨rfl,a0,K,a1,a2,L⟩;have an:=Z (W.trans K);have q:=Z L;clear K L) | (go_at_call 153;refine (yp A _ [45] rfl).mono ?_;rw [w.out,if_pos rfl];rintro g aT ⟨rfl,aU,C,aV,aW,D⟩;have W:=Z (E.trans C);have X:=Z D;clear C D) | (go_at_call 153;refine (yp F _ [43] rfl).mono ?_;rw [z.out,if_neg (by simp)];rintro g aE ⟨rfl,aF,r,aG,aH,s⟩;have E:=Z (G.trans r);have A:=Z s;clear r s) | (go_at_call 100;refine (qS l).mono ?_;rintro g aI ⟨rfl,j⟩;have F:=Z (l.later j);have G:=Z (V.trans (PMod.below j l.blt));have aJ:=fun H=>yD (qA T a) H;clear j));go_roundg b
    case measure=>omega
    case rel=>exact ⟨e,J,b,rfl,rfl,I,ai,af,al,am⟩
  ·rw [hi,if_pos rfl] at c
   have Y:=(zD hi).1;obtain ⟨aa,u⟩:∃k,pGo T b .prod (qr a)=k:=⟨_,rfl⟩;have d:=Adv.go T b .prod (qr a);rw [u] at d c;obtain ⟨m,n⟩:=aa;simp only at d c;have o:=Adv.put ⟨4, [],0, [i,n],(qA T a).pos⟩ Y d;have ab:(qr a).exprs.length≤(qr a).pos:=by simp only [qr];omega
   have ac:m.exprs.length≤m.pos:=by have:=d.exprs;omega
   have ad:yu T .prod (qr a)≤b:=by simp only [yu,Qm,qr] at y ⊢;omega
   have I:b≤f:=by omega
   obtain ⟨ae,p⟩:∃k,Qo m ⟨4, [],0, [i,n],(qA T a).pos⟩=k:=⟨_,rfl⟩;rw [p] at o c;obtain ⟨e,J⟩:=ae;simp only at o c;have af:e.exprs.length≤e.pos:=by have:=o.exprs;omega
   have v:a.pos+1≤e.pos:=by
    have ag:=d.pos;have aX:e.pos=m.pos:=by have:=congrArg (fun ah=>ah.1.pos) p;simp only at this;rw [←this];unfold Qo;split<;>rfl
    simp only [qr] at ag;omega
   have ai:yu T (.sumL J) e≤b:=by simp only [yu,Qm] at y ⊢;omega
   have aj:=Z u;have ak:=Z p;have al:=Z c;have z:=Z hi;clear hi c u p d o;go_wp2_with (first | (go_at_call 199;refine (Y5 (q.alloc (.cells #[.int .i64 i,.int .i64 n] 3)) ⟨4, [],0, [i,n],(qA T a).pos⟩ _ (za7 q.blt (heap_alloc_new _ _)) (q.el ac)).mono ?_;rw [ak.out];rintro g aY ⟨rfl,v⟩;have am:=Z ((an.fresh q.blt _ _ _).post v);clear v) | (go_at_call 224;refine (R b I A ab ad).mono ?_;rw [aj.out];rintro g aZ ⟨rfl,a0,K,a1,a2,L⟩;have an:=Z (E.trans K);have q:=Z L;clear K L) | (go_at_call 153;refine (yp F _ [43] rfl).mono ?_;rw [z.out,if_pos rfl];rintro g aE ⟨rfl,aF,r,aG,aH,s⟩;have E:=Z (G.trans r);have A:=Z s;clear r s) | (go_at_call 100;refine (qS l).mono ?_;rintro g aI ⟨rfl,j⟩;have F:=Z (l.later j);have G:=Z (V.trans (PMod.below j l.blt));have aJ:=fun H=>yD (qA T a) H;clear j));go_roundg b
   case measure=>omega
   case rel=>exact ⟨e,J,b,rfl,rfl,I,ai,af,al,am⟩
theorem zlI (ih:∀ao,ao≤f→GoC B P T h ao .sign 238):GoC B P T h (f+1) .prod 224:=by
 intro M aK _ _ aL aM aN ap aq ar;have au:yu T .sign M≤f:=by simp only [yu,Qm] at ar ⊢;omega
 have R:=Z ih;obtain ⟨aO,N⟩:∃k,pGo T f .sign M=k:=⟨_,rfl⟩;have O:=Adv.go T f .sign M;rw [N] at O;obtain ⟨x,S⟩:=aO;simp only at O;obtain ⟨Q,U⟩:∃Q,pGo T f (.prodL S) x=Q:=⟨_,rfl⟩;have av:pGo T (f+1) .prod M=Q:=by simp only [pGo,N];exact U
 rw [av];have aP:x.exprs.length≤x.pos:=by have:=O.exprs;omega
 have aQ:yu T (.prodL S) x≤f:=by have:=O.pos;simp only [yu,Qm] at ar ⊢;omega
 have aw:=Z ap;have ax:=Z N;have ay:=Z U;clear ap N U av ih;go_enter func224,ntmps224;go_wp2_with (go_at_call 238;refine (R f (Nat.le_refl _) aw aq au).mono ?_;rw [ax.out];rintro g _ ⟨rfl,az⟩;have aA:=Z az;clear az);go_loopg [3] f (fun aR aS wr=>∃(a:PS) (i t:Nat),aR=t∧aS= .int .i64 i∧t≤f∧yu T (.prodL i) a≤t∧a.exprs.length≤a.pos∧Hid (pGo T t (.prodL i) a=Q)∧Hid (zV B P T h aK aL aM a aN wr))
 case atStart=>exact ⟨x,S,f,rfl,rfl,Nat.le_refl _,aQ,aP,ay,aA⟩
 case round=>
  obtain ⟨a,i,t,_,rfl,_,y,_,w,aB⟩:=hrel;obtain ⟨b,rfl⟩:∃b,t=b+1:=⟨t-1,by simp only [yu,Qm] at y;omega⟩;obtain ⟨_,aC,_,_,aD⟩:=aB.out;have V:=Z aC;have l:=Z aD;have c:=w.out;simp only [pGo] at c;clear aC aD aB w aA ay ax aw au aq;rcases hi:pIs T a [42] with _ | _
  ·rcases hj:pIs T a [64] with _ | _
   ·rw [hi,hj,if_neg (by simp),if_neg (by simp)] at c
    subst c;have z:=Z hi;have w:=Z hj;clear hi hj;go_wp2_with (first | (go_at_call 153;refine (yp A _ [64] rfl).mono ?_;rw [w.out,if_neg (by simp)];rintro g aT ⟨rfl,aU,C,aV,aW,D⟩;have W:=Z (E.trans C);have X:=Z D;clear C D) | (go_at_call 153;refine (yp F _ [42] rfl).mono ?_;rw [z.out,if_neg (by simp)];rintro g aE ⟨rfl,aF,r,aG,aH,s⟩;have E:=Z (G.trans r);have A:=Z s;clear r s) | (go_at_call 100;refine (qS l).mono ?_;rintro g aI ⟨rfl,j⟩;have F:=Z (l.later j);have G:=Z (V.trans (PMod.below j l.blt));have aJ:=fun H=>yD (qA T a) H;clear j));go_ret;exact ⟨rfl,_,W,_,_,X⟩
   ·rw [hi,hj,if_neg (by simp),if_pos rfl] at c
    have Y:=(zD hj).1;obtain ⟨aa,u⟩:∃k,pGo T b .sign (qr a)=k:=⟨_,rfl⟩;have d:=Adv.go T b .sign (qr a);rw [u] at d c;obtain ⟨m,n⟩:=aa;simp only at d c;have o:=Adv.put ⟨7, [],0, [i,n],(qA T a).pos⟩ Y d;have ab:(qr a).exprs.length≤(qr a).pos:=by simp only [qr];omega
    have ac:m.exprs.length≤m.pos:=by have:=d.exprs;omega
    have ad:yu T .sign (qr a)≤b:=by simp only [yu,Qm,qr] at y ⊢;omega
    have I:b≤f:=by omega
    obtain ⟨ae,p⟩:∃k,Qo m ⟨7, [],0, [i,n],(qA T a).pos⟩=k:=⟨_,rfl⟩;rw [p] at o c;obtain ⟨e,J⟩:=ae;simp only at o c;have af:e.exprs.length≤e.pos:=by have:=o.exprs;omega
    have v:a.pos+1≤e.pos:=by
     have ag:=d.pos;have aX:e.pos=m.pos:=by have:=congrArg (fun ah=>ah.1.pos) p;simp only at this;rw [←this];unfold Qo;split<;>rfl
     simp only [qr] at ag;omega
    have ai:yu T (.prodL J) e≤b:=by simp only [yu,Qm] at y ⊢;omega
    have aj:=Z u;have ak:=Z p;have al:=Z c;have z:=Z hi;have w:=Z hj;clear hi hj c u p d o;go_wp2_with (first | (go_at_call 199;refine (Y5 (q.alloc (.cells #[.int .i64 i,.int .i64 n] 3)) ⟨7, [],0, [i,n],(qA T a).pos⟩ _ (za7 q.blt (heap_alloc_new _ _)) (q.el ac)).mono ?_;rw [ak.out];rintro g aY ⟨rfl,v⟩;have am:=Z ((an.fresh q.blt _ _ _).post v);clear v) | (go_at_call 238;refine (R b I X ab ad).mono ?_;rw [aj.out];rintro g aZ ⟨rfl,a0,K,a1,a2,L⟩;have an:=Z (W.trans K);have q:=Z L;clear K L) | (go_at_call 153;refine (yp A _ [64] rfl).mono ?_;rw [w.out,if_pos rfl];rintro g aT ⟨rfl,aU,C,aV,aW,D⟩;have W:=Z (E.trans C);have X:=Z D;clear C D) | (go_at_call 153;refine (yp F _ [42] rfl).mono ?_;rw [z.out,if_neg (by simp)];rintro g aE ⟨rfl,aF,r,aG,aH,s⟩;have E:=Z (G.trans r);have A:=Z s;clear r s) | (go_at_call 100;refine (qS l).mono ?_;rintro g aI ⟨rfl,j⟩;have F:=Z (l.later j);have G:=Z (V.trans (PMod.below j l.blt));have aJ:=fun H=>yD (qA T a) H;clear j));go_roundg b
    case measure=>omega
    case rel=>exact ⟨e,J,b,rfl,rfl,I,ai,af,al,am⟩
  ·rw [hi,if_pos rfl] at c
   have Y:=(zD hi).1;obtain ⟨aa,u⟩:∃k,pGo T b .sign (qr a)=k:=⟨_,rfl⟩;have d:=Adv.go T b .sign (qr a);rw [u] at d c;obtain ⟨m,n⟩:=aa;simp only at d c;have o:=Adv.put ⟨6, [],0, [i,n],(qA T a).pos⟩ Y d;have ab:(qr a).exprs.length≤(qr a).pos:=by simp only [qr];omega
   have ac:m.exprs.length≤m.pos:=by have:=d.exprs;omega
   have ad:yu T .sign (qr a)≤b:=by simp only [yu,Qm,qr] at y ⊢;omega
   have I:b≤f:=by omega
   obtain ⟨ae,p⟩:∃k,Qo m ⟨6, [],0, [i,n],(qA T a).pos⟩=k:=⟨_,rfl⟩;rw [p] at o c;obtain ⟨e,J⟩:=ae;simp only at o c;have af:e.exprs.length≤e.pos:=by have:=o.exprs;omega
   have v:a.pos+1≤e.pos:=by
    have ag:=d.pos;have aX:e.pos=m.pos:=by have:=congrArg (fun ah=>ah.1.pos) p;simp only at this;rw [←this];unfold Qo;split<;>rfl
    simp only [qr] at ag;omega
   have ai:yu T (.prodL J) e≤b:=by simp only [yu,Qm] at y ⊢;omega
   have aj:=Z u;have ak:=Z p;have al:=Z c;have z:=Z hi;clear hi c u p d o;go_wp2_with (first | (go_at_call 199;refine (Y5 (q.alloc (.cells #[.int .i64 i,.int .i64 n] 3)) ⟨6, [],0, [i,n],(qA T a).pos⟩ _ (za7 q.blt (heap_alloc_new _ _)) (q.el ac)).mono ?_;rw [ak.out];rintro g aY ⟨rfl,v⟩;have am:=Z ((an.fresh q.blt _ _ _).post v);clear v) | (go_at_call 238;refine (R b I A ab ad).mono ?_;rw [aj.out];rintro g aZ ⟨rfl,a0,K,a1,a2,L⟩;have an:=Z (E.trans K);have q:=Z L;clear K L) | (go_at_call 153;refine (yp F _ [42] rfl).mono ?_;rw [z.out,if_pos rfl];rintro g aE ⟨rfl,aF,r,aG,aH,s⟩;have E:=Z (G.trans r);have A:=Z s;clear r s) | (go_at_call 100;refine (qS l).mono ?_;rintro g aI ⟨rfl,j⟩;have F:=Z (l.later j);have G:=Z (V.trans (PMod.below j l.blt));have aJ:=fun H=>yD (qA T a) H;clear j));go_roundg b
   case measure=>omega
   case rel=>exact ⟨e,J,b,rfl,rfl,I,ai,af,al,am⟩
theorem zjP (a:List MTok)(s:PS):(ze a s).2≤1048576:=by
 unfold ze;split
 ·simp
 ·rename_i b;simp at b;simp only;omega
theorem PSt.up (a:PSt B P T h s A D E F G W)(c:1≤s.deep):
  PSt B P T h (pUp s) A D E F G (W.setCell ⟨P,4,none⟩ (.int .i64 ((s.deep:Int)-1))):=by
 have b:((s.deep:Int)-1)=((s.deep-1:Nat):Int):=by omega
 rw [b];exact a.setdeep (s.deep-1) (by have:=a.dl;omega)
theorem znk {g a:Nat}(b:B≤W.heap.size)(c:g=W.heap.size):(W.alloc (.cells #[.int .i64 a] 3)).ownsRow B 3 1 (.slice (some ⟨g,0,none⟩) 1 1) 1 (ints ([a].map Int.ofNat)):=by
 subst c;exact zkr b (heap_alloc_new _ _)
theorem zno (s:PS)(e:MExpr):(Qo s e).1.pos=s.pos:=by unfold Qo;split<;>rfl
theorem zlH (ih:∀K,K≤f→GoC B P T h K .atom 259):GoC B P T h (f+1) .post 246:=by
 intro r aj _ _ ak al am L M N;have O:yu T .atom r≤f:=by simp only [yu,Qm] at N ⊢;omega
 have Q:=Z ih;obtain ⟨an,s⟩:∃m,pGo T f .atom r=m:=⟨_,rfl⟩;have t:=Adv.go T f .atom r;rw [s] at t;obtain ⟨n,z⟩:=an;simp only at t;obtain ⟨u,A⟩:∃u,pGo T f (.postL z) n=u:=⟨_,rfl⟩;have R:pGo T (f+1) .post r=u:=by simp only [pGo,s];exact A
 rw [R];have ao:n.exprs.length≤n.pos:=by have:=t.exprs;omega
 have ap:yu T (.postL z) n≤f:=by have:=t.pos;simp only [yu,Qm] at N ⊢;omega
 have S:=Z L;have U:=Z s;have V:=Z A;clear L s A R ih;go_enter func246,ntmps246;go_wp2_with (go_at_call 259;refine (Q f (Nat.le_refl _) S M O).mono ?_;rw [U.out];rintro g _ ⟨rfl,W⟩;have X:=Z W;clear W);go_loopg [3] f (fun aq ar wr=>∃(a:PS) (c d:Nat),aq=d∧ar= .int .i64 c∧d≤f∧yu T (.postL c) a≤d∧a.exprs.length≤a.pos∧Hid (pGo T d (.postL c) a=u)∧Hid (zV B P T h aj ak al a am wr))
 case atStart=>exact ⟨n,z,f,rfl,rfl,Nat.le_refl _,ap,ao,V,X⟩
 case round=>
  obtain ⟨a,c,d,_,rfl,_,Y,_,aa,ab⟩:=hrel;obtain ⟨i,rfl⟩:∃i,d=i+1:=⟨d-1,by simp only [yu,Qm] at Y;omega⟩;obtain ⟨_,ac,_,_,ad⟩:=ab.out;have ae:=Z ac;have j:=Z ad;have b:=aa.out;simp only [pGo] at b;clear ac ad ab aa X V U S O M Q;rcases hi:pIs T a [62,62] with _ | _
  ·rw [hi,if_neg (by simp)] at b
   subst b;have C:=Z hi;clear hi;go_wp2_with (first | (go_at_call 153;refine (yp D _ [62,62] rfl).mono ?_;rw [C.out,if_neg (by simp)];rintro g au ⟨rfl,av,o,aw,ax,p⟩;have E:=Z (F.trans o);have G:=Z p;clear o p) | (go_at_call 100;refine (qS j).mono ?_;rintro g ay ⟨rfl,e⟩;have D:=Z (j.later e);have F:=Z (ae.trans (PMod.below e j.blt));have az:=fun H=>yD (qA T a) H;clear e));go_ret;exact ⟨rfl,_,E,_,_,G⟩
  ·rw [hi,if_pos rfl] at b
   have aA:=(zD hi).1;obtain ⟨aB,I⟩:∃m,ze T (qr a)=m:=⟨_,rfl⟩;have k:=Adv.number T (qr a);have af:=zjP T (qr a);rw [I] at k b af;obtain ⟨v,q⟩:=aB;simp only at k b af;have w:=Adv.put ⟨9, [],q, [c],(qA T a).pos⟩ aA k;have aC:v.exprs.length≤v.pos:=by have:=k.exprs;simp only [qr] at this;omega
   have aD:i≤f:=by omega
   have l:=zno v ⟨9, [],q, [c],(qA T a).pos⟩;obtain ⟨aE,J⟩:∃m,Qo v ⟨9, [],q, [c],(qA T a).pos⟩=m:=⟨_,rfl⟩;rw [J] at w b l;obtain ⟨x,ag⟩:=aE;simp only at w b l;have aF:x.exprs.length≤x.pos:=by have:=w.exprs;omega
   have aG:yu T (.postL ag) x≤i:=by have aH:=k.pos;simp only [yu,Qm,qr] at Y aH ⊢;omega
   have aI:=Z I;have aJ:=Z J;have aK:=Z b;have C:=Z hi;have aN:(q:Int)≤1048576:=by omega
   clear hi b I J k w l;go_wp2_with (first | (go_at_call 199;refine (Y5 (y.alloc (.cells #[.int .i64 c] 3)) ⟨9, [],q, [c],(qA T a).pos⟩ _ (zkr y.blt (heap_alloc_new _ _)) (y.el aC)).mono ?_;rw [aJ.out];rintro g _ ⟨rfl,l⟩;have aL:=Z ((aM.fresh y.blt _ _ _).post l);clear l) | (go_at_call 154;refine (Z0 G).mono ?_;rw [aI.out];rintro g _ ⟨rfl,_,ah,_,_,ai⟩;have aM:=Z (E.trans ah);have y:=Z ai;clear ah ai) | (go_at_call 153;refine (yp D _ [62,62] rfl).mono ?_;rw [C.out,if_pos rfl];rintro g au ⟨rfl,av,o,aw,ax,p⟩;have E:=Z (F.trans o);have G:=Z p;clear o p) | (go_at_call 100;refine (qS j).mono ?_;rintro g ay ⟨rfl,e⟩;have D:=Z (j.later e);have F:=Z (ae.trans (PMod.below e j.blt));have az:=fun H=>yD (qA T a) H;clear e));go_roundg i
   case measure=>omega
   case rel=>exact ⟨x,ag,i,rfl,rfl,aD,aG,aF,aK,aL⟩
theorem zlW (ih:GoC B P T h f .post 246)(S:GoC B P T h f .sign 238):GoC B P T h (f+1) .sign 238:=by
 intro a _ _ _ _ U W k X H;have g:=Z k;have z:=Z (PMod.refl (V:=U) B W);have l:pGo T (f+1) .sign a=if pIs T a [45] then (if a.deep=32 then (zR a 5,0) else Qo (pUp (pGo T f .sign (qr (zN a))).1) ⟨3, [],0, [(pGo T f .sign (qr (zN a))).2],(qA T a).pos⟩) else pGo T f .post a:=by simp only [pGo]
 rcases hi:pIs T a [45] with _ | _
 ·have Y:yu T .post a≤f:=by simp only [yu,Qm] at H ⊢;omega
  rw [l,hi,if_neg (by simp)];obtain ⟨_,A⟩:∃m,pGo T f .post a=m:=⟨_,rfl⟩;have aa:=Z A;have w:=Z hi;rw [A];have ap:=k.blt;clear k hi A l;go_enter func238,ntmps238;go_wp2_with (first | (go_at_call 246;refine (ih n X Y).mono ?_;rw [aa.out];rintro e I ⟨rfl,o⟩;have C:=Z (p.post o);clear o) | (go_at_call 197;refine (Y4 b _ [45] rfl).mono ?_;rw [w.out];rintro e J ⟨rfl,c⟩;have n:=Z (b.later c);have p:=Z (q.trans (PMod.below c b.blt));clear c) | (go_at_call 100;refine (qS g).mono ?_;rintro e K ⟨rfl,d⟩;have b:=Z (g.later d);have q:=Z (z.trans (PMod.below d g.blt));have L:=fun r=>yD (qA T a) r;clear d));go_ret;exact ⟨rfl,C⟩
 ·have ab:=(zD hi).1
  have w:=Z hi
  by_cases i:a.deep=32
  ·rw [l,hi,if_pos rfl,if_pos i]
   have s:(a.deep != 32)=false:=by simp [i]
   have D:=Z s;have E:=Z i;clear k hi l i s;go_enter func238,ntmps238;go_wp2_with (first | (go_at_call 247;refine (zam n).mono ?_;rw [D.out,if_pos E.out];rintro e I ⟨rfl,o⟩;have C:=Z (p.post o);clear o) | (go_at_call 197;refine (Y4 b _ [45] rfl).mono ?_;rw [w.out];rintro e J ⟨rfl,c⟩;have n:=Z (b.later c);have p:=Z (q.trans (PMod.below c b.blt));clear c) | (go_at_call 100;refine (qS g).mono ?_;rintro e K ⟨rfl,d⟩;have b:=Z (g.later d);have q:=Z (z.trans (PMod.below d g.blt));have L:=fun r=>yD (qA T a) r;clear d));go_ret;exact ⟨rfl,C⟩
  ·obtain ⟨ac,x⟩:∃m,pGo T f .sign (qr (zN a))=m:=⟨_,rfl⟩
   have t:=Adv.go T f .sign (qr (zN a));rw [l,hi,if_pos rfl,if_neg i,x];rw [x] at t;obtain ⟨j,F⟩:=ac;simp only at t ⊢;have s:(a.deep != 32)=true:=by simp [i]
   have D:=Z s;have E:=Z i;have aq:=k.tl;have ar:=k.dl;have au:(a.pos:Int)<513:=by omega
   have ad:(qr (zN a)).exprs.length≤(qr (zN a)).pos:=by simp only [qr,zN];omega
   have ae:yu T .sign (qr (zN a))≤f:=by simp only [yu,Qm,qr,zN] at H ⊢;omega
   have af:(pUp j).exprs.length≤(pUp j).pos:=by have:=t.exprs;simp only [qr,zN,pUp] at this ⊢;omega
   have ag:j.deep=a.deep+1:=t.deep;have ah:1≤j.deep:=by omega
   have av:(1:Int)≤(j.deep:Int):=by omega
   have aw:(j.deep:Int)≤33:=by omega
   obtain ⟨_,G⟩:∃m,Qo (pUp j) ⟨3, [],0, [F],(qA T a).pos⟩=m:=⟨_,rfl⟩;rw [G];have ai:=Z x;have aj:=Z G;clear k hi l i s x G t ag;go_enter func238,ntmps238;go_wp2_with (first | (go_at_call 238;refine (S ak ad ae).mono ?_;rw [ai.out];rintro e M ⟨rfl,_,N,_,_,u⟩;have k4:=u.cells.1.2.2.2.2.1;have ax:=u.cells.2 4;have y:=Z (u.up ah);have O:=Z ((al.trans N).trans (PMod.set u 4 (.int .i64 ((j.deep:Int)-1))));clear N u) | (go_at_call 247;refine (zam n).mono ?_;rw [D.out,if_neg E.out];rintro e I ⟨rfl,_,Q,_,_,v⟩;have k1:=v.cells.1.2.1;simp only [zN] at k1;have ay:=v.cells.2 1;have al:=Z ((p.trans Q).trans (PMod.set v 1 (.int .i64 ((a.pos:Int)+1))));have ak:=Z (v.setpos ab);clear Q v) | (go_at_call 197;refine (Y4 b _ [45] rfl).mono ?_;rw [w.out];rintro e J ⟨rfl,c⟩;have n:=Z (b.later c);have p:=Z (q.trans (PMod.below c b.blt));clear c) | (go_at_call 100;refine (qS g).mono ?_;rintro e K ⟨rfl,d⟩;have b:=Z (g.later d);have q:=Z (z.trans (PMod.below d g.blt));have L:=fun r=>yD (qA T a) r;clear d) | (go_at_call 199;refine (Y5 (y.alloc (.cells #[.int .i64 F] 3)) ⟨3, [],0, [F],(qA T a).pos⟩ (.slice (some ⟨M.heap.size,0,none⟩) 1 1) (znk (g:=M.heap.size) y.blt (by simp)) (y.el af)).mono ?_;rw [aj.out];rintro e _ ⟨rfl,R⟩;have am:=Z ((((O).alloc y.blt _).cons _ (by intro _ an;have ao:=O.low.size;simp [Value.ownBlock] at an ao;omega)).post R);clear R));go_ret;exact ⟨rfl,am⟩
def Yo (v:Value)(b:List Value):Prop:=∀a∈b,a.ownBlock=none∨a.ownBlock≠v.ownBlock
theorem qj.apart (b:W.grownBy H v.ownBlock):∀{a:List Value} {c:List (List Int)},Yo v a→qj B W a c→qj B H a c
 |[], [],_,_=>trivial
 |f::_,_::_,d,e=>⟨e.1.kept b (d f (by simp)),qj.apart b (fun g h=>d g (by simp [h])) e.2⟩
theorem qj.lts :∀{d:List Value} {e:List (List Int)},qj B W d e→∀b∈d,∀c,b.ownBlock=some c→c<W.heap.size
 |[], [],_,b,a=>by cases a
 |h::d,i::e,f,b,a=>by
  rcases List.mem_cons.1 a with rfl | a
  ·exact fun c g=>(f.1.lt c g).2
  ·exact qj.lts f.2 b a
theorem Yo.old (c:∀b∈I,∀a,b.ownBlock=some a→a<n)(d:∀a,v.ownBlock=some a→n≤a):Yo v I:=by
 intro b e;rcases hb:b.ownBlock with _ | a
 ·exact .inl rfl
 ·refine .inr fun f=> ?_
  have:=c b e a hb;have:=d a f.symm;omega
theorem Yo.step (d:Yo v V)(e:PMod B V J W H)(f:∀a,v.ownBlock=some a→a<W.heap.size):Yo v J:=by
 intro b g;rcases e.new b g with c | c
 ·exact d b c
 ·rcases hb:b.ownBlock with _ | a
  ·exact .inl rfl
  ·refine .inr fun h=> ?_
   have:=c a hb;have:=f a h.symm;omega
theorem PSt.app (a:PSt B P T h s A D E F G W){b:Nat}{o:List Value}(d:W.ownsRow b 3 1 v n o)(C:B≤b)(c:W.grownBy H v.ownBlock)
  (p:Yo v F) (q:Yo v G):PSt B P T h s A D E F G H:=by
 have m:∀(f:Nat) (j:Array Value) (g:TypeId) (k:Nat×Nat),W.heap[f]? =some (Obj.cells j g k)→g≠3→H.heap[f]? =some (Obj.cells j g k):=fun f j g k l r=>
  (c.block f (qd l) fun e=>yz d l r e.symm).trans l
 refine ⟨m _ _ _ _ a.blk (by decide),qp a.toks c (Off.owned d (by decide)),qp a.stm c (Off.owned d (by decide)),qp a.exp c (Off.owned d (by decide)),a.sn.apart c p,a.en.apart c q,?_,a.le,a.tl,a.pl,a.tb,a.dl,a.b0,?_⟩
 ·have i:=a.err
  unfold zdW at i ⊢
  split at i
  ·exact i
  ·rename_i I J
   obtain ⟨t,u,w,e,x,_,y,z⟩:=i;exact ⟨t,u,w,e,x,by have:=c.size;omega,m _ _ _ _ y (by decide),z⟩
 ·unfold yC
  rw [←a.eT];refine World.cell?_of_block (c.block 0 (by have:=a.blt;have:=a.b0;omega) fun e=> ?_);have:=(d.lt 0 e.symm).1;have:=a.b0;omega
theorem PMod.app {d e:World}(a:PMod B V J W d){f:Option Nat}(g:d.grownBy e f)(r:B≤W.heap.size)(h:∀b,f=some b→W.heap.size≤b):PMod B V J W e:=by
 refine ⟨a.low.grown g (by have:=a.low.size;omega) (fun b k=>by have:=h b k;omega),fun c l m n i o p=> ?_,a.new⟩;have j:=a.ty c l m n i o p;exact (g.block c (qd j) fun q=>by have:=h c q.symm;have:=qd i;omega).trans j
theorem zK {a:Nat}(b:W.heap[a]? =some (QV t)):W.cell? ⟨a,0,none⟩=some (.int .i64 t.kind)∧W.cell? ⟨a,1,none⟩=some (.string (qx t.text))∧W.cell? ⟨a,2,none⟩=some (.int .u64 t.num)∧W.cell? ⟨a,3,none⟩=some (.int .i64 t.pos):=by
 refine ⟨?_,?_,?_,?_⟩<;>simp [World.cell?,b]
theorem zmj (b:PSt B P T h s A D E F G W)(l:s.err≠none):
  Calls prog 259 #[.pointer (some ⟨P,0,none⟩)] W (zbQ B P T h A F G s (.int .i64 0) W):=by
 obtain ⟨a,i⟩:∃a,qA T s=a:=⟨_,rfl⟩;have p:=Z i;have q:=Z (show ∀j∈a.text,j<256 by rw [←i];exact b.bytes);have d:=Z b;have:=b.lt;have:=b.tl;obtain ⟨⟨_,_⟩,m⟩:∃j,zY a=j:=⟨_,rfl⟩;have r:=Z m;rcases b.errs with ⟨k,-⟩ | ⟨_,_,_,k,rfl⟩
 ·exact absurd k l
 clear b i m l k;go_enter func259,ntmps259;go_wp2_with (first | (go_at_call 274;refine (Y7 a q _).mono ?_;rw [r.out];rintro t _ ⟨rfl,e⟩;have f:=((e.block n.heap.size (by rw [World.size_alloc];omega)).trans (heap_alloc_new n (QV a)));have:=Z f;have:=qd f;obtain ⟨_,_,_,_⟩:=zK f;have g:=Z (u.later e);have v:=Z (o.trans (e.mono o.size));have:=g.lt;have k5:=g.cells.1.2.2.2.2.2;have:=g.cells.1.2.1;have:=g.cells.2 1;clear e f) | (go_at_call 100;refine (qS d).mono ?_;rw [p.out];rintro t n ⟨rfl,c⟩;have u:=Z ((d.later c).alloc (QV a));have o:=Z (c.alloc c.size (QV a));have:=(d.later c).lt;clear c));go_ret;exact ⟨rfl,zV.same d v⟩
theorem zmk (c:PSt B P T h s A D E F G W)(K:s.exprs.length≤s.pos)(l:s.err=none)(b:(qA T s).kind=2):
  Calls prog 259 #[.pointer (some ⟨P,0,none⟩)] W (zbQ B P T h A F G (Qo (qr s) ⟨1, [],(qA T s).num, [],(qA T s).pos⟩).1 (.int .i64 (Qo (qr s) ⟨1, [],(qA T s).num, [],(qA T s).pos⟩).2) W):=by
 obtain ⟨a,f⟩:∃a,qA T s=a:=⟨_,rfl⟩;have t:=Z f;have u:=Z (show ∀j∈a.text,j<256 by rw [←f];exact c.bytes);have g:=Z c;have:=c.lt;have:=c.tl;have v:s.pos<T.length:=Zi (by omega);rw [f] at b ⊢;obtain ⟨⟨_,_⟩,m⟩:∃j,zY a=j:=⟨_,rfl⟩;have w:=Z m;rcases c.errs with ⟨-,rfl⟩ | ⟨_,_,_,n,-⟩
 rotate_left
 ·rw [l] at n;cases n
 have:((a.kind:Int)==2)=true:=by simp [b]
 have:(s.pos:Int)<513:=by omega
 have x:(qr s).exprs.length≤1000:=by simp only [qr];omega
 obtain ⟨_,k⟩:∃y,Qo (qr s) ⟨1, [],a.num, [],a.pos⟩=y:=⟨_,rfl⟩;rw [k];have z:=Z k;clear c f m k l b;go_enter func259,ntmps259;go_wp2_with (first | (go_at_call 199;refine (Y5 (d.setpos v) ⟨1, [],a.num, [],a.pos⟩ (.slice none 0 0) (World.ownsRow_nil _ _ _ _) x).mono ?_;rw [z.out];rintro o _ ⟨rfl,p⟩;have C:=Z ((((PMod.below H g.blt).trans (PMod.set d 1 (.int .i64 ((s.pos:Int)+1)))).cons _ (by intro _ I;simp [Value.ownBlock] at I)).post p);clear p) | (go_at_call 274;refine (Y7 a u _).mono ?_;rw [w.out];rintro o _ ⟨rfl,i⟩;have b:=((i.block q.heap.size (by rw [World.size_alloc];omega)).trans (heap_alloc_new q (QV a)));have:=Z b;have:=qd b;obtain ⟨_,_,_,_⟩:=zK b;have d:=Z (J.later i);have H:=Z (r.trans (i.mono r.size));have:=d.lt;have k5:=d.cells.1.2.2.2.2.2;have:=d.cells.1.2.1;have:=d.cells.2 1;clear i b) | (go_at_call 100;refine (qS g).mono ?_;rw [t.out];rintro o q ⟨rfl,e⟩;have J:=Z ((g.later e).alloc (QV a));have r:=Z (e.alloc e.size (QV a));have:=(g.later e).lt;clear e));go_ret;exact ⟨rfl,C⟩
theorem zkI (c:PSt B P T h s A D E F G W)(K:s.exprs.length≤s.pos)(l:s.err=none)(b:(qA T s).kind=1):
  Calls prog 259 #[.pointer (some ⟨P,0,none⟩)] W (zbQ B P T h A F G (Qo (qr s) ⟨2,(qA T s).text,0, [],(qA T s).pos⟩).1 (.int .i64 (Qo (qr s) ⟨2,(qA T s).text,0, [],(qA T s).pos⟩).2) W):=by
 obtain ⟨a,f⟩:∃a,qA T s=a:=⟨_,rfl⟩;have t:=Z f;have u:=Z (show ∀j∈a.text,j<256 by rw [←f];exact c.bytes);have g:=Z c;have:=c.lt;have:=c.tl;have v:s.pos<T.length:=Zi (by omega);rw [f] at b ⊢;obtain ⟨⟨_,_⟩,m⟩:∃j,zY a=j:=⟨_,rfl⟩;have w:=Z m;rcases c.errs with ⟨-,rfl⟩ | ⟨_,_,_,n,-⟩
 rotate_left
 ·rw [l] at n;cases n
 have:((a.kind:Int)==2)=false:=by simp;omega
 have:((a.kind:Int)==1)=true:=by simp [b]
 have:(s.pos:Int)<513:=by omega
 have x:(qr s).exprs.length≤1000:=by simp only [qr];omega
 obtain ⟨_,k⟩:∃y,Qo (qr s) ⟨2,a.text,0, [],a.pos⟩=y:=⟨_,rfl⟩;rw [k];have z:=Z k;clear c f m k l b;go_enter func259,ntmps259;go_wp2_with (first | (go_at_call 199;refine (Y5 (d.setpos v) ⟨2,a.text,0, [],a.pos⟩ (.slice none 0 0) (World.ownsRow_nil _ _ _ _) x).mono ?_;rw [z.out];rintro o _ ⟨rfl,p⟩;have C:=Z ((((PMod.below H g.blt).trans (PMod.set d 1 (.int .i64 ((s.pos:Int)+1)))).cons _ (by intro _ I;simp [Value.ownBlock] at I)).post p);clear p) | (go_at_call 274;refine (Y7 a u _).mono ?_;rw [w.out];rintro o _ ⟨rfl,i⟩;have b:=((i.block q.heap.size (by rw [World.size_alloc];omega)).trans (heap_alloc_new q (QV a)));have:=Z b;have:=qd b;obtain ⟨_,_,_,_⟩:=zK b;have d:=Z (J.later i);have H:=Z (r.trans (i.mono r.size));have:=d.lt;have k5:=d.cells.1.2.2.2.2.2;have:=d.cells.1.2.1;have:=d.cells.2 1;clear i b) | (go_at_call 100;refine (qS g).mono ?_;rw [t.out];rintro o q ⟨rfl,e⟩;have J:=Z ((g.later e).alloc (QV a));have r:=Z (e.alloc e.size (QV a));have:=(g.later e).lt;clear e));go_ret;exact ⟨rfl,C⟩
theorem zkJ (b:PSt B P T h s A D E F G W)(q:s.err=none)(r:(qA T s).kind≠2)(t:(qA T s).kind≠1)(u:pIs T s [40]=false)(e:(zY (qA T s)).2=0):
  Calls prog 259 #[.pointer (some ⟨P,0,none⟩)] W (zbQ B P T h A F G (zR s 130) (.int .i64 0) W):=by
 obtain ⟨a,f⟩:∃a,qA T s=a:=⟨_,rfl⟩;have z:=Z f;have C:=Z (show ∀l∈a.text,l<256 by rw [←f];exact b.bytes);have g:=Z b;have:=b.lt;have:=b.tl;obtain ⟨⟨_,_⟩,m⟩:∃l,zY a=l:=⟨_,rfl⟩;have H:=Z m;rcases b.errs with ⟨-,rfl⟩ | ⟨_,_,_,v,-⟩
 rotate_left
 ·rw [q] at v;cases v
 rw [f] at r t e;rw [m] at e;simp only at e;have:((a.kind:Int)==2)=false:=by simp;omega
 have:((a.kind:Int)==1)=false:=by simp;omega
 have I:=Z u;subst e;clear b f m q t r u;go_enter func259,ntmps259;go_wp2_with (first | (go_at_call 152;refine (Yg J _).mono ?_;rintro n _ ⟨rfl,w⟩;have K:=Z (zV.pre L g.blt w);clear w) | (go_at_call 197;refine (Y4 c _ [40] rfl).mono ?_;rw [I.out];rintro n _ ⟨rfl,i⟩;have J:=Z (c.later i);have L:=Z (x.trans (i.mono x.size));have o:=(i.block p.heap.size M).trans N;have:=Z o;obtain ⟨u0,u1,u2,u3⟩:=zK o;clear i o) | (go_at_call 274;refine (Y7 a C _).mono ?_;rw [H.out];rintro n _ ⟨rfl,j⟩;have k:=((j.block p.heap.size (by rw [World.size_alloc];omega)).trans (heap_alloc_new p (QV a)));have N:=Z k;have M:=qd k;obtain ⟨_,_,_,_⟩:=zK k;have c:=Z (O.later j);have x:=Z (y.trans (j.mono y.size));have:=c.lt;have k5:=c.cells.1.2.2.2.2.2;have:=c.cells.1.2.1;have:=c.cells.2 1;clear j k) | (go_at_call 100;refine (qS g).mono ?_;rw [z.out];rintro n p ⟨rfl,d⟩;have O:=Z ((g.later d).alloc (QV a));have y:=Z (d.alloc d.size (QV a));have:=(g.later d).lt;clear d));go_ret;exact ⟨rfl,K⟩
theorem zkH (j:PSt B P T h s A D E F G W)(v:s.err=none)(w:(qA T s).kind≠2)(x:(qA T s).kind≠1)(b:Bool)(y:pIs T s [40]=b)(n:b=true∨(zY (qA T s)).2≠0)(t:s.deep=32):
  Calls prog 259 #[.pointer (some ⟨P,0,none⟩)] W (zbQ B P T h A F G (zR s 5) (.int .i64 0) W):=by
 obtain ⟨a,o⟩:∃a,qA T s=a:=⟨_,rfl⟩;have M:=Z o;have N:=Z (show ∀z∈a.text,z<256 by rw [←o];exact j.bytes);have i:=Z j;have:=j.lt;have:=j.tl;obtain ⟨⟨_,V⟩,u⟩:∃z,zY a=z:=⟨_,rfl⟩;have O:=Z u;rcases j.errs with ⟨-,rfl⟩ | ⟨_,_,_,Q,-⟩
 rotate_left
 ·rw [v] at Q;cases Q
 rw [o] at w x n;rw [u] at n;simp only at n;have:((a.kind:Int)==2)=false:=by simp;omega
 have:((a.kind:Int)==1)=false:=by simp;omega
 have R:=Z y;have S:=Z (show (s.deep != 32)=false by simp [t]);have U:=Z t;rcases b with _ | _
 ·have:((V:Int)==0)=false:=by simp at n ⊢;omega
  clear j o u v x w y t n;go_enter func259,ntmps259;go_wp2_with (first | (go_at_call 247;refine (zam C).mono ?_;rw [S.out,if_pos U.out];rintro k X ⟨rfl,p⟩;have H:=Z (zV.pre I i.blt p);clear p) | (go_at_call 197;refine (Y4 c _ [40] rfl).mono ?_;rw [R.out];rintro k Y ⟨rfl,e⟩;have C:=Z (c.later e);have I:=Z (q.trans (e.mono q.size));have l:=(e.block m.heap.size J).trans K;have aa:=Z l;obtain ⟨u0,u1,u2,u3⟩:=zK l;clear e l) | (go_at_call 274;refine (Y7 a N _).mono ?_;rw [O.out];rintro k ab ⟨rfl,f⟩;have g:=((f.block m.heap.size (by rw [World.size_alloc];omega)).trans (heap_alloc_new m (QV a)));have K:=Z g;have J:=qd g;obtain ⟨ac,ad,ae,af⟩:=zK g;have c:=Z (L.later f);have q:=Z (r.trans (f.mono r.size));have ag:=c.lt;have k5:=c.cells.1.2.2.2.2.2;have ah:=c.cells.1.2.1;have ai:=c.cells.2 1;clear f g) | (go_at_call 100;refine (qS i).mono ?_;rw [M.out];rintro k m ⟨rfl,d⟩;have L:=Z ((i.later d).alloc (QV a));have r:=Z (d.alloc d.size (QV a));have aj:=(i.later d).lt;clear d));go_ret;exact ⟨rfl,H⟩
 ·clear j o u v x w y t n
  go_enter func259,ntmps259;go_wp2_with (first | (go_at_call 247;refine (zam C).mono ?_;rw [S.out,if_pos U.out];rintro k X ⟨rfl,p⟩;have H:=Z (zV.pre I i.blt p);clear p) | (go_at_call 197;refine (Y4 c _ [40] rfl).mono ?_;rw [R.out];rintro k Y ⟨rfl,e⟩;have C:=Z (c.later e);have I:=Z (q.trans (e.mono q.size));have l:=(e.block m.heap.size J).trans K;have aa:=Z l;obtain ⟨u0,u1,u2,u3⟩:=zK l;clear e l) | (go_at_call 274;refine (Y7 a N _).mono ?_;rw [O.out];rintro k ab ⟨rfl,f⟩;have g:=((f.block m.heap.size (by rw [World.size_alloc];omega)).trans (heap_alloc_new m (QV a)));have K:=Z g;have J:=qd g;obtain ⟨ac,ad,ae,af⟩:=zK g;have c:=Z (L.later f);have q:=Z (r.trans (f.mono r.size));have ag:=c.lt;have k5:=c.cells.1.2.2.2.2.2;have ah:=c.cells.1.2.1;have ai:=c.cells.2 1;clear f g) | (go_at_call 100;refine (qS i).mono ?_;rw [M.out];rintro k m ⟨rfl,d⟩;have L:=Z ((i.later d).alloc (QV a));have r:=Z (d.alloc d.size (QV a));have aj:=(i.later d).lt;clear d));go_ret;exact ⟨rfl,H⟩
theorem zn3 (b:PSt B P T h s A D E F G W)(ih:GoC B P T h f .expr 158)(aC:s.exprs.length≤s.pos)(U:yu T .atom s≤f+1)(I:s.err=none)(J:(qA T s).kind≠2)(K:(qA T s).kind≠1)(r:pIs T s [40]=true)(k:(zY (qA T s)).2=0)(t:s.deep≠32):
  Calls prog 259 #[.pointer (some ⟨P,0,none⟩)] W (zbQ B P T h A F G (pUp (zv T (pGo T f .expr (qr (zN s))).1 [41])) (.int .i64 (pGo T f .expr (qr (zN s))).2) W):=by
 obtain ⟨a,l⟩:∃a,qA T s=a:=⟨_,rfl⟩;have V:=Z l;have X:=Z (show ∀u∈a.text,u<256 by rw [←l];exact b.bytes);have m:=Z b;have:=b.lt;have:=b.tl;obtain ⟨⟨_,_⟩,v⟩:∃u,zY a=u:=⟨_,rfl⟩;have Y:=Z v;rcases b.errs with ⟨-,rfl⟩ | ⟨_,_,_,L,-⟩
 rotate_left
 ·rw [I] at L;cases L
 rw [l] at J K k;rw [v] at k;simp only at k;have:((a.kind:Int)==2)=false:=by simp;omega
 have:((a.kind:Int)==1)=false:=by simp;omega
 have aa:=Z r;subst k;have ab:=(zD r).1;have ac:=Z (show (s.deep != 32)=true by simp [t]);have ad:=Z t;have ae:=b.dl;have:(s.pos:Int)<513:=by omega
 have af:(qr (zN s)).exprs.length≤(qr (zN s)).pos:=by simp only [qr,zN];omega
 have ag:yu T .expr (qr (zN s))≤f:=by simp only [yu,Qm,qr,zN] at U ⊢;omega
 have n:=Adv.go T f .expr (qr (zN s));obtain ⟨ah,w⟩:∃ai,pGo T f .expr (qr (zN s))=ai:=⟨_,rfl⟩;rw [w] at n ⊢;obtain ⟨M,_⟩:=ah;simp only at n ⊢;have x:=n.trans (Adv.want T M [41]);obtain ⟨c,y⟩:∃c,zv T M [41]=c:=⟨_,rfl⟩;rw [y] at x ⊢;have aj:c.deep=s.deep+1:=x.deep;have ak:1≤c.deep:=by omega
 have:(1:Int)≤(c.deep:Int):=by omega
 have:(c.deep:Int)≤33:=by omega
 have al:=Z w;have am:=Z y;clear b l v I K J r t w y n x aj ae;go_enter func259,ntmps259;go_wp2_with (first | (go_at_call 157;refine (Qp an _ [41] rfl).mono ?_;rw [am.out];rintro g _ ⟨rfl,_,N,_,_,i⟩;have k4:=i.cells.1.2.2.2.2.1;have:=i.cells.2 4;have ao:=Z (i.up ak);have ap:=Z ((aq.trans N).trans (PMod.set i 4 (.int .i64 ((c.deep:Int)-1))));clear N i) | (go_at_call 158;refine (ih ar af ag).mono ?_;rw [al.out];rintro g _ ⟨rfl,_,O,_,_,Q⟩;have aq:=Z (au.trans O);have an:=Z Q;clear O Q) | (go_at_call 247;refine (zam av).mono ?_;rw [ac.out,if_neg ad.out];rintro g _ ⟨rfl,_,z,_,_,d⟩;have aw:=d.cells.1.2.1;simp only [zN] at aw;have:=d.cells.2 1;have au:=Z ((PMod.pre ax m.blt z).trans (PMod.set d 1 (.int .i64 ((s.pos:Int)+1))));have:=Z ((z.trans (PMod.set d 1 (.int .i64 ((s.pos:Int)+1)))).ty _ _ _ _ ay (by decide) (by decide));have ar:=Z (d.setpos ab);clear z d) | (go_at_call 197;refine (Y4 e _ [40] rfl).mono ?_;rw [aa.out];rintro g _ ⟨rfl,o⟩;have av:=Z (e.later o);have ax:=Z (R.trans (o.mono R.size));have C:=(o.block H.heap.size az).trans aA;have ay:=Z C;obtain ⟨u0,u1,u2,u3⟩:=zK C;clear o C) | (go_at_call 274;refine (Y7 a X _).mono ?_;rw [Y.out];rintro g _ ⟨rfl,p⟩;have q:=((p.block H.heap.size (by rw [World.size_alloc];omega)).trans (heap_alloc_new H (QV a)));have aA:=Z q;have az:=qd q;obtain ⟨_,_,_,_⟩:=zK q;have e:=Z (aB.later p);have R:=Z (S.trans (p.mono S.size));have:=e.lt;have k5:=e.cells.1.2.2.2.2.2;have:=e.cells.1.2.1;have:=e.cells.2 1;clear p q) | (go_at_call 100;refine (qS m).mono ?_;rw [V.out];rintro g H ⟨rfl,j⟩;have aB:=Z ((m.later j).alloc (QV a));have S:=Z (j.alloc j.size (QV a));have:=(m.later j).lt;clear j));go_ret;exact ⟨rfl,_,ap,_,_,ao⟩
theorem zjO (b:(zY t).2≠0):t.kind=4:=by
 rcases Nat.decEq t.kind 4 with a | a
 ·exfalso;apply b;unfold zY;rw [if_pos a]
 ·exact a
theorem znm (t:MTok):(zY t).2≤3:=by
 unfold zY
 repeat' split
 all_goals simp
theorem Yo.grow {v':Value}(f:Yo v I)(g:∀a∈I,∀b,a.ownBlock=some b→b<n)(h:v'.ownBlock=v.ownBlock∨v'.ownBlock=some (n+1)):Yo v' I:=by
 rcases h with c | c
 ·intro a d;rw [c];exact f a d
 ·intro a d
  rcases hb:a.ownBlock with _ | b
  ·exact .inl rfl
  ·refine .inr fun e=> ?_
   have:=g a d b hb;rw [c] at e;simp at e;omega
theorem Yo.nil (a:List Value):Yo (.slice none 0 0) a:=by
 intro b _;rcases hb:b.ownBlock with _ | c
 ·exact .inl rfl
 ·exact .inr (by simp [Value.ownBlock])
theorem zkG (r:PSt B P T h s A D E F G W)(ih:GoC B P T h f .expr 158)(ca:s.exprs.length≤s.pos)(aX:yu T .atom s≤f+1)(aY:s.err=none)(aZ:(qA T s).kind≠2)(a0:(qA T s).kind≠1)(ag:(zY (qA T s)).2≠0)(ao:s.deep≠32)(J:PS×List Nat)(K:zeT (pGo T f .expr) T (zY (qA T s)).2 true (zv T (qr (zN s)) [40]) []=J):
  Calls prog 259 #[.pointer (some ⟨P,0,none⟩)] W (zbQ B P T h A F G (Qo (pUp (zv T J.1 [41])) ⟨(zY (qA T s)).1, [],0,J.2,(qA T s).pos⟩).1 (.int .i64 (Qo (pUp (zv T J.1 [41])) ⟨(zY (qA T s)).1, [],0,J.2,(qA T s).pos⟩).2) W):=by
 obtain ⟨i,ah⟩:∃i,qA T s=i:=⟨_,rfl⟩;have bk:=Z ah;have bl:=Z (show ∀t∈i.text,t<256 by rw [←ah];exact r.bytes);have ai:=Z r;have cb:=r.lt;have cc:=r.tl;have bm:s.pos<T.length:=Zi (by have:=zjO ag;omega);have ap:=znm (qA T s);rw [ah] at aZ a0 ag ap K ⊢;obtain ⟨⟨a1,j⟩,aq⟩:∃t,zY i=t:=⟨_,rfl⟩;have bn:=Z aq;rw [aq] at ag ap K ⊢;simp only at ag ap K ⊢;rcases r.errs with ⟨-,rfl⟩ | ⟨_,_,_,a2,-⟩
 rotate_left
 ·rw [aY] at a2;cases a2
 have cd:((i.kind:Int)==2)=false:=by simp;omega
 have ce:((i.kind:Int)==1)=false:=by simp;omega
 have cf:((j:Int)==0)=false:=by simp;omega
 have bo:=Z (show (s.deep != 32)=true by simp [ao]);have bp:=Z ao;have cg:=r.dl;have Q:=r.blt;have a3:=Z r.sn.lts;have ch:(s.pos:Int)<513:=by omega
 obtain ⟨z,ar⟩:∃z,zv T (qr (zN s)) [40]=z:=⟨_,rfl⟩;have R:=Adv.want T (qr (zN s)) [40];rw [ar] at R K;have bq:=Z ar;have br:z.exprs.length≤z.pos:=by have:=R.exprs;simp only [qr,zN] at this;omega
 have bs:s.pos+1≤z.pos:=by have:=R.pos;simp only [qr,zN] at this;omega
 have bt:z.deep=s.deep+1:=R.deep;have bu:=Z K;obtain ⟨au,a4⟩:∃au,pIs T s [40]=au:=⟨_,rfl⟩;have bv:=Z a4;clear r ah aq aY a0 aZ ao ar R K a4;rcases au with _ | _
 all_goals
  go_enter func259,ntmps259;go_wp2_with (first | (go_at_call 157;refine (Qp bw _ [40] rfl).mono ?_;rw [bq.out];rintro k _ ⟨rfl,_,av,_,_,a5⟩;have bx:=Z (bz.trans av);have bA:=Z (av.ty _ _ _ _ bB (by decide) (by decide));have bC:=Z a5;clear av a5) | (go_at_call 247;refine (zam bD).mono ?_;rw [bo.out,if_neg bp.out];rintro k _ ⟨rfl,_,aw,_,_,L⟩;have bE:=L.cells.1.2.1;simp only [zN] at bE;have ci:=L.cells.2 1;have bz:=Z ((PMod.pre bF ai.blt aw).trans (PMod.set L 1 (.int .i64 ((s.pos:Int)+1))));have bB:=Z ((aw.trans (PMod.set L 1 (.int .i64 ((s.pos:Int)+1)))).ty _ _ _ _ bG (by decide) (by decide));have bw:=Z (L.setpos bm);clear aw L) | (go_at_call 197;refine (Y4 M _ [40] rfl).mono ?_;rw [bv.out];rintro k _ ⟨rfl,aj⟩;have bD:=Z (M.later aj);have bF:=Z (a6.trans (aj.mono a6.size));have ax:=(aj.block N.heap.size bH).trans bI;have bG:=Z ax;obtain ⟨u0,u1,u2,u3⟩:=zK ax;clear aj ax) | (go_at_call 274;refine (Y7 i bl _).mono ?_;rw [bn.out];rintro k _ ⟨rfl,ak⟩;have x:=((ak.block N.heap.size (by rw [World.size_alloc];omega)).trans (heap_alloc_new N (QV i)));have bI:=Z x;have bH:=qd x;obtain ⟨_,_,_,_⟩:=zK x;have M:=Z (bJ.later ak);have a6:=Z (a7.trans (ak.mono a7.size));have cj:=M.lt;have k5:=M.cells.1.2.2.2.2.2;have ck:=M.cells.1.2.1;have cl:=M.cells.2 1;clear ak x) | (go_at_call 100;refine (qS ai).mono ?_;rw [bk.out];rintro k N ⟨rfl,S⟩;have bJ:=Z ((ai.later S).alloc (QV i));have a7:=Z (S.alloc S.size (QV i));have cm:=(ai.later S).lt;clear S));go_loopg [7,96] j (fun l a8 bK wr=>∃(a:Nat) (c:PS) (e:List Nat),l=j-a∧bK= .int .i64 a∧a≤j∧e.length=a∧c.exprs.length≤c.pos∧s.pos+1≤c.pos∧c.deep=s.deep+1∧Hid (zeT (pGo T f .expr) T (j-a) (decide (a=0)) c e=J)∧Hid (wr.heap[N.heap.size]? =some (QV i))∧Hid (wr.ownsRow W.heap.size 3 1 a8 e.length (ints (e.map Int.ofNat)))∧Hid (∃ay,PMod B G ay W wr∧Yo a8 ay∧∃bL bM,PSt B P T h c A bL bM F ay wr))
  case atStart=>exact ⟨0,z, [],rfl,rfl,Nat.zero_le _,rfl,br,bs,bt,bu,bA,World.ownsRow_nil _ _ _ _,_,bx,Yo.nil _,_,_,bC⟩
  case round=>
   obtain ⟨a,c,e,_,rfl,_,a9,_,_,U,ba,az,O,bb⟩:=hrel;obtain ⟨_,bc,bd,_,_,aA⟩:=bb.out;obtain ⟨be,bf,rfl,_,-⟩:=qg O;have aB:=Z bc;have bg:=Z bd;have al:=Z aA;have cn:=aA.lt;have co:e.length≤3:=by omega
   have bh:=Z a9;clear a9;clear bc bd aA bb
   by_cases cp:a<j
   ·obtain ⟨am,bN⟩:∃am,j-a=am+1:=⟨j-a-1,by omega⟩
    have b:=ba.out;rw [bN] at b;simp only [zeT] at b;rcases Nat.eq_zero_or_pos a with V | V
    ·have bO:decide ((0:Int)<(a:Int))=false:=by simp;omega
     have bP:(0<a)=False:=eq_false (by omega);rw [show decide (a=0)=true by simp;omega] at b;rw [if_pos rfl] at b;have g:=Adv.refl T c;obtain ⟨aC,C⟩:∃X,pGo T f .expr c=X:=⟨_,rfl⟩;have m:=g.trans (Adv.go T f .expr c);rw [C] at m b;obtain ⟨n,t⟩:=aC;simp only at m b;have aD:c.exprs.length≤c.pos:=by have:=g.exprs;omega
     have aE:yu T .expr c≤f:=by have:=g.pos;simp only [yu,Qm] at aX ⊢;omega
     have aF:n.exprs.length≤n.pos:=by have:=m.exprs;omega
     have aG:s.pos+1≤n.pos:=by have:=m.pos;omega
     have aH:n.deep=s.deep+1:=by rw [m.deep,U]
     have aI:=Z C;have aJ:=Z b;have bQ:=Z V;clear b C g m V U;go_wp2_with (first | (at_builtin;refine yS rfl _ _ 24 rfl 3 _ 1 8 underlying24 qD rfl (by decide) #[.int .i64 t] e.length W.heap.size (.slice be e.length bf) (ints (e.map Int.ofNat)) o rfl rfl rfl (by intro bR Y;simp at Y;subst Y;rfl) aK (by omega) (by unfold maxLen;omega) ?_;intro bS bT aa u ab;have aL:=Z (ac.app o Q u (Yo.old a3 (fun l p=>(o.lt l p).1)) ad);have aM:=Z (H.app u Q (fun a x=>(o.lt a x).1));have aN:=Z ((u.block N.heap.size (qd v) (fun k=>yz o v (by decide) k.symm)).trans v);have aO:=Z (ad.grow ac.en.lts ab);have aP:=Z aa;clear aa u ab) | (go_at_call 158;refine (ih al aD aE).mono ?_;rw [aI.out];rintro k aQ ⟨rfl,bU,q,bV,bW,ae⟩;have H:=Z (aB.trans q);have v:=Z (q.ty _ _ _ _ az (by decide) (by decide));have o:=Z (q.owns O (by decide) (by decide));have ad:=Z (bg.step q (fun l p=>(O.lt l p).2));have ac:=Z ae;have bX:=H.low.size;have aK:W.heap.size≤aQ.heap.size:=(by have bY:=H.low;have aR:=v.out;have bZ:=qd aR;omega);clear q ae));go_roundg (j-(a+1))
     case measure=>omega
     case rel=>exact ⟨a+1,n,e++[t],by omega,by go_num,by omega,by simp [bh.out],aF,aG,aH,Z (by rw [show j-(a+1)=am by omega,show decide (a+1=0)=false by simp];exact aJ),aN,Z (by have:=aP.out;simp only [List.length_append,List.map_append,List.length_cons,List.length_nil,List.map_cons,List.map_nil,yd];exact this),_,aM,aO,_,_,aL⟩
    ·have bO:decide ((0:Int)<(a:Int))=true:=by simp;omega
     have bP:(0<a)=True:=eq_true (by omega);rw [show decide (a=0)=false by simp;omega] at b;rw [if_neg (by simp)] at b;obtain ⟨d,I⟩:∃d,zv T c [44]=d:=⟨_,rfl⟩;have g:=Adv.want T c [44];rw [I] at g b;have an:=Z I;clear I;obtain ⟨aC,C⟩:∃X,pGo T f .expr d=X:=⟨_,rfl⟩;have m:=g.trans (Adv.go T f .expr d);rw [C] at m b;obtain ⟨n,t⟩:=aC;simp only at m b;have aD:d.exprs.length≤d.pos:=by have:=g.exprs;omega
     have aE:yu T .expr d≤f:=by have:=g.pos;simp only [yu,Qm] at aX ⊢;omega
     have aF:n.exprs.length≤n.pos:=by have:=m.exprs;omega
     have aG:s.pos+1≤n.pos:=by have:=m.pos;omega
     have aH:n.deep=s.deep+1:=by rw [m.deep,U]
     have aI:=Z C;have aJ:=Z b;have bQ:=Z V;clear b C g m V U;go_wp2_with (first | (at_builtin;refine yS rfl _ _ 24 rfl 3 _ 1 8 underlying24 qD rfl (by decide) #[.int .i64 t] e.length W.heap.size (.slice be e.length bf) (ints (e.map Int.ofNat)) o rfl rfl rfl (by intro bR Y;simp at Y;subst Y;rfl) aK (by omega) (by unfold maxLen;omega) ?_;intro bS bT aa u ab;have aL:=Z (ac.app o Q u (Yo.old a3 (fun l p=>(o.lt l p).1)) ad);have aM:=Z (H.app u Q (fun a x=>(o.lt a x).1));have aN:=Z ((u.block N.heap.size (qd v) (fun k=>yz o v (by decide) k.symm)).trans v);have aO:=Z (ad.grow ac.en.lts ab);have aP:=Z aa;clear aa u ab) | (go_at_call 158;refine (ih aS aD aE).mono ?_;rw [aI.out];rintro k aQ ⟨rfl,bU,q,bV,bW,ae⟩;have H:=Z (aT.trans q);have v:=Z (q.ty _ _ _ _ b0 (by decide) (by decide));have o:=Z (q.owns af (by decide) (by decide));have ad:=Z (b1.step q (fun l p=>(af.lt l p).2));have ac:=Z ae;have bX:=H.low.size;have aK:W.heap.size≤aQ.heap.size:=(by have bY:=H.low;have aR:=v.out;have bZ:=qd aR;omega);clear q ae) | (go_at_call 157;refine (Qp al _ [44] rfl).mono ?_;rw [an.out];rintro k b2 ⟨rfl,b3,w,b4,b5,y⟩;have aT:=Z (aB.trans w);have b0:=Z (w.ty _ _ _ _ az (by decide) (by decide));have af:=Z (w.owns O (by decide) (by decide));have b1:=Z (bg.step w (fun l p=>(O.lt l p).2));have aS:=Z y;clear w y));go_roundg (j-(a+1))
     case measure=>omega
     case rel=>exact ⟨a+1,n,e++[t],by omega,by go_num,by omega,by simp [bh.out],aF,aG,aH,Z (by rw [show j-(a+1)=am by omega,show decide (a+1=0)=false by simp];exact aJ),aN,Z (by have:=aP.out;simp only [List.length_append,List.map_append,List.length_cons,List.length_nil,List.map_cons,List.map_nil,yd];exact this),_,aM,aO,_,_,aL⟩
   ·obtain rfl:a=j:=by omega
    have b:=ba.out;rw [Nat.sub_self] at b;simp only [zeT] at b;subst b;obtain ⟨d,I⟩:∃d,zv T c [41]=d:=⟨_,rfl⟩;have g:=Adv.want T c [41];simp only;rw [I] at g ⊢;have b6:d.deep=s.deep+1:=by rw [g.deep,U]
    have b7:1≤d.deep:=by omega
    have cq:(1:Int)≤(d.deep:Int):=by omega
    have cr:(d.deep:Int)≤33:=by omega
    have cs:=g.top al.pl;have b8:(pUp d).exprs.length≤1000:=by have:=g.exprs;simp only [pUp];omega
    obtain ⟨_,aU⟩:∃X,Qo (pUp d) ⟨a1, [],0,e,i.pos⟩=X:=⟨_,rfl⟩;rw [aU];have bi:=Z aU;have an:=Z I;clear aU I g b6;go_wp2_with (first | (go_at_call 199;refine (Y5 aS ⟨a1, [],0,e,i.pos⟩ _ (qk af Q) b8).mono ?_;rw [bi.out];rintro k _ ⟨rfl,bj⟩;have b9:=Z ((aT.cons _ (fun l p=>(af.lt l p).1)).post bj);clear bj) | (go_at_call 157;refine (Qp al _ [41] rfl).mono ?_;rw [an.out];rintro k b2 ⟨rfl,b3,w,b4,b5,y⟩;have k4:=y.cells.1.2.2.2.2.1;have ct:=y.cells.2 4;have aV:=w.trans (PMod.set y 4 (.int .i64 ((d.deep:Int)-1)));have aW:=w.ty _ _ _ _ az (by decide) (by decide);obtain ⟨_,_,_,_⟩:=zK aW;have cu:=qd aW;have aT:=Z (aB.trans aV);have af:=Z (aV.owns O (by decide) (by decide));have aS:=Z (y.up b7);clear w y aV aW));go_ret;rw [an.out,bi.out];exact ⟨rfl,b9⟩
theorem zkK (ih:GoC B P T h f .expr 158):GoC B P T h (f+1) .atom 259:=by
 intro a _ _ _ _ _ _ b j k;simp only [pGo];rcases he:a.err with _ | n
 rotate_left
 ·have l:=zmj b (by rw [he];simp)
  simpa using l
 rw [if_neg (by simp)]
 by_cases c:(qA T a).kind=2
 ·rw [if_pos c];exact zmk b j he c
 rw [if_neg c]
 by_cases d:(qA T a).kind=1
 ·rw [if_pos d];exact zkI b j he d
 rw [if_neg d]
 by_cases e:pIs T a [40]=false∧(zY (qA T a)).2=0
 ·rw [if_pos e];exact zkJ b he c d e.1 e.2
 rw [if_neg e]
 by_cases g:a.deep=32
 ·rw [if_pos g]
  refine zkH b he c d _ rfl ?_ g;rcases hb:pIs T a [40] with _ | _
  ·exact .inr fun m=>e ⟨hb,m⟩
  ·exact .inl rfl
 rw [if_neg g]
 by_cases i:(zY (qA T a)).2=0
 ·rw [if_pos i]
  refine zn3 b ih j k he c d ?_ i g;rcases hb:pIs T a [40] with _ | _
  ·exact absurd ⟨hb,i⟩ e
  ·rfl
 ·rw [if_neg i]
  exact zkG b ih j k he c d i g _ rfl
theorem zlD (a:List MTok)(k:PK)(s:PS):1≤yu a k s:=by unfold yu;cases k<;>simp [Qm]<;>omega
theorem GoC.zero (B P:Nat)(a:List MTok)(b:Value)(k:PK)(c:FuncId):GoC B P a b 0 k c:=by
 intro d _ _ _ _ _ _ _ _ _;have:=zlD a k d;omega
theorem zpt (B P:Nat)(a:List MTok)(b:Value)(f:Nat):GoC B P a b f .expr 158∧GoC B P a b f .sum 198∧GoC B P a b f .prod 224∧
  GoC B P a b f .sign 238∧GoC B P a b f .post 246∧GoC B P a b f .atom 259:=by
 induction f using Nat.strongRecOn with
 |_ f d=>
  rcases f with _ | f
  ·exact ⟨GoC.zero _ _ _ _ _ _,GoC.zero _ _ _ _ _ _,GoC.zero _ _ _ _ _ _,GoC.zero _ _ _ _ _ _,GoC.zero _ _ _ _ _ _,GoC.zero _ _ _ _ _ _⟩
  ·have e:=d f (Nat.lt_succ_self f)
   exact ⟨zkW e.2.1,znF fun c g=>(d c (by omega)).2.2.1,zlI fun c g=>(d c (by omega)).2.2.2.1,zlW e.2.2.2.2.1 e.2.2.2.1,zlH fun c g=>(d c (by omega)).2.2.2.2.2,zkK e.1⟩
end Go.Proofs.YtklofgfkaaoipaaGreatDoor
namespace Go.Proofs.YtklofgfkaaoipaaGreatDoor
open Go.Proofs.Tryz
theorem Adv.numL (b:List MTok):∀(c:Nat) (a:PS) (d:List Int),Adv b a (zcG b c a d).1
 |0,a,_=> .refl _ _
 |c+1,a,d=>by
  simp only [zcG];split
  ·rename_i e;exact ((Adv.next (zD e).1).trans (.number _ _)).trans (Adv.numL b c _ _)
  ·exact .refl _ _
theorem Adv.shape (a:List MTok)(s:PS):Adv a s (Y3 a s).1:=by
 simp only [Y3];split
 ·rename_i b;exact (Adv.want _ _ _).trans (.next (zD b).1)
 ·exact ((Adv.want _ _ _).trans (.number _ _)).trans ((Adv.numL a _ _ _).trans (.want _ _ _))
theorem zbu (s:PS)(e:Int):(zR s e).err≠none:=by
 unfold zR;split
 ·simp
 ·rename_i a;rw [a];simp
theorem zfV {a:List MTok}{s:PS}{x:List Nat}(b:s.err≠none):(zv a s x).err≠none:=by
 unfold zv;split
 ·exact b
 ·exact zbu _ _
theorem zj3 (a:List MTok)(s:PS):Adv a s (Zq a s).1∧((Zq a s).1.err≠none∨s.pos<(Zq a s).1.pos):=by
 simp only [Zq];split
 ·exact ⟨.fail _ _ _,.inl (zbu _ _)⟩
 ·split
  ·rename_i c
   have b:=((Adv.number a (qr s)).trans (Adv.name a _)).trans (Adv.shape a _);exact ⟨(Adv.next (zD c).1).trans b,.inr b.pos⟩
  ·split
   ·rename_i c
    have b:=((Adv.name a (qr s)).trans (Adv.want a _ [61])).trans (Adv.go a (zcF a) .expr _);exact ⟨(Adv.next (zD c).1).trans b,.inr b.pos⟩
   ·split
    ·rename_i c
     have b:=Adv.name a (qr s);exact ⟨(Adv.next (zD c).1).trans b,.inr b.pos⟩
    ·exact ⟨.fail _ _ _,.inl (zbu _ _)⟩
theorem znC (a:List MTok)(s:PS):((ZZ a s).err≠none∨s.pos<(ZZ a s).pos)∧s.pos≤(ZZ a s).pos∧(ZZ a s).deep=s.deep∧(ZZ a s).stmts.length=s.stmts.length+1∧(ZZ a s).exprs.length+s.pos≤s.exprs.length+(ZZ a s).pos:=by
 obtain ⟨e,b⟩:=zj3 a s;have d:=Adv.want a (Zq a s).1 [59];have c:=e.trans d;simp only [ZZ];refine ⟨?_,c.pos,c.deep,by rw [c.stmts];simp,c.exprs⟩;rcases b with b | b
 ·exact .inl (zfV b)
 ·exact .inr (Nat.lt_of_lt_of_le b d.pos)
theorem zl4 (a:List MTok)(s:PS)(b:s.stmts.length=64):(ZZ a s).err≠none:=by
 simp only [ZZ];have:(Zq a s).1=zR s 5:=by simp only [Zq];rw [if_pos b]
 rw [this];exact zfV (zbu _ _)
end Go.Proofs.YtklofgfkaaoipaaGreatDoor

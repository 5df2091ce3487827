/-
  THE CONTRACT of lower.sorted, where the rounds rise already (fewer than 20 operations).
-/
import Derived.Test.YtklofgfkaaoipaaGreatDoorMLow21
import Derived.Test.YtklofgfkaaoipaaGreatDoorMMCheck
import Derived.Test.YtklofgfkaaoipaaGreatDoorMDag2
import Derived.Test.YtklofgfkaaoipaaGreatDoorMLowPlain
import Derived.Test.YtklofgfkaaoipaaGreatDoorMDag4
import Derived.Test.YtklofgfkaaoipaaGreatDoorMDagPlain
import Derived.Test.YtklofgfkaaoipaaGreatDoorMGate
import Derived.Test.YtklofgfkaaoipaaGreatDoorMHd
set_option maxHeartbeats 16000000
set_option maxRecDepth 100000
set_option linter.unusedSimpArgs false
set_option linter.unusedVariables false
namespace Go.Proofs.YtklofgfkaaoipaaGreatDoor
open Go.RowKit Go.Proofs.Tryz
variable {B:Nat}{h A D E:Value}{g:MGraph}{F G:List Value}
theorem zl2 (g:Nat)(f:Array Value)(r:∀i w,(callFunc g i).run prog w= .ok (.enter g i) w)(d n c:Nat)(w:World)(s:d<w.heap.size)(t:n<20)(j:∀a,a<n→w.cell? ⟨d,a,none⟩=some (.int .i64 (a:Int)))(k:∀b a,1≤a→a<n→Below w.heap.size w b→Calls prog g (#[.int .i64 (a:Int),.int .i64 ((a:Int)-1)]++f) b (fun e u=>∃l,e= .returned (.int .i64 l)∧0≤l∧Below b.heap.size b u)):
  Calls prog 214 #[.slice (some ⟨d,0,none⟩) n c,.int .i64 n,.func (.func g) #[] f] w (fun e v=>e= .returned (.tuple #[])∧Below w.heap.size w v):=by
 have x:=Z (zmN g f r d n c w s t j k);have A:¬(20:Int)≤(n:Int):=by omega
 have B:¬(20:Int)<(n:Int):=by omega
 have C:¬20≤n:=by omega
 have D:¬20<n:=by omega
 clear k j;go_enter func214,ntmps214;go_wp2_with fail;go_loopg [7,8] 0 (fun h m o wr=>h=0∧m= .int .i64 0∧o= .int .i64 20∧wr=w)
 case atStart=>exact ⟨rfl,rfl,rfl,rfl⟩
 case round=>
  obtain ⟨rfl,rfl,rfl,rfl⟩:=hrel;go_wp2_with (go_at_call 230;refine x.mono ?_;rintro e p ⟨rfl,q⟩;have y:=Z q;clear q);rename World=>p
  go_loopg [6,7,8,9] 0 (fun h z m o E wr=>h=0∧z= .int .i64 20∧wr=p)
  case atStart=>exact ⟨rfl,rfl,rfl⟩
  case round=>
   obtain ⟨rfl,rfl,rfl⟩:=hrel;go_wp2_with fail;go_end0;exact ⟨rfl,y⟩
theorem znA (g:Nat)(f:Array Value)(m:∀h w,(callFunc g h).run prog w= .ok (.enter g h) w)(d n c:Nat)(w:World)(o:d<w.heap.size)(p:n<20)(i:∀a,a<n→w.cell? ⟨d,a,none⟩=some (.int .i64 (a:Int)))(j:∀b a,1≤a→a<n→Below w.heap.size w b→Calls prog g (#[.int .i64 (a:Int),.int .i64 ((a:Int)-1)]++f) b (fun e q=>∃k,e= .returned (.int .i64 k)∧0≤k∧Below b.heap.size b q)):
  Calls prog 181 #[.slice (some ⟨d,0,none⟩) n c,.func (.func g) #[] f] w (fun e r=>e= .returned (.tuple #[])∧Below w.heap.size w r):=by
 have s:=Z (zl2 g f m d n c w o p i j);clear j i;go_enter func181,ntmps181;go_wp2_with (go_at_call 214;refine s.mono ?_;rintro e u ⟨rfl,l⟩;have t:=Z l;clear l);go_end0;exact ⟨rfl,t⟩
theorem zhJ (x:Int)(w:World):Calls prog 80 #[.int .i64 x] w (fun a b=>a= .returned (.bool false)∧w=b):=by
 go_enter func80,ntmps80;go_wp2_with fail;go_ret;exact ⟨by simp,rfl⟩
theorem ziS (x y:Int)(d:y≤x)(w:World):Calls prog 183 #[.int .i64 x,.int .i64 y] w (fun a b=>∃c,a= .returned (.int .i64 c)∧0≤c∧w=b):=by
 have e:¬x<y:=by omega
 by_cases f:y<x
 ·go_enter func183,ntmps183
  go_wp2_with (go_at_call 80;refine (zhJ _ _).mono ?_;rintro a b ⟨rfl,rfl⟩);go_ret;exact ⟨_,rfl,by decide,rfl⟩
 ·go_enter func183,ntmps183
  go_wp2_with (go_at_call 80;refine (zhJ _ _).mono ?_;rintro a b ⟨rfl,rfl⟩);go_ret;exact ⟨_,rfl,by decide,rfl⟩
theorem zpl {w:World}{b:Nat}{x:Value}{t:TypeId}{fr:Nat×Nat}(a:w.heap[b]? =some (.cells #[x] t fr)):w.cell? ⟨b,0,none⟩=some x:=by simp [World.cell?,a]
theorem ze5:∀a b,(callFunc 182 a).run prog b= .ok (.enter 182 a) b:=enters_of func182 (by kernel_rfl) rfl
theorem zj2 (i a n c b:Nat)(x y:Int)(j:y≤x)(r:1≤i)(s:i<n)(W:World)(k:W.cell? ⟨b,0,none⟩=some (.slice (some ⟨a,0,none⟩) n c))(l:W.cell? ⟨a,i,none⟩=some (.int .i64 x))(m:W.cell? ⟨a,i-1,none⟩=some (.int .i64 y)):
  Calls prog 182 (#[.int .i64 (i:Int),.int .i64 ((i:Int)-1)]++#[.pointer (some ⟨b,0,none⟩)]) W (fun e o=>∃d,e= .returned (.int .i64 d)∧0≤d∧Below W.heap.size W o):=by
 show Calls prog 182 #[.int .i64 (i:Int),.int .i64 ((i:Int)-1),.pointer (some ⟨b,0,none⟩)] W _;have t:(0:Int)≤(i:Int):=by omega
 have u:(i:Int)<(n:Int):=by omega
 have v:(1:Int)≤(i:Int):=by omega
 have w:(0:Int)≤(i:Int)-1:=by omega
 have z:(i:Int)-1<(n:Int):=by omega
 have A:((i:Int)-1).toNat=i-1:=by omega
 go_enter func182,ntmps182;go_upto_region 1 with fail;refine rg (fun W=>W.cell? ⟨b,0,none⟩=some (.slice (some ⟨a,0,none⟩) n c)∧W.cell? ⟨a,i,none⟩=some (.int .i64 x)∧W.cell? ⟨a,i-1,none⟩=some (.int .i64 y)) ⟨k,l,m⟩ (fun f=> ?_);refine tk 0 ?_;refine tk 1 ?_;refine tk 2 ?_;refine tk 3 ?_;refine tk 4 ?_;refine tk 5 ?_;refine tk 6 ?_;refine tk 7 ?_;refine rd1 8 (fun p g=> ?_)
 (go_simp;go_at_call 183;refine (ziS x y j _).mono ?_;rintro e B ⟨d,rfl,h,rfl⟩;have q:=Z h;clear h;(try dsimp only))
 refine g _ _ (show _∧_ from f) (fun f=>nx ?_);clear g p;refine tk 9 ?_;refine dn ?_;go_wp2_with fail;go_ret;exact ⟨_,rfl,q,(Below.refl _ _).drew⟩
theorem zjh (y:Value)(ops:List MOp)(w:World)(k:Arr w.heap.size w 6 y ops.length (qz ops))(O:∀b∈ops,b.c<18446744073709551616)(P:yC w)
  (Q:∀b∈ops,(0<zw b→0≤b.a∧b.a<ops.length)∧(1<zw b→0≤b.b∧b.b<ops.length)) (an:ops.length<20) (z:(qw ops).length=ops.length) (A:∀a,1≤a→a<ops.length→(qw ops).getD (a-1) 0≤(qw ops).getD a 0):
  Calls prog 125 #[y] w fun p R=>∃S,p= .returned S∧R.ownsRow w.heap.size 61 6 S (zcq ops (List.range ops.length)).length (qz (zcq ops (List.range ops.length)))∧Below w.heap.size w R:=by
 have ao:=Z k;have ap:=Z Q;have T:=Z (ZK y ops w k (by omega) O P);obtain ⟨aq,aP,aQ,ar,rfl,aR,au,av⟩:=k.slots;obtain ⟨q,U⟩:∃q,qw ops=q:=⟨_,rfl⟩;rw [U] at T z A;have aw:=Z A;have V:=Z z;clear k Q au av A z O P U;go_enter func125,ntmps125;go_upto_region 2 with (go_at_call 18;refine T.mono ?_;rw [V.out];rintro p g ⟨u1,rfl,B,W⟩;obtain ⟨C,r,rfl,-,X⟩:=qg B;have ax:=Z X;have aS:=Z B;have D:=Z W;clear B W X);rename World=>g
 have s:=Z (heap_alloc_new g (.cells #[.slice C ops.length r] 24));have t:=Z ((Below.refl g.heap.size g).alloc (Nat.le_refl _) (.cells #[.slice C ops.length r] 24));generalize ay:g.alloc (.cells #[.slice C ops.length r] 24)=h at s t ⊢;obtain ⟨l,E⟩:∃l,g.heap.size=l:=⟨_,rfl⟩;have az:=Z E;rw [E] at s ⊢;have aT:=qd s;have aA:=zgI ops.length (by omega) h;have Y:=Z ((Below.refl h.heap.size h).alloc (Nat.le_refl _) (.cells (ints (List.replicate ops.length 0)).toArray 3));have F:=Z (heap_alloc_new h (.cells (ints (List.replicate ops.length 0)).toArray 3));clear ay E;go_wp2_with fail;generalize h.alloc (.cells (ints (List.replicate ops.length 0)).toArray 3)=aU at Y F ⊢;obtain ⟨d,G⟩:∃d,h.heap.size=d:=⟨_,rfl⟩;have H:=Z G;rw [G] at F ⊢;clear aA G;go_loopg [13] ops.length (fun aB aC wr=>∃(c:Nat) (f:List Int),c≤ops.length∧aB=ops.length-c∧aC= .int .i64 c∧f.length=ops.length∧(∀a,a<c→f.getD a 0=(a:Int))∧Hid (wr.heap[d]? =some (.cells (ints f).toArray 3 (0,0)))∧Hid (Below d h wr))
 case atStart=>exact ⟨0,_,Nat.zero_le _,rfl,rfl,List.length_replicate,fun a e=>absurd e (Nat.not_lt_zero _),F,by rw [←H.out];exact Y⟩
 case round=>
  obtain ⟨c,f,aV,aW,rfl,I,u,m,J⟩:=hrel;rename World=>wr
  have aa:=qd m
  by_cases aX:c<ops.length
  ·obtain ⟨-,aY⟩:=qV m c (by omega)
   have aZ:(0:Int)≤(c:Int):=by omega
   have a0:(c:Int)<(ops.length:Int):=by omega
   obtain ⟨a1,-⟩:=qV m c (by omega);go_wp2_with fail;go_roundg (ops.length-(c+1))
   case measure=>omega
   case rel=>exact ⟨c+1,f.set c (c:Int),by omega,rfl,by go_num,by rw [List.length_set];exact I,fun a e=>by
    rcases Nat.lt_or_ge a c with i | i
    ·have:=u a i
     simp only [List.getD_eq_getElem?_getD,List.getElem?_set] at this ⊢;rw [if_neg (by omega)];exact this
    ·have:a=c:=by omega
     subst this;simp [List.getD,show a<f.length by omega],Z (zo m c (c:Int)),J.setCell (p:=⟨d,c,none⟩) (Nat.le_refl _) _⟩
  ·obtain rfl:c=ops.length:=by omega
   have ab:f=(List.range ops.length).map Int.ofNat:=by
    apply List.ext_getElem (by simp [I])
    intro a i a2;have:=u a (by omega);simp [List.getD,i] at this;simp [this]
   have aD:=Z ab;have ac:Below w.heap.size w wr:=D.trans (((t.mono D.size).trans (J.mono (by have:=H.out;have:=t.size;have:=D.size;omega))));have ad:=Z ac;have ae:=znA 182 #[.pointer (some ⟨l,0,none⟩)] ze5 d ops.length ops.length wr aa an (fun a e=>by
    have:=(qV m a (by omega)).1;rw [this,u a e]) (fun v a i e aE=>by
    obtain ⟨n,rfl,-,aF,aG⟩:=ax.out (by omega);have aH:l<d:=by have:=H.out;omega
    have a3:g.heap.size≤d:=by have:=az.out;omega
    have af:∀j b,j<d→v.cell? ⟨j,b,none⟩=h.cell? ⟨j,b,none⟩:=fun j b aI=>(aE.cell (p:=⟨j,b,none⟩) (show j<wr.heap.size by omega)).trans (J.cell (p:=⟨j,b,none⟩) aI)
    have aJ:∀b,v.cell? ⟨n,b,none⟩=g.cell? ⟨n,b,none⟩:=fun b=>(af n b (by omega)).trans (t.cell (p:=⟨n,b,none⟩) aF)
    have ag:∀o,o<ops.length→v.cell? ⟨n,o,none⟩=some (.int .i64 (q.getD o 0)):=fun o aK=>by
     rw [aJ,aG o (by omega)];have:o<q.length:=by rw [V.out];exact aK
     simp [ints,List.getD,this]
    exact zj2 a n ops.length r l _ _ (aw a i e) i e v ((af l 0 aH).trans (zpl s)) (ag a e) (ag (a-1) (by omega)))
   have aL:=Z ae;clear ae ac ab u;go_upto_region 9 with (go_at_call 181;refine aL.mono ?_;rintro p K ⟨rfl,ah⟩;have ai:=Z ah;clear ah);have L:=(ai.block d aa).trans m;have x:=ad.trans (ai.mono ad.size);have aj:Arr K.heap.size K 1 (.slice (some ⟨d,0,none⟩) ops.length ops.length) (List.range ops.length).length (ints ((List.range ops.length).map Int.ofNat)):=by
    rw [←aD.out,List.length_range];exact ⟨_,_,rfl,Nat.le_refl _,by unfold maxLen;omega,fun k=>by (cases k),by rw [qP,I,Nat.mul_one],.inr ⟨d,0,rfl,qd L,fun a e=>by
     have M:a<f.length:=by omega
     rw [Nat.zero_add,(qV L a M).1,yY f a M];simp [List.getD,M]⟩⟩
   have ak:=zfJ (.slice aq ops.length ar) (.slice (some ⟨d,0,none⟩) ops.length ops.length) ops (List.range ops.length) K (ao.later x x.size) aj (fun a e=>List.mem_range.1 e) ap (by omega) (by rw [List.length_range];omega);have aM:=Z ak;have N:=Z x;clear ak aj L x;go_wp2_with (go_at_call 184;refine aM.mono ?_;rintro p a4 ⟨a5,rfl,al,am⟩;have aN:=Z al;have aO:=Z am;clear al am);go_ret;exact ⟨_,rfl,qk aN N.size,N.trans (aO.mono N.size)⟩
def QN:Nat→List MNode→List Int
 |_, []=>[]
 |a,c::b=>if zcx c then (a:Int)::QN (a+1) b else QN (a+1) b
theorem zds (w:World)(e:GAt B w h A D E g F G)(aw:g.nodes.length≤64):
  Calls prog 74 #[.agg #[h,A,D,E]] w fun q I=>∃i,q= .returned i∧I.ownsRow w.heap.size 3 1 i (QN 0 g.nodes).length (ints (QN 0 g.nodes))∧Below w.heap.size w I:=by
 have ad:=Z e;obtain ⟨r,s,rfl,-,-⟩:=qg e.nodes;obtain ⟨J,K,rfl,-,-⟩:=qg e.outs;obtain ⟨L,M,rfl⟩:=e.in0.form;obtain ⟨N,O,rfl⟩:=e.in1.form;obtain ⟨l,t⟩:∃l,QN 0 g.nodes=l:=⟨_,rfl⟩;have ae:=Z t;rw [t];have P:=Z ((Below.refl w.heap.size w).alloc (Nat.le_refl _) (.cells #[.slice r g.nodes.length s,.slice J g.outs.length K,.slice L g.in0.length M,.slice N g.in1.length O] 76));clear e t;go_enter func74,ntmps74;go_wp2_with fail;generalize w.alloc (.cells #[.slice r g.nodes.length s,.slice J g.outs.length K,.slice L g.in0.length M,.slice N g.in1.length O] 76)=ax at P ⊢;go_loopg [3,9] g.nodes.length (fun af i ag wr=>∃(a:Nat) (d:List Int),a≤g.nodes.length∧af=g.nodes.length-a∧ag= .int .i64 a∧d.length≤a∧Hid (d++QN a (g.nodes.drop a)=l)∧Hid (wr.ownsRow w.heap.size 3 1 i d.length (ints d))∧Hid (Below w.heap.size w wr))
 case atStart=>exact ⟨0, [],Nat.zero_le _,rfl,rfl,Nat.le_refl _,Z (by rw [←ae.out];rfl),Z (World.ownsRow_nil _ _ _ _),P⟩
 case round=>
  obtain ⟨a,d,ay,az,rfl,aA,u,m,j⟩:=hrel;rename Value=>i
  rename World=>wr
  have Q:=j.size
  by_cases R:a<g.nodes.length
  ·obtain ⟨ah,ai,aB,aC,S,aD,v,x,aj,ak,al,am,an,ao,aE⟩:=(ad.later j).node a R
   obtain ⟨rfl,rfl⟩:r=some ⟨ah,0,none⟩∧s=ai:=by simpa using S
   have b:=u.out;rw [List.drop_eq_getElem_cons R] at b;simp only [QN] at b;generalize g.nodes[a]=c at v x aj ak al am an ao b;obtain ⟨T,U,rfl,-,-⟩:=qg v;obtain ⟨V,W,rfl,-,-⟩:=qg x;obtain ⟨aF,aG,rfl,-,-⟩:=qg m;have aH:(a:Int)<(g.nodes.length:Int):=by omega
   have n:=Z ((Below.refl wr.heap.size wr).alloc (Nat.le_refl _) (.cells #[.int .i64 c.kind,.slice T c.shape.length U,.slice V c.args.length W,.int .i64 c.party,.int .i64 c.input,.int .i64 c.k,.slice none 0 0] 154));have f:=fun (ap:World)=>zee c (.slice T c.shape.length U) (.slice V c.args.length W) (.slice none 0 0) ap ⟨_,_,_,rfl⟩ ⟨_,_,_,rfl⟩ ⟨_,_,_,rfl⟩
   clear S v x u;rcases hc:zcx c with _ | _
   ·rw [hc,if_neg (by simp)] at b
    rw [hc] at f;have y:=Z b;have z:=Z f;clear b hc f;go_wp2_with (go_at_call 118;refine (z _).mono ?_;rintro q X ⟨rfl,k⟩;have o:=Z (n.trans (k.mono n.size));clear k);go_roundg (g.nodes.length-(a+1))
    case measure=>omega
    case rel=>exact ⟨a+1,d,by omega,rfl,by go_num,by omega,y,Z (Below.owns m o),Z (j.trans (o.mono Q))⟩
   ·rw [hc,if_pos rfl] at b
    rw [hc] at f;have y:=Z (show (d++[(a:Int)])++QN (a+1) (g.nodes.drop (a+1))=l by rw [List.append_assoc];exact b);have z:=Z f;clear b hc f;go_wp2_with (first | (go_at_call 118;refine (z _).mono ?_;rintro q X ⟨rfl,k⟩;have p:=n.trans (k.mono n.size);have o:=Z p;have C:=Below.owns m p;have Y:w.heap.size≤X.heap.size:=(by have:=p.size;omega);clear k p) | (at_builtin;refine yS rfl _ _ 24 rfl 3 (.int .i64 0) 1 8 underlying24 qD rfl (by decide) #[_] _ _ _ _ C rfl rfl rfl (by intro aI aa;simp at aa;subst aa;rfl) Y (by omega) (by unfold maxLen;omega) ?_;intro aJ aK ab ac _;have aq:=Z ab;have ar:=Z ac;have H:=Z C;clear ab ac C));go_roundg (g.nodes.length-(a+1))
    case measure=>omega
    case rel=>exact ⟨a+1,d++[(a:Int)],by omega,rfl,by go_num,by simp;omega,y,Z (by rw [List.length_append,yd];exact aq),Z ((j.trans (o.mono Q)).grown ar Y (fun au av=>(H.lt au av).1))⟩
  ·obtain rfl:a=g.nodes.length:=by omega
   have b:=u.out;rw [List.drop_length] at b;simp only [QN,List.append_nil] at b;subst b;have H:=Z m;go_wp2_with fail;go_ret;exact ⟨_,rfl,H,j⟩
def Y8:List (List Int)→Int
 |[]=>0
 |a::b=>qN a+Y8 b
theorem zc7:∀(b:List (List Int)) (a:List Int),Y8 (b++[a])=Y8 b+qN a
 |[],a=>by simp [Y8]
 |c::b,a=>by simp only [List.cons_append,Y8];rw [zc7 b a];omega
theorem zgA:∀(a:List (List Int)),0≤Y8 a∧Y8 a≤32 * a.length
 |[]=>by simp [Y8]
 |b::a=>by
  have c:=zgA a;have d:=ZF b;simp only [Y8,List.length_cons];omega
theorem zk6:(prog.info? 23).map (·.size)=some 2:=by kernel_rfl
theorem zjf (w:World)(ab:GAt B w h A D E g F G)(be:g.in0.length+g.in1.length≤8)(aH:∀m,Below w.heap.size w m→Calls prog 72 #[.agg #[h,A,D,E]] m (qM .nilIface m)):
  Calls prog 77 #[.agg #[h,A,D,E]] w (qM (.agg #[.int .i64 (Y8 g.in0),.int .i64 (Y8 g.in1)]) w):=by
 have aI:=Z ab;obtain ⟨K,L,rfl,-,-⟩:=qg ab.nodes;obtain ⟨M,N,rfl,-,-⟩:=qg ab.outs;obtain ⟨q,r,rfl⟩:=ab.in0.form;obtain ⟨s,t,rfl⟩:=ab.in1.form;have P:=qB w (.cells #[.slice K g.nodes.length L,.slice M g.outs.length N,.slice q g.in0.length r,.slice s g.in1.length t] 76) (.cells #[.int .i64 0,.int .i64 0] 23) (.cells #[.int .i64 0,.int .i64 0] 23);have aT:=Z (aH _ P);have aJ:=Z P;have aU:=Z (show (((w.alloc (.cells #[.slice K g.nodes.length L,.slice M g.outs.length N,.slice q g.in0.length r,.slice s g.in1.length t] 76)).alloc (.cells #[.int .i64 0,.int .i64 0] 23)).alloc (.cells #[.int .i64 0,.int .i64 0] 23)).heap[w.heap.size]? =some (.cells #[.slice K g.nodes.length L,.slice M g.outs.length N,.slice q g.in0.length r,.slice s g.in1.length t] 76) from zb6 _ _ (heap_alloc_new w _));have aV:=Z (show (((w.alloc (.cells #[.slice K g.nodes.length L,.slice M g.outs.length N,.slice q g.in0.length r,.slice s g.in1.length t] 76)).alloc (.cells #[.int .i64 0,.int .i64 0] 23)).alloc (.cells #[.int .i64 0,.int .i64 0] 23)).heap[w.heap.size+1]? =some (.cells #[.int .i64 0,.int .i64 0] 23) from QH _ (heap_alloc2_new w _ _));have aW:=Z (show (((w.alloc (.cells #[.slice K g.nodes.length L,.slice M g.outs.length N,.slice q g.in0.length r,.slice s g.in1.length t] 76)).alloc (.cells #[.int .i64 0,.int .i64 0] 23)).alloc (.cells #[.int .i64 0,.int .i64 0] 23)).heap[w.heap.size+1+1]? =some (.cells #[.int .i64 0,.int .i64 0] 23) by
  have:=heap_alloc_new ((w.alloc (.cells #[.slice K g.nodes.length L,.slice M g.outs.length N,.slice q g.in0.length r,.slice s g.in1.length t] 76)).alloc (.cells #[.int .i64 0,.int .i64 0] 23)) (.cells #[.int .i64 0,.int .i64 0] 23);simpa only [World.size_alloc] using this)
 have aK:(((w.alloc (.cells #[.slice K g.nodes.length L,.slice M g.outs.length N,.slice q g.in0.length r,.slice s g.in1.length t] 76)).alloc (.cells #[.int .i64 0,.int .i64 0] 23)).alloc (.cells #[.int .i64 0,.int .i64 0] 23)).heap.size=w.heap.size+3:=by simp
 have au:=Z aK;clear ab aH P aK;go_enter func77,ntmps77;go_wp2_with (go_at_call 72;refine aT.mono ?_;rintro O bf ⟨rfl,u⟩;have aL:=Z (aJ.trans (u.mono aJ.size));have aM:=Z ((u.block w.heap.size (by have:=au.out;omega)).trans aU);have aN:=Z ((u.block (w.heap.size+1) (by have:=au.out;omega)).trans aV);have aO:=Z ((u.block (w.heap.size+1+1) (by have:=au.out;omega)).trans aW);clear u);go_loopg [11] 2 (fun ad ae wr=>∃v:Nat,v≤2∧ad=2-v∧ae= .int .i64 v∧Hid (Below w.heap.size w wr)∧Hid (wr.heap[w.heap.size]? =some (.cells #[.slice K g.nodes.length L,.slice M g.outs.length N,.slice q g.in0.length r,.slice s g.in1.length t] 76 (0,0)))∧Hid (wr.heap[w.heap.size+1]? =some (.cells #[.int .i64 0,.int .i64 0] 23 (0,0)))∧Hid (wr.heap[w.heap.size+1+1]? =some (.cells #[.int .i64 (if 1≤v then Y8 g.in0 else 0),.int .i64 (if 2≤v then Y8 g.in1 else 0)] 23 (0,0))))
 case atStart=>exact ⟨0,by omega,rfl,rfl,aL,aM,aN,aO⟩
 case round=>
  obtain ⟨v,bg,bh,rfl,af,aq,ac,ar⟩:=hrel;rename World=>wr
  clear aL aM aN aO;have aP:=qd aq;have aQ:=qd ac;have bi:=qd ar;obtain ⟨⟨bj,k1,k2,k3⟩,-⟩:=zqo aq;have n:=ar.out
  by_cases aR:v=0
  ·subst aR
   rw [if_neg (by omega),if_neg (by omega)] at n;have Q:=Z n;clear n ar;obtain ⟨R,ag,S⟩:=(aI.in0.later af);have av:=S.length;have aw:=Z S;have ah:=Z ag;clear ag S;go_wp2_with fail;go_loopg [19] g.in0.length (fun ad ae j=>∃b:Nat,b≤g.in0.length∧ad=g.in0.length-b∧ae= .int .i64 b∧Hid (wr.grownBy j (some (w.heap.size+1+1)))∧Hid (j.heap[w.heap.size+1+1]? =some (.cells #[.int .i64 (Y8 (g.in0.take b)),.int .i64 0] 23 (0,0))))
   case atStart=>exact ⟨0,Nat.zero_le _,rfl,rfl,Z (World.grownBy.refl _ _),Q⟩
   case round=>
    obtain ⟨b,aX,aY,rfl,i,T⟩:=hrel;rename World=>j
    have aZ:=i.size
    by_cases ai:b<g.in0.length
    ·have U:b<R.length:=by omega
     obtain ⟨x,ax,aj,-,a0,ak,al,-,-⟩:=zm ah b U;obtain ⟨rfl,rfl⟩:q=some ⟨x,0,none⟩∧r=ax:=by simpa [av] using aj
     have y:=aw.get b U ai;have z:=zgA (g.in0.take b);rw [List.length_take] at z;have C:=ZF g.in0[b];have o:Y8 (g.in0.take (b+1))=Y8 (g.in0.take b)+qN g.in0[b]:=by rw [List.take_add_one,List.getElem?_eq_getElem ai];exact zc7 _ _
     have p:=qp y i (Off.block Q (by decide));have V:wr.cell? ⟨x,b,none⟩=some R[b]:=by rw [al];simp [U]
     have a1:x≠w.heap.size+1+1:=fun O=>yz ah Q (by decide) (ak.trans (by rw [O]))
     have ay:=i.cell (a:=⟨x,b,none⟩) V (by simp;omega);obtain ⟨k,W⟩:∃k,Y8 (g.in0.take b)=k:=⟨_,rfl⟩;rw [W] at o z;have f:=T.out;rw [W] at f;generalize g.in0[b]=d at y C o p;generalize R[b]=a2 at V ay y p;obtain ⟨H,I,rfl,-,-⟩:=qg p;have am:=Z p;have an:=Z f;have ao:=Z o;obtain ⟨a3,a4⟩:=yL f;have a5:=frz f 0;have a6:=qd f;have a7:(0:Int)≤(b:Int):=by omega
     have a8:(b:Int)<(g.in0.length:Int):=by omega
     have a9:0≤k:=z.1;have ba:k≤1000:=by omega
     have P:=C.1;have u:=C.2;have X:=fun (m:World) (az:Arr m.heap.size m 1 (.slice H d.length I) d.length (ints d))=>zB (.slice H d.length I) d m az
     obtain ⟨J,Y⟩:∃J,qN d=J:=⟨_,rfl⟩;rw [Y] at P u o X;have ap:=Z Y;clear W o C z y p V Y aj ak al f T;go_upto_region 10 with fail;refine rg (fun _=>True) trivial (fun l=> ?_);refine tk 0 ?_;refine tk 1 ?_;refine tk 3 ?_;refine rd2 2 4 (fun e c=> ?_) (fun e c=> ?_)
     ·skip
      go_simp;refine c _ _ trivial (fun l=>nx ?_);clear c e;refine rd1 4 (fun e c=> ?_)
      (go_simp;go_at_call 34;refine (X _ (Arr.of_owns (show j.drew.ownsRow 0 3 1 (.slice H d.length I) d.length (ints d) from qk am (Nat.zero_le _)))).mono ?_;rintro O aA ⟨rfl,rfl⟩;(try dsimp only))
      refine c _ _ trivial (fun l=>nx ?_);clear c e;refine tk 5 ?_;refine tk 6 ?_;refine rd1 7 (fun e c=> ?_);go_simp;refine c _ _ trivial (fun l=>nx ?_);clear c e;refine dn ?_;go_wp2_with fail;go_roundg (g.in0.length-(b+1))
      case measure=>omega
      case rel=>exact ⟨b+1,by omega,rfl,by go_num,Z ((YQ i).trans (qh _ _ _ _)),Z (by have aa:=heap_setCell (j:=0) (show j.drew.heap[w.heap.size+1+1]? =_ from an) (.int .i64 (k+J));rw [ao.out,ap.out];exact aa)⟩
     ·skip
      (go_simp;go_at_call 34;refine (X _ (Arr.of_owns (show j.drew.ownsRow 0 3 1 (.slice H d.length I) d.length (ints d) from qk am (Nat.zero_le _)))).mono ?_;rintro O aA ⟨rfl,rfl⟩;(try dsimp only))
      refine c _ _ trivial (fun l=>nx ?_);clear c e;refine rd1 2 (fun e c=> ?_);go_simp;refine c _ _ trivial (fun l=>nx ?_);clear c e;refine tk 5 ?_;refine tk 6 ?_;refine rd1 7 (fun e c=> ?_);go_simp;refine c _ _ trivial (fun l=>nx ?_);clear c e;refine dn ?_;go_wp2_with fail;go_roundg (g.in0.length-(b+1))
      case measure=>omega
      case rel=>exact ⟨b+1,by omega,rfl,by go_num,Z ((YQ i).trans (qh _ _ _ _)),Z (by have aa:=heap_setCell (j:=0) (show j.drew.heap[w.heap.size+1+1]? =_ from an) (.int .i64 (k+J));rw [ao.out,ap.out];exact aa)⟩
    ·obtain rfl:b=g.in0.length:=by omega
     have f:=T.out;rw [List.take_length] at f;have aB:=Z f;clear f;go_wp2_with fail;go_roundg 1
     case measure=>omega
     case rel=>exact ⟨1,by omega,rfl,by go_num,Z (af.grown i (by omega) (fun aC aD=>by obtain rfl:w.heap.size+1+1=aC:=(by simpa using aD);omega)),Z ((i.block _ aP (by simp;omega)).trans aq),Z ((i.block _ aQ (by simp)).trans ac),Z (by have:=aB.out;simpa using this)⟩
  ·by_cases aS:v=1
   ·subst aS
    rw [if_pos (by omega),if_neg (by omega)] at n;obtain ⟨aE,aF⟩:∃aE,Y8 g.in0=aE:=⟨_,rfl⟩;rw [aF] at n;have bb:=Z aF;clear aF;have Q:=Z n;clear n ar;obtain ⟨R,ag,S⟩:=(aI.in1.later af);have av:=S.length;have aw:=Z S;have ah:=Z ag;clear ag S;go_wp2_with fail;go_loopg [19] g.in1.length (fun ad ae j=>∃b:Nat,b≤g.in1.length∧ad=g.in1.length-b∧ae= .int .i64 b∧Hid (wr.grownBy j (some (w.heap.size+1+1)))∧Hid (j.heap[w.heap.size+1+1]? =some (.cells #[.int .i64 aE,.int .i64 (Y8 (g.in1.take b))] 23 (0,0))))
    case atStart=>exact ⟨0,Nat.zero_le _,rfl,rfl,Z (World.grownBy.refl _ _),Q⟩
    case round=>
     obtain ⟨b,aX,aY,rfl,i,T⟩:=hrel;rename World=>j
     have aZ:=i.size
     by_cases ai:b<g.in1.length
     ·have U:b<R.length:=by omega
      obtain ⟨x,ax,aj,-,a0,ak,al,-,-⟩:=zm ah b U;obtain ⟨rfl,rfl⟩:s=some ⟨x,0,none⟩∧t=ax:=by simpa [av] using aj
      have y:=aw.get b U ai;have z:=zgA (g.in1.take b);rw [List.length_take] at z;have C:=ZF g.in1[b];have o:Y8 (g.in1.take (b+1))=Y8 (g.in1.take b)+qN g.in1[b]:=by rw [List.take_add_one,List.getElem?_eq_getElem ai];exact zc7 _ _
      have p:=qp y i (Off.block Q (by decide));have V:wr.cell? ⟨x,b,none⟩=some R[b]:=by rw [al];simp [U]
      have a1:x≠w.heap.size+1+1:=fun O=>yz ah Q (by decide) (ak.trans (by rw [O]))
      have ay:=i.cell (a:=⟨x,b,none⟩) V (by simp;omega);obtain ⟨k,W⟩:∃k,Y8 (g.in1.take b)=k:=⟨_,rfl⟩;rw [W] at o z;have f:=T.out;rw [W] at f;generalize g.in1[b]=d at y C o p;generalize R[b]=a2 at V ay y p;obtain ⟨H,I,rfl,-,-⟩:=qg p;have am:=Z p;have an:=Z f;have ao:=Z o;obtain ⟨a3,a4⟩:=yL f;have a5:=frz f 1;have a6:=qd f;have a7:(0:Int)≤(b:Int):=by omega
      have a8:(b:Int)<(g.in1.length:Int):=by omega
      have a9:0≤k:=z.1;have ba:k≤1000:=by omega
      have P:=C.1;have u:=C.2;have X:=fun (m:World) (az:Arr m.heap.size m 1 (.slice H d.length I) d.length (ints d))=>zB (.slice H d.length I) d m az
      obtain ⟨J,Y⟩:∃J,qN d=J:=⟨_,rfl⟩;rw [Y] at P u o X;have ap:=Z Y;clear W o C z y p V Y aj ak al f T;go_upto_region 10 with fail;refine rg (fun _=>True) trivial (fun l=> ?_);refine tk 0 ?_;refine tk 1 ?_;refine tk 3 ?_;refine rd2 2 4 (fun e c=> ?_) (fun e c=> ?_)
      ·skip
       go_simp;refine c _ _ trivial (fun l=>nx ?_);clear c e;refine rd1 4 (fun e c=> ?_)
       (go_simp;go_at_call 34;refine (X _ (Arr.of_owns (show j.drew.ownsRow 0 3 1 (.slice H d.length I) d.length (ints d) from qk am (Nat.zero_le _)))).mono ?_;rintro O aA ⟨rfl,rfl⟩;(try dsimp only))
       refine c _ _ trivial (fun l=>nx ?_);clear c e;refine tk 5 ?_;refine tk 6 ?_;refine rd1 7 (fun e c=> ?_);go_simp;refine c _ _ trivial (fun l=>nx ?_);clear c e;refine dn ?_;go_wp2_with fail;go_roundg (g.in1.length-(b+1))
       case measure=>omega
       case rel=>exact ⟨b+1,by omega,rfl,by go_num,Z ((YQ i).trans (qh _ _ _ _)),Z (by have aa:=heap_setCell (j:=1) (show j.drew.heap[w.heap.size+1+1]? =_ from an) (.int .i64 (k+J));rw [ao.out,ap.out];exact aa)⟩
      ·skip
       (go_simp;go_at_call 34;refine (X _ (Arr.of_owns (show j.drew.ownsRow 0 3 1 (.slice H d.length I) d.length (ints d) from qk am (Nat.zero_le _)))).mono ?_;rintro O aA ⟨rfl,rfl⟩;(try dsimp only))
       refine c _ _ trivial (fun l=>nx ?_);clear c e;refine rd1 2 (fun e c=> ?_);go_simp;refine c _ _ trivial (fun l=>nx ?_);clear c e;refine tk 5 ?_;refine tk 6 ?_;refine rd1 7 (fun e c=> ?_);go_simp;refine c _ _ trivial (fun l=>nx ?_);clear c e;refine dn ?_;go_wp2_with fail;go_roundg (g.in1.length-(b+1))
       case measure=>omega
       case rel=>exact ⟨b+1,by omega,rfl,by go_num,Z ((YQ i).trans (qh _ _ _ _)),Z (by have aa:=heap_setCell (j:=1) (show j.drew.heap[w.heap.size+1+1]? =_ from an) (.int .i64 (k+J));rw [ao.out,ap.out];exact aa)⟩
     ·obtain rfl:b=g.in1.length:=by omega
      have f:=T.out;rw [List.take_length] at f;have aB:=Z f;clear f;go_wp2_with fail;go_roundg 0
      case measure=>omega
      case rel=>exact ⟨2,by omega,rfl,by go_num,Z (af.grown i (by omega) (fun aC aD=>by obtain rfl:w.heap.size+1+1=aC:=(by simpa using aD);omega)),Z ((i.block _ aP (by simp;omega)).trans aq),Z ((i.block _ aQ (by simp)).trans ac),Z (by have:=aB.out;rw [←bb.out] at this;simpa using this)⟩
   ·obtain rfl:v=2:=by omega
    rw [if_pos (by omega),if_pos (by omega)] at n;have bk:=Z n;obtain ⟨bl,bm⟩:=yL n;obtain ⟨bn,bo⟩:=yL ac;have aG:=frz ac;have bp:=aG 0;have bq:=aG 1;clear aR aS n aG;go_wp2_with fail;have bc:=heap_setCell (j:=0) ac (.int .i64 (Y8 g.in0));have bd:=heap_setCell (j:=1) bc (.int .i64 (Y8 g.in1));exact bodyPost_ret (results_cell_row rfl _ _ (w.heap.size+1) 23 #[_,_] _ _ rfl bd underlying23 rfl zk6) rfl ⟨rfl,(af.setCell (p:=⟨w.heap.size+1,0,none⟩) (Nat.le_succ _) _).setCell (p:=⟨w.heap.size+1,1,none⟩) (Nat.le_succ _) _⟩
end Go.Proofs.YtklofgfkaaoipaaGreatDoor

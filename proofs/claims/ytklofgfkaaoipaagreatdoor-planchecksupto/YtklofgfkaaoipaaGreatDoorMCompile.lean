/-
  THE CONTRACT of plan.Compile at the document's example, in the setting of zeros.
-/
import Derived.Test.YtklofgfkaaoipaaGreatDoorMMakeW
import Derived.Test.YtklofgfkaaoipaaGreatDoorMParB
import Derived.Test.YtklofgfkaaoipaaGreatDoorMRefSame1
import Derived.Test.YtklofgfkaaoipaaGreatDoorMPlanCheck
import Derived.Test.YtklofgfkaaoipaaGreatDoorMLawOwn
import Derived.Test.YtklofgfkaaoipaaGreatDoorMRefGood
import Derived.Test.YtklofgfkaaoipaaGreatDoorMCheckNo
import Derived.Test.YtklofgfkaaoipaaGreatDoorMFaultCode
import Derived.Test.YtklofgfkaaoipaaGreatDoorMGate
import Derived.Test.YtklofgfkaaoipaaGreatDoorMHd
set_option maxHeartbeats 16000000
set_option maxRecDepth 100000
set_option linter.unusedSimpArgs false
set_option linter.unusedVariables false
namespace Go.Proofs.YtklofgfkaaoipaaGreatDoor
open Go.RowKit Go.Proofs.Tryz
variable {B A:Nat}{W w h:World}{p C:MPlan}{v u x:PVals}
def zqd:List Nat:=[105,110,112,117,116,32,48,32,120,32,91,93,59,32,105,110,112,117,116,32,49,32,121,32,91,93,59,32,108,101,116,32,122,32,61,32,120,32,42,32,121,59,32,111,117,116,112,117,116,32,122,59]
def zi5:ByteArray:={data:=#[105,110,112,117,116,32,48,32,120,32,91,93,59,32,105,110,112,117,116,32,49,32,121,32,91,93,59,32,108,101,116,32,122,32,61,32,120,32,42,32,121,59,32,111,117,116,112,117,116,32,122,59]}
def zbW:List MStmt:=[⟨1,0, [120], [],0,0⟩,⟨1,1, [121], [],0,14⟩,⟨2,0, [122], [],2,28⟩,⟨3,0, [122], [],0,43⟩]
def zdY:List MExpr:=[⟨2, [120],0, [],36⟩,⟨2, [121],0, [],40⟩,⟨6, [],0, [0,1],38⟩]
theorem zn7:qF zi5=zqd:=by kernel_rfl
theorem zmE:zh0 zqd= .ok (zbW,zdY):=by kernel_rfl
theorem zmD:zeh zbW zdY= .ok exG:=by kernel_rfl
theorem zqs {g h:Value}{c:List MStmt}{a:List MExpr}(k:zd2 B W g h c a)(l:∀i∈c,(∀d∈i.name,d<256)∧i.name.length≤10000)(m:∀b∈a,(∀d∈b.name,d<256)∧b.name.length≤10000)(n:∀b∈a,b.kind≠7∧b.kind≠14)(o:a.length≤1000)(p:c.length≤900):
  ∃e f,TrAt W.heap.size W g h c a e f:=by
 obtain ⟨e,f,q,r,j,s⟩:=k;refine ⟨e,f,Arr.of_owns q,j.base (Nat.zero_le _),zgN j,Arr.of_owns r,?_,l,m,n,o,p⟩;have:=s.nest;rw [List.map_map] at this;exact this
theorem zoJ (a:PlanOwn B W p v):v.ops.oneCell'=true∧v.slots.oneCell'=true∧v.shapes.oneCell'=true∧v.in0.oneCell'=true∧v.in1.oneCell'=true:=by
 obtain ⟨g,h,i,j,k⟩:=v;obtain ⟨_,_,b,_⟩:=qg a.ops;obtain ⟨_,_,c,_⟩:=qg a.slots;obtain ⟨_,_,d⟩:=a.shapes.form;obtain ⟨_,_,e⟩:=a.in0.form;obtain ⟨_,_,f⟩:=a.in1.form;simp only at b c d e f;subst b c d e f;exact ⟨rfl,rfl,rfl,rfl,rfl⟩
theorem zaj (c:PlanOwn B W p v):∀a∈(qn p v).toList,a.oneCell'=true:=by
 obtain ⟨d,e,f,g,h⟩:=zoJ c;intro a b;simp only [qn,List.mem_cons,List.not_mem_nil,or_false] at b;rcases b with rfl | rfl | rfl | rfl | rfl | rfl | rfl | rfl | rfl | rfl | rfl | rfl | rfl | rfl | rfl | rfl
 all_goals first | rfl | assumption
theorem zmC:∀a b,∀c:a<zbW.length,∀d:b<a,zbW[a].kind=3→zbW[b].kind≠3:=by
 intro a b c d;have e:a<4:=c;obtain rfl | rfl | rfl | rfl:a=0∨a=1∨a=2∨a=3:=by omega
 ·omega
 ·obtain rfl:b=0:=by omega
  exact fun _=>(show (1:Nat)≠3 by decide)
 ·obtain rfl | rfl:b=0∨b=1:=by omega
  all_goals exact fun _=>(show (1:Nat)≠3 by decide)
 ·obtain rfl | rfl | rfl:b=0∨b=1∨b=2:=by omega
  ·exact fun _=>(show (1:Nat)≠3 by decide)
  ·exact fun _=>(show (1:Nat)≠3 by decide)
  ·exact fun _=>(show (2:Nat)≠3 by decide)
theorem zn9:∀a∈zbW,a.kind=1→(a.party=0∨a.party=1)∧a.shape.length≤2:=by
 intro a b;simp [zbW] at b;rcases b with rfl | rfl | rfl | rfl<;>decide
theorem ziT (w:World)(x:yC w)(O:YP w):Calls prog 10 #[.string zi5,.agg #[.bool false,.bool false,.bool false,.int .i64 0]] w fun o P=>∃Q,o= .returned (.tuple #[.agg (qn exP Q),.nilIface])∧PlanOwn w.heap.size P exP Q∧Below w.heap.size w P:=by
 have y:=Z x;have an:=Z O;have aI:0<w.heap.size:=zaz x;have c:=Z (qm w (.cells #[.bool false,.bool false,.bool false,.int .i64 0] 45) (.cells zp 30));have R:=Z (heap_alloc2_old w (.cells #[.bool false,.bool false,.bool false,.int .i64 0] 45) (.cells zp 30));have S:=Z (heap_alloc2_new w (.cells #[.bool false,.bool false,.bool false,.int .i64 0] 45) (.cells zp 30));have T:=Z (fun (U:World) (V:Below w.heap.size w U)=>znH zi5 U (y.below V) (an.below V));rw [zn7,zmE] at T;clear x O;go_enter func10,ntmps10;go_upto_region 4 with (go_at_call 31;go_loud (refine (T _ c).mono ?_;rintro o d ⟨p,aJ,aK,rfl,ao⟩;obtain ⟨ap,aq,e,f,g,h⟩:=ao;dsimp only at e f g h;obtain ⟨q,r,rfl,-,-⟩:=qg e;obtain ⟨s,t,rfl,-,-⟩:=qg f;have ar:=Z (show zd2 w.heap.size d _ _ zbW zdY from ⟨ap,aq,qk e c.size,qk f c.size,g.base c.size,h.base c.size⟩);have W:=Z ((p.block w.heap.size (qd R)).trans R);have X:=Z ((p.block (w.heap.size+1) (qd S)).trans S);have Y:=Z (c.trans (p.mono c.size));clear p e f g h));have b:=Z (show Below d.heap.size d (d.alloc (.cells #[.slice q zbW.length r,.slice s zdY.length t] 71)) from (Below.refl _ _).alloc (Nat.le_refl _) _);have u:=(b.block w.heap.size (qd W)).trans W;have z:=Z ((b.block (w.heap.size+1) (qd X)).trans X);have k:=Z (Y.trans (b.mono Y.size));have A:=Z (heap_alloc_new d (.cells #[.slice q zbW.length r,.slice s zdY.length t] 71));obtain ⟨au,av,e,f,g,h⟩:=ar.out;have aa:=Z (show zd2 w.heap.size _ (.slice q zbW.length r) (.slice s zdY.length t) zbW zdY from ⟨au,av,Below.owns e b,Below.owns f b,g.later b,h.later b⟩);generalize d.alloc (.cells #[.slice q zbW.length r,.slice s zdY.length t] 71)=aw at u z k A aa b ⊢;obtain ⟨ab,ac⟩:∃ab,d.heap.size=ab:=⟨_,rfl⟩;rw [ac] at A ⊢;obtain ⟨ax,ay⟩:=yL A;obtain ⟨ad,k1,k2,k3⟩:=QK u;have ae:=Z u;obtain ⟨az,aA,af⟩:=zqs aa (by intro B a;simp [zbW] at a;rcases a with rfl | rfl | rfl | rfl<;>decide) (by intro B a;simp [zdY] at a;rcases a with rfl | rfl | rfl<;>decide) (by intro B a;simp [zdY] at a;rcases a with rfl | rfl | rfl<;>decide) (by decide) (by decide);have aB:=Z (zkO _ _ zbW zdY az aA aw af (y.below k) (by have:=k.size;omega) (by decide) exG zmD (by intro B a;simp [zdY] at a;rcases a with rfl | rfl | rfl<;>decide) zmC zn9);clear u e f g h ac af;go_upto_region 7 with (go_at_call 32;refine aB.mono ?_;rintro o l ⟨aL,go,aM,aN,aO,aP,rfl,i,v⟩;obtain ⟨C,D,rfl,-,-⟩:=qg i.nodes;obtain ⟨E,F,rfl,-,-⟩:=qg i.outs;obtain ⟨G,H,rfl⟩:=i.in0.form;obtain ⟨I,J,rfl⟩:=i.in1.form;have aC:=Z i;have ag:=Z ((v.block w.heap.size (qd ae)).trans ae);have ah:=Z ((v.block (w.heap.size+1) (qd z)).trans z);have ai:=Z (k.trans (v.mono k.size));clear v i);have m:=Z (show Below l.heap.size l (l.alloc (.cells #[.slice C exG.nodes.length D,.slice E exG.outs.length F,.slice G exG.in0.length H,.slice I exG.in1.length J] 76)) from (Below.refl _ _).alloc (Nat.le_refl _) _);have K:=(m.block w.heap.size (qd ag)).trans ag;have L:=Z ((m.block (w.heap.size+1) (qd ah)).trans ah);have j:=Z (ai.trans (m.mono ai.size));have aj:=Z (heap_alloc_new l (.cells #[.slice C exG.nodes.length D,.slice E exG.outs.length F,.slice G exG.in0.length H,.slice I exG.in1.length J] 76));have ak:=Z (aC.later m);generalize l.alloc (.cells #[.slice C exG.nodes.length D,.slice E exG.outs.length F,.slice G exG.in0.length H,.slice I exG.in1.length J] 76)=aD at K L j aj ak m ⊢;clear ad k1 k2 k3 ax ay;obtain ⟨aQ,aR,aS,aT⟩:=QK aj;obtain ⟨ad,k1,k2,k3⟩:=QK K;have aE:=Z (zou aD ak (y.below j) (by have:=j.size;omega));clear K;go_wp2_with (first | ((with_reducible show wpList _ _ _ (⟨_,Op.store 30 (.tmp 4) _,_,_,_,_⟩::_) _ _);go_must (refine wpList_store_row rfl 30 _ _ rfl (w.heap.size+1) (qn exP M) rfl rfl 30 _ n yQ rfl (by rw [Array.all_eq_true_iff_forall_mem];exact fun aF aG=>zaj al aF (by simpa using aG)) ?_)) | (go_at_call 33;refine aE.mono ?_;rintro o aU ⟨M,rfl,am,N⟩;have al:=Z am;have n:=Z ((N.block (w.heap.size+1) (qd L)).trans L);have aH:=Z (j.trans (N.mono j.size));clear N am));refine bodyPost_ret (ql rfl _ _ (w.heap.size+1) 30 (qn exP M) _ _ rfl (setRow_heap _ _ _ _ _ _ n) underlying30 rfl yQ) rfl ?_;exact ⟨M,rfl,(al.base j.size).kept (YE _ _ _) (Off.block n (by decide)) (Off.block n (by decide)) (Off.block n (by decide)),below_setRow aH (Nat.le_succ _) _⟩
theorem zmB:Y9 exP=true:=by kernel_rfl
theorem zpq (a:PlanOwn B W exP v):PlanAt W.heap.size W exP v:=a.at (show 4≤1000000 by decide) (show 1≤1000000000 by decide) (show 1≤1000000000 by decide) (show 1≤1000000000 by decide) zhx
theorem zdr (w:World)(h:yC w)(q:YP w):Calls prog 4 #[] w (qM (.bool true) w):=by
 have D:=Z h;have E:=Z (ziT w h q);clear h q;go_enter func4,ntmps4;go_upto_region 2 with (first | ((with_reducible show wpList _ _ _ (⟨_,Op.store 30 (.tmp 1) _,_,_,_,_⟩::_) _ _);go_must (refine wpList_store_row rfl 30 _ _ rfl a.heap.size (qn exP d) rfl rfl 30 _ (heap_alloc_new a (.cells zp 30)) yQ rfl (by rw [Array.all_eq_true_iff_forall_mem];exact fun F G=>zaj i F (by simpa using G)) ?_)) | (go_at_call 10;go_must (refine E.mono ?_;rintro r a ⟨d,rfl,s,t⟩;have i:=Z s;have j:=Z t;clear s t)));have e:=Z (setRow_heap _ _ _ _ _ _ (heap_alloc_new a (.cells #[.slice none 0 0,.int .i64 0,.int .i64 0,.slice none 0 0,.int .i64 0,.int .i64 0,.int .i64 0,.int .i64 0,.int .i64 0,.int .i64 0,.int .i64 0,.int .i64 0,.int .i64 0,.slice none 0 0,.slice none 0 0,.slice none 0 0] 30)):((a.alloc (.cells #[.slice none 0 0,.int .i64 0,.int .i64 0,.slice none 0 0,.int .i64 0,.int .i64 0,.int .i64 0,.int .i64 0,.int .i64 0,.int .i64 0,.int .i64 0,.int .i64 0,.int .i64 0,.slice none 0 0,.slice none 0 0,.slice none 0 0] 30)).setRow a.heap.size (qn exP d)).heap[a.heap.size]? =_);have k:Below a.heap.size a ((a.alloc (.cells #[.slice none 0 0,.int .i64 0,.int .i64 0,.slice none 0 0,.int .i64 0,.int .i64 0,.int .i64 0,.int .i64 0,.int .i64 0,.int .i64 0,.int .i64 0,.int .i64 0,.int .i64 0,.slice none 0 0,.slice none 0 0,.slice none 0 0] 30)).setRow a.heap.size (qn exP d)):=below_setRow ((Below.refl _ _).alloc (Nat.le_refl _) _) (Nat.le_refl _) _;have l:=Z (j.trans (k.mono j.size));have c:=Z (i.kept (yI k) (Off.none _ _ _) (Off.none _ _ _) (Off.none _ _ _));generalize (a.alloc (.cells #[.slice none 0 0,.int .i64 0,.int .i64 0,.slice none 0 0,.int .i64 0,.int .i64 0,.int .i64 0,.int .i64 0,.int .i64 0,.int .i64 0,.int .i64 0,.int .i64 0,.int .i64 0,.slice none 0 0,.slice none 0 0,.slice none 0 0] 30)).setRow a.heap.size (qn exP d)=b at e l c ⊢;obtain ⟨m,u⟩:∃m,a.heap.size=m:=⟨_,rfl⟩;rw [u] at e ⊢;clear k u i j;obtain ⟨ai,aj,ak,al,am⟩:=d;obtain ⟨an,ao,n,-,-⟩:=qg c.ops;obtain ⟨H,I,o,-,-⟩:=qg c.slots;obtain ⟨ap,aq,v⟩:=c.shapes.form;obtain ⟨ar,au,x⟩:=c.in0.form;obtain ⟨av,aw,y⟩:=c.in1.form;simp only at n o v x y;rw [show exP.ops.length=4 from rfl] at n;rw [show exP.slots.length=4 from rfl] at o;subst n o v x y;obtain ⟨⟨J,K,L,M,N⟩,⟨O,P,c7,Q,R,S,T,U⟩,V,W,X⟩:=qv e;have Y:=qd e;have aa:=Z (show Arr (b.alloc (.cells #[.int .i64 0,.int .i64 1,.int .i64 0,.int .i64 0] 3)).heap.size (b.alloc (.cells #[.int .i64 0,.int .i64 1,.int .i64 0,.int .i64 0] 3)) 1 (.slice (some ⟨b.heap.size,0,none⟩) 4 4) ([0,1,0,0]:List Int).length (ints [0,1,0,0]) from
  ⟨_,_,rfl,Nat.le_refl _,by unfold maxLen;decide,fun ab=>by (cases ab),rfl,.inr ⟨b.heap.size,0,rfl,by simp,fun f ac=>by
   have ad:=heap_alloc_new b (.cells #[.int .i64 0,.int .i64 1,.int .i64 0,.int .i64 0] 3);simp only [World.cell?,ad];obtain rfl | rfl | rfl | rfl:f=0∨f=1∨f=2∨f=3:=by simp at ac;omega
   all_goals rfl⟩⟩)
 have z:=Z ((Below.refl b.heap.size b).alloc (Nat.le_refl _) (.cells #[.int .i64 0,.int .i64 1,.int .i64 0,.int .i64 0] 3));have A:=Z (zdG (.slice H 4 I) (.slice (some ⟨b.heap.size,0,none⟩) 4 4) [0,1,0,0] [0,1,0,0] _ (Arr.of_owns (Below.owns c.slots z)) aa);rw [show decide (([0,1,0,0]:List Int)=[0,1,0,0])=true by decide] at A;go_wp2_with (first | (go_at_call 6;go_must (refine (zbI exP _ _ (zpq ae) (D.below p) zmB).mono ?_;rintro r ax ⟨rfl,B⟩;have af:=Z (p.trans (B.mono p.size));clear B)) | (go_at_call 11;go_must (refine A.mono ?_;rintro r ag ⟨rfl,ah,C⟩;have g:Below b.heap.size b ag:=(by rw [C];exact qC z ah);have ae:=Z (c.kept (yI g) (Off.none _ _ _) (Off.none _ _ _) (Off.none _ _ _));have p:=Z (l.trans (g.mono l.size));obtain ⟨⟨ay,az,aA,aB,aC⟩,⟨aD,aE,aF,aG,aH,aI,aJ,aK⟩,aL,aM,aN⟩:=qv ((g.block m Y).trans e);clear g C J K L M N O P c7 Q R S T U V W X)));go_ret;exact ⟨rfl,af⟩
theorem zht (l:List (List Int)):yW (yW l)=yW l:=by
 simp only [yW,←List.map_take,List.take_take,List.map_map,Nat.min_self]
 congr 1
 funext a
 simp [List.take_take]
theorem zbz (p:MPlan):qR (qR p)=qR p:=by
 simp [qR,zht,List.take_take]
theorem ziW (b:∀a∈p.ops,a.c<18446744073709551616):∀a∈(qR p).ops,a.c<18446744073709551616:=fun a c=>b a (List.mem_of_mem_take c)
theorem zcZ (l:List (List Int)):(yW l).length≤100:=by simp [yW];omega
theorem zgU (a:PlanOwn B W (qR p) u)(b:∀c∈p.ops,c.c<18446744073709551616):PlanAt W.heap.size W (qR p) u:=
 a.at (by simp [qR];omega) (by have:=zcZ p.shapes;show (yW p.shapes).length≤_;omega) (by have:=zcZ p.in0;show (yW p.in0).length≤_;omega) (by have:=zcZ p.in1;show (yW p.in1).length≤_;omega) (ziW b)
theorem zni (a:PlanOwn B W p u)(b:∀c∈p.ops,c.c<18446744073709551616):PlanIn W.heap.size W p u:=
 ⟨Arr.of_owns a.ops,Arr.of_owns a.slots,a.shapes.sh,a.in0.sh,a.in1.sh,b⟩
theorem zfv {z:Array Value}(w:World)(a:Array Value):Below w.heap.size w ((w.alloc (.cells z 30)).setRow w.heap.size a):=below_setRow ((Below.refl _ _).alloc (Nat.le_refl _) _) (Nat.le_refl _) _
structure One (w:World)(C:MPlan)(u:PVals)(W:World):Prop where
 bp:W.heap[w.heap.size]? =some (.cells (qn C u) 30 (0,0))
 below:Below w.heap.size w W
 pu:PlanAt W.heap.size W C u
theorem One.later (a:One w C u W)(b:Below W.heap.size W h):One w C u h:=
 ⟨(b.block _ (lt_of_block a.bp)).trans a.bp,a.below.trans (b.mono a.below.size),a.pu.later b b.size⟩
abbrev PC (W:World)(B:Nat)(p:MPlan)(v:PVals):Prop:=
  (W.cell? ⟨B,0,none⟩=some v.ops∧W.cell? ⟨B,1,none⟩=some (.int .i64 p.e0)∧W.cell? ⟨B,2,none⟩=some (.int .i64 p.e1)∧W.cell? ⟨B,3,none⟩=some v.slots∧W.cell? ⟨B,4,none⟩=some (.int .i64 p.arena))∧
  (W.cell? ⟨B,5,none⟩=some (.int .i64 p.need.tri)∧W.cell? ⟨B,6,none⟩=some (.int .i64 p.need.bits)∧W.cell? ⟨B,7,none⟩=some (.int .i64 p.need.ots)∧W.cell? ⟨B,8,none⟩=some (.int .i64 p.need.t0)∧
  W.cell? ⟨B,9,none⟩=some (.int .i64 p.need.t1)∧W.cell? ⟨B,10,none⟩=some (.int .i64 p.need.rounds)∧W.cell? ⟨B,11,none⟩=some (.int .i64 p.need.w0)∧W.cell? ⟨B,12,none⟩=some (.int .i64 p.need.w1))∧
  (W.cell? ⟨B,13,none⟩=some v.shapes∧W.cell? ⟨B,14,none⟩=some v.in0∧W.cell? ⟨B,15,none⟩=some v.in1)
structure Pair (w:World)(Bq:Nat)(C:MPlan)(u x:PVals)(W:World):Prop where
 bp:W.heap[w.heap.size]? =some (.cells (qn C u) 30 (0,0))
 bq:W.heap[Bq]? =some (.cells (qn C x) 30 (0,0))
 below:Below w.heap.size w W
 pu:PlanAt W.heap.size W C u
 px:PlanAt W.heap.size W C x
theorem Pair.later (a:Pair w A C u x W)(b:Below W.heap.size W h):Pair w A C u x h:=
 ⟨(b.block _ (qd a.bp)).trans a.bp,(b.block _ (qd a.bq)).trans a.bq,a.below.trans (b.mono a.below.size),a.pu.later b b.size,a.px.later b b.size⟩
theorem Pair.pc (a:Pair w A C u x W):PC W w.heap.size C u∧PC W A C x:=⟨qv a.bp,qv a.bq⟩
end Go.Proofs.YtklofgfkaaoipaaGreatDoor

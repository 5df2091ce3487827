/-
  PlanChecks returns true and leaves its argument as it was, at every plan whose parts are together of no more than the stated bulk; the condition is not used. The card ties the six listed package-level variables of the pruned copy.
-/
import Derived.Test.YtklofgfkaaoipaaGreatDoorCards
import Derived.Test.YtklofgfkaaoipaaGreatDoorTie
import Derived.Test.YtklofgfkaaoipaaGreatDoorMClosed
import Derived.Test.YtklofgfkaaoipaaGreatDoorMChecks
import Derived.Test.YtklofgfkaaoipaaGreatDoorMHeapLaw
import Derived.WalkKit
import Derived.ProofKit
import Derived.OpenShut
import Derived.LaidHandle
import Derived.Deep.DeepHandedRow
import Derived.Deep.DeepWitnessRowRef
import Derived.Lay
import Derived.LaidLaws
set_option maxHeartbeats 16000000
set_option maxRecDepth 100000
set_option linter.unusedSimpArgs false
set_option linter.unusedVariables false
namespace Go.Proofs.YtklofgfkaaoipaaGreatDoor
open Go.ChangeShapes Go.WideShapes Go.RowKit Go.Proofs.Tryz
variable {H:Type}{W:World}
theorem zmY {enc:TypeId×Value→H}{P:Program}{f:Func}{s:ChangeSpec}{t tb:TypeId}{g:World}{v:Value}{d:DataW H}{p b:List MemPlace}
  (z:f.params=#[t]) (m:f.resultTypes=#[tb]) (n:P.underlying tb=some .bool) (A:laidOutB P=true) (B:P.readableRec t=true) (C:t<P.types.size)
  (D:s.vars=[]) (i:s.fn H [d]={results:=[.lit (.bool true)],args:=[d]})
  (j:DataW.Whole enc P f.params.toList s.vars false W [v] [d] [] b) (E:DataW.Trod enc P W 0 (fun _=>true) true t v d p) (o:b=p++[]) (k:Below W.heap.size W g):
  s.post enc P f false true false false W #[v] (.bool true) g:=by
 have l:∀c∈b,c.block<W.heap.size:=fun c a=>j.lt c a
 rw [List.append_nil] at o;subst o;have q:∀e:Nat→Bool,(∀c∈b,e c.block=true)→DataW.TrodAll enc P g 0 e true f.params.toList [v] (s.fn H [d]).args (b++[]):=fun e F=>by
  rw [z,i];exact trodAll_cons_mk (WideElems.Trod_stays A B C E (fun c a=>k.same (l c a)) F) trodAll_mk0
 have r:∀(h:Nat) (e:Nat→Bool) (u:Bool),DataW.TrodAll enc P g h e u f.resultTypes.toList ((Value.bool true).resultList f.resultTypes.size) (s.fn H [d]).results []:=fun h e u=>by
  rw [m,i];exact trodAll_cons_mk (shut_bool n _) trodAll_mk0
 have w:∀e:Nat→Bool,DataW.TrodVars enc P g e s.vars (s.fn H [d]).vars []:=fun e=>by
  rw [D,i];exact rfl
 refine ⟨[d], [],b, [],b++[], [],j,r _ _ _,q _ (fun c a=>by simpa using l c a),w _,World.keptBut_mono (fun c a=>⟨a,.inr ?_⟩) (k.frame (·∈b)),fun _=> ?_⟩
 ·simpa using a
 ·obtain ⟨_,_,_,_,_,G,J⟩:=j
  refine ⟨ok_one m rfl (okWide_bool_mk n _),_,_,([]++(b++[]))++[],⟨[]++(b++[]), [],trodAll_append (q _ (fun _ _=>rfl)) (r _ _ _),w _,rfl,?_,?_⟩,?_⟩
  ·intro h x a
   have y:MemPlace.cell h x∈b:=by simpa using a
   exact (k.frozen (l _ y)).trans (G h x y)
  ·intro I;cases I
  ·intro c a _
   simpa using a
theorem zgW:ownKnob prog.godebug=none:=by kernel_rfl
theorem zqI:prog.globalNamed "errors.errorType" =some 0:=by kernel_rfl
theorem zqJ:(prog.cutTypes.find? (·.1== "internal/reflectlite.rtype")).map (·.2)=some 201:=by kernel_rfl
theorem zj8:prog.types.size=415:=by kernel_rfl
theorem zlx:((List.range 415).filter fun a=>prog.rowNamed a [101,114,114,111,114])=[34]:=by kernel_rfl
theorem zlb:laidOutB prog=true:=by kernel_rfl
theorem znq:prog.readableRec 30=true:=by kernel_rfl
def zet:List (String×DataW Unit):=[("math/bits.deBruijn32tab",Rows.laid_math_bits_deBruijn32tab),("math/bits.deBruijn64tab",Rows.laid_math_bits_deBruijn64tab),("internal/strconv.uint64pow10",Rows.laid_internal_strconv_uint64pow10),("strconv.ErrRange",Rows.laid_strconv_ErrRange),("strconv.ErrSyntax",Rows.laid_strconv_ErrSyntax)]
theorem zeu (a:laidMetH prog Rows.planChecksUptoRow.laid W):laidMet prog zet W∧handlesMet prog [("errors.errorType",Rows.laid_errors_errorType)] W:=by
 have b:laidMetH prog Rows.planChecksUptoRow.laid W=(laidMet prog zet W∧handlesMet prog [("errors.errorType",Rows.laid_errors_errorType)] W):=by kernel_rfl
 exact b▸a
theorem zgo (d:laidMetH prog Rows.planChecksUptoRow.laid W):yC W:=by
 have e:=zeu d;obtain ⟨f,o,g,h,i,j,k,a⟩:=e.2 _ (List.mem_singleton.2 rfl);have l:f=[101,114,114,111,114]:=(Option.some.inj h).symm;subst l;obtain rfl:=Option.some.inj (zqJ.symm.trans i);have b:g∈(List.range 415).filter fun m=>prog.rowNamed m [101,114,114,111,114]:=List.mem_filter.2 ⟨List.mem_range.2 (by rw [←zj8];exact j),k⟩
 rw [zlx] at b;obtain rfl:=List.mem_singleton.1 b;have n:typeHandle prog 34= .pointer (some ⟨7,34,none⟩):=by kernel_rfl
 rw [n] at a;have c:=World.var?_cell zqI a 0;simp at c;exact c
theorem zkg:prog.globalNamed "strconv.ErrRange" =some 3:=by kernel_rfl
theorem zoV:(prog.globals[3]?).map (·.type)=some 34:=by kernel_rfl
theorem ze6 (c:laidMetH prog Rows.planChecksUptoRow.laid W):YP W:=by
 obtain ⟨⟨o,d,-⟩,-⟩:=zeu c;obtain ⟨-,-,-,-,-,p,-,-,-,-,e,-⟩:=d;obtain ⟨-,-,-,-,-,q,-,-,-,-,f,-⟩:=e;obtain ⟨-,-,-,-,-,r,-,-,-,-,g,-⟩:=f;obtain ⟨s,t,a,u,v,w,h,i,j,k,-,-⟩:=g;obtain rfl:=Option.some.inj (zkg.symm.trans h);obtain rfl:=Option.some.inj (zoV.symm.trans i);obtain ⟨-,l,m,x,-,-⟩:=iface_of_trod underlying34 k;have n:a=#[.iface l m]:=by cases a;simp_all
 subst n;have b:=World.var?_cell zkg j 0;simp at b;exact ⟨_,b,.inr ⟨_,_,rfl⟩⟩
theorem zgV (b:Type)(enc:TypeId×Value→b)(W:World)(base:Nat)(args:Array Value)(c n:List (DataW b))(o:List MemPlace)
  (d:∀(e:Nat) t a,Tryz.f3.params[e]? =some t→args[e]? =some a→Value.okWide prog W .any base t a)
  (f:DataW.Whole enc prog Tryz.f3.params.toList Rows.planChecksSpec.vars false W args.toList c n o) (g:laidMetH prog Rows.planChecksUptoRow.laid W):
  Calls prog 3 args W fun h i=>∃a,h= .returned a∧Rows.planChecksSpec.post enc prog Tryz.f3 false true false false W args a i:=by
 have j:=f;obtain ⟨p,z,q,r,rfl,A,B⟩:=f;have k:DataW.TrodAll enc prog W 0 (fun _=>true) true Tryz.f3.params.toList args.toList c p:=q;rw [Tryz.params3] at k d;obtain ⟨l,C,D,E,F,G,H,rfl,rfl,m,s⟩:=trodAll_cons k;obtain ⟨rfl,rfl,rfl⟩:=trodAll_nil s;obtain rfl:args=#[l]:=by cases args;simp_all
 obtain ⟨rfl,rfl⟩:=trodVars_none r;obtain ⟨u,v,rfl,w⟩:=zlF (d 0 _ l rfl rfl) m;refine (zd1 u v W w (zgo g) (ze6 g)).mono fun h i ⟨x,y⟩=> ?_
 subst x;rw [List.append_nil,List.append_nil] at j;exact ⟨_,rfl,zmY (t:=30) (tb:=4) Tryz.params3 rfl underlying4 zlb znq (of_decide_eq_true (by kernel_rfl)) rfl rfl j m (List.append_nil _).symm y⟩
def zgO:Value:= .agg (qn ⟨[],0,0, [],0,⟨0,0,0,0,0,0,0,0⟩, [], [], []⟩ ⟨.slice none 0 0,.slice none 0 0,.slice none 0 0,.slice none 0 0,.slice none 0 0⟩)
noncomputable def zfy (a:Os):World:=(World.holding prog a ⟨#[],#[], []⟩).layVars prog zet
noncomputable def zc8 (a:Os):World:=
 {zfy a with heap:=(zfy a).heap.modify 0 fun
   |.cells _ b c=> .cells #[.iface 201 (.agg #[.pointer (some ⟨7,34,none⟩)])] b c
   |d=>d}
theorem zmW (a:Os):laidMetH prog Rows.planChecksUptoRow.laid ((zc8 a).forCall (fun _ _=>0) ⟨#[],#[zgO], []⟩).memory:=
 laidMetH_of_parts (laidMet_of_run' 20 (by kernel_rfl) (by kernel_rfl)) (by kernel_rfl)
theorem zjR (b:Os)(enc:TypeId×Value→H):∃a c,DataW.whole enc prog ((zc8 b).forCall (fun _ _=>0) ⟨#[],#[zgO], []⟩).memory Tryz.f3.params.toList Rows.planChecksSpec.vars false #[zgO].toList 8=some (a, [],c)∧
  a=[.agg [.nil,.agg [.lit (.int .i64 0),.lit (.int .i64 0)],.nil,.lit (.int .i64 0),.agg [.lit (.int .i64 0),.lit (.int .i64 0),.lit (.int .i64 0),.agg [.lit (.int .i64 0),.lit (.int .i64 0)],.lit (.int .i64 0),.agg [.lit (.int .i64 0),.lit (.int .i64 0)]],.nil,.agg [.nil,.nil]]]:=
 ⟨_, [],by kernel_rfl,rfl⟩
theorem zjN (a:Os)(d:a.Started)(b:Type)(enc:TypeId×Value→b)(e:Stop.Interp):
  ReturnsInHanded {} Tryz.checked a 3 .any ((Rows.OpenSpec.upto Rows.planChecksSpec).preRow enc prog Tryz.f3 Rows.planChecksUptoRow.domain false Rows.planChecksUptoRow.laid) (((Rows.OpenSpec.upto Rows.planChecksSpec).at e).post enc prog Tryz.f3 false true false false):=by
 obtain ⟨c,p,f,rfl⟩:=zjR a enc;refine returnsInHanded_of_row (C:=Tryz.checked) (s:=Rows.OpenSpec.upto Rows.planChecksSpec) zgW d (by kernel_rfl) func3
  (witness_row_at (enc:=enc) (C:=Tryz.checked) false (zc8 a) #[zgO] rfl (by kernel_rfl) (by kernel_rfl) (by kernel_rfl)
   (OpenSpec.preRow_of_cond 8 f (by kernel_rfl) (fun q g=>by cases g;kernel_rfl) (by kernel_rfl) (zmW a))) ?_
 intro h i j c k l m n _ _ _ o _ _;exact zgV b enc h i j c k l m n o
theorem znl:Rows.PlanChecksUptoSaid:=
 OpenClaim.holds_of_cond 3 Tryz.f3 rfl rfl rfl rfl rfl rfl rfl ⟨rfl,rfl,rfl,rfl,rfl⟩ rfl rfl rfl rfl rfl (by kernel_rfl) func3 zgl
  (of_decide_eq_true (by kernel_rfl)) (by unfold Func.isWrapper;first | (rw [if_pos (by decide +kernel)];kernel_rfl) | (rw [if_neg (by decide +kernel)];exact ⟨rfl,rfl⟩))
  (fun a b c d _ e=>by rw [OpenClaim.pre_eq_preRow];exact zjN a b c d e)
theorem zlC (f:FuncId)(b:Func)(e:Tryz.pinned.checked.prog.funcNamed "twain/twainlaw18.PlanChecks" =some f)(g:Tryz.pinned.checked.prog.funcs[f]? =some b):
  true=Tryz.pinned.checked.prog.looks []∧∀(c:Nat) a,b.params[c]? =some a→Tryz.pinned.checked.prog.wantsStandIn a=false:=by
 obtain rfl:f=3:=Option.some.inj ((show prog.funcNamed "twain/twainlaw18.PlanChecks" =some 3 by kernel_rfl).symm.trans e) |>.symm;obtain rfl:b=Tryz.f3:=(Option.some.inj (func3.symm.trans g)).symm;refine ⟨by kernel_rfl,fun c a d=> ?_⟩;rw [Tryz.params3] at d;obtain rfl:a=30:=by simpa using Array.mem_of_getElem? d
 exact (show prog.wantsStandIn 30=false by kernel_rfl)
theorem planChecks_holds:Rows.PlanChecksUptoCardSaid:=
 Claim7.holds_tied_plain_at .later [] _ _ _ _ znl (fun _ a=>by cases a) (by kernel_rfl) (fun _ a=>by cases a) planChecksUpto_row_tie rfl ⟨rfl,rfl⟩ (by kernel_rfl) rfl zlC (by kernel_rfl)
end Go.Proofs.YtklofgfkaaoipaaGreatDoor

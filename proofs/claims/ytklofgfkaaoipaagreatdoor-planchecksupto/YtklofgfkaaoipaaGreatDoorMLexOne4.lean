/-
  THE CONTRACT of lex.one at a number that is not the text's end.
-/
import Derived.Test.YtklofgfkaaoipaaGreatDoorMLexPlain
import Derived.Deep.RegionLaw
import Derived.Test.YtklofgfkaaoipaaGreatDoorMGate
import Derived.Test.YtklofgfkaaoipaaGreatDoorMHd
set_option maxHeartbeats 16000000
set_option maxRecDepth 100000
set_option linter.unusedSimpArgs false
set_option linter.unusedVariables false
namespace Go.Proofs.YtklofgfkaaoipaaGreatDoor
open Go.RowKit Go.Proofs.Tryz
theorem OneSt.later4 {w:World}{a b c d:Value}{W:World}(i:OneSt w [a,b,c,d] W)(e b' f g:Value):
  ((((((W.setCell ⟨w.heap.size,0,none⟩ e).setCell ⟨w.heap.size,1,none⟩ b').setCell ⟨w.heap.size,2,none⟩ f).setCell ⟨w.heap.size,3,none⟩ g).cell? ⟨w.heap.size+1,0,none⟩=some a∧((((W.setCell ⟨w.heap.size,0,none⟩ e).setCell ⟨w.heap.size,1,none⟩ b').setCell ⟨w.heap.size,2,none⟩ f).setCell ⟨w.heap.size,3,none⟩ g).cell? ⟨w.heap.size+1,1,none⟩=some b∧
   ((((W.setCell ⟨w.heap.size,0,none⟩ e).setCell ⟨w.heap.size,1,none⟩ b').setCell ⟨w.heap.size,2,none⟩ f).setCell ⟨w.heap.size,3,none⟩ g).cell? ⟨w.heap.size+1,2,none⟩=some c∧((((W.setCell ⟨w.heap.size,0,none⟩ e).setCell ⟨w.heap.size,1,none⟩ b').setCell ⟨w.heap.size,2,none⟩ f).setCell ⟨w.heap.size,3,none⟩ g).cell? ⟨w.heap.size+1,3,none⟩=some d)):=by
 have h:((((W.setCell ⟨w.heap.size,0,none⟩ e).setCell ⟨w.heap.size,1,none⟩ b').setCell ⟨w.heap.size,2,none⟩ f).setCell ⟨w.heap.size,3,none⟩ g).heap[w.heap.size+1]? =some (.cells [a,b,c,d].toArray 217 (0,0)):=
  (qe (by omega) _).trans ((qe (by omega) _).trans ((qe (by omega) _).trans ((qe (by omega) _).trans i.tok)))
 generalize ((((W.setCell ⟨w.heap.size,0,none⟩ e).setCell ⟨w.heap.size,1,none⟩ b').setCell ⟨w.heap.size,2,none⟩ f).setCell ⟨w.heap.size,3,none⟩ g)=j at h ⊢;refine ⟨?_,?_,?_,?_⟩<;>simp [World.cell?,h]
theorem znb (s:ByteArray)(k n:Nat)(w:World)(W:k<s.size)(x:s.size≤4096)(y:qZ s[k].toNat=true)(z:(((qF s).drop k).takeWhile qZ).length=n)(K:k+n≤s.size)
  (u:Nat) (A:Lib.parseUintB 64 (s.extract k (k+n)).data.toList= .ok u) (L:s[k].toNat≠48∨n=1) (X:k+n<s.size) (t:List Nat) (B:yA (s.extract k (k+n)).data.toList=t) (b:Bool) (C:yR s[k+n].toNat=b):
  Calls prog 99 #[.string s,.int .i64 k] w (ZU w (if b then none else some ⟨2,t,u,k⟩)):=by
 have D:=YD s k n K;have E:=Z z;have F:=Z y;have G:=Z A;have k2:(((k:Int)+(n:Int))==(s.size:Int))=false:=by simp;omega
 have H:=Z (zaI _ _ B);have I:=Z (show ∀J:((k:Int)+(n:Int)).toNat<s.size,yR (s[((k:Int)+(n:Int)).toNat]'J).toNat=b from fun J=>by
  have d:((k:Int)+(n:Int)).toNat=k+n:=by omega
  simp only [d];exact C)
 have M:((s[k].toNat:Int) != 48)=true∨((s[k].toNat:Int) != 48)=false∧((n:Int)==1)=true:=by simp;omega
 have:(k:Int)+(n:Int)<(s.size:Int):=by omega
 clear L B C;clear y z A;rcases M with N | ⟨N,k1⟩
 ·rcases b with _ | _
  all_goals
   simp only [if_true,Bool.false_eq_true,if_false];go_enter func99,ntmps99;go_wp2_with (first | (go_at_call 144;refine (zT _ _).mono ?_;rw [F.out];rintro d g ⟨rfl,rfl⟩) | (go_at_call 145;refine (ZL s k _ (by omega) x).mono ?_;rw [E.out];rintro d g ⟨rfl,rfl⟩) | (go_at_call 146;refine (Tryz.strconv_ParseUint_10_at64_ok _ (by rw [D];omega) u G _).mono ?_;rintro d l ⟨rfl,h⟩;have i:=Zl h;clear h;have f:=Z ((OneSt.start w [_,_,_,_]).later i);have m:=f.cells;clear i));have a:=Z (f.set (.int .i64 2) (.int .u64 u));clear f m;generalize World.setCell (World.setCell l _ _) _ _=c at a ⊢;obtain ⟨⟨o,p,q,r⟩,-,-⟩:=a.cells;obtain ⟨⟨O,P,Q,R⟩,S,T,U,V⟩:=a.answer;refine rg (fun c=>c.cell? ⟨w.heap.size+1,0,none⟩=some (.int .i64 2)∧c.cell? ⟨w.heap.size+1,1,none⟩=some (.string (s.extract k (k+n)))∧c.cell? ⟨w.heap.size+1,2,none⟩=some (.int .u64 u)∧c.cell? ⟨w.heap.size+1,3,none⟩=some (.int .i64 k)) ⟨o,p,q,r⟩ (fun v=> ?_);refine tk 0 ?_;refine tk 1 ?_;refine tk 2 ?_;refine tk 3 ?_;refine tk 4 ?_;refine tk 5 ?_;refine tk 6 ?_;refine tn 7 ?_;refine tn 8 ?_;refine tn 9 ?_;refine tn 10 ?_;refine tk 11 ?_;refine tk 12 ?_;refine tk 13 ?_;refine tk 14 ?_;refine tk 15 ?_;refine tk 16 ?_;refine tk 17 ?_;refine tk 18 ?_;refine tk 19 ?_;refine tk 20 ?_;refine rd1 21 (fun j e=> ?_);go_simp;refine e _ _ (by assumption) (fun v=>nx ?_);clear e j;refine rd1 22 (fun j e=> ?_)
   (go_simp;go_at_call 147;refine (Qw _ _).mono ?_;rw [I.out];rintro d g ⟨rfl,rfl⟩;(try dsimp only))
   refine e _ _ (by assumption) (fun v=>nx ?_);clear e j;refine tk 23 ?_;refine tk 24 ?_;refine tk 25 ?_;refine rd1 26 (fun j e=> ?_);go_simp;refine e _ _ (a.later4 _ _ _ _) (fun v=>nx ?_);clear e j;refine tk 27 ?_;refine dn ?_
   all_goals
    go_wp2_with fail;refine bodyPost_ret (ql rfl _ _ w.heap.size 217 _ _ _ rfl a.done.1 underlying217 rfl QA) rfl ⟨a.done.2.drew,?_⟩
    first | exact ⟨_,_,_,_,rfl⟩ | (show _=Ending.returned (.tuple #[.agg #[_,.string (qx t),_,_],_]);rw [H.out];rfl)
 ·rcases b with _ | _
  all_goals
   simp only [if_true,Bool.false_eq_true,if_false];go_enter func99,ntmps99;go_wp2_with (first | (go_at_call 144;refine (zT _ _).mono ?_;rw [F.out];rintro d g ⟨rfl,rfl⟩) | (go_at_call 145;refine (ZL s k _ (by omega) x).mono ?_;rw [E.out];rintro d g ⟨rfl,rfl⟩) | (go_at_call 146;refine (Tryz.strconv_ParseUint_10_at64_ok _ (by rw [D];omega) u G _).mono ?_;rintro d l ⟨rfl,h⟩;have i:=Zl h;clear h;have f:=Z ((OneSt.start w [_,_,_,_]).later i);have m:=f.cells;clear i));have a:=Z (f.set (.int .i64 2) (.int .u64 u));clear f m;generalize World.setCell (World.setCell l _ _) _ _=c at a ⊢;obtain ⟨⟨o,p,q,r⟩,-,-⟩:=a.cells;obtain ⟨⟨O,P,Q,R⟩,S,T,U,V⟩:=a.answer
   first | (go_region_held3 (fun c=>c.cell? ⟨w.heap.size+1,0,none⟩=some (.int .i64 2)∧c.cell? ⟨w.heap.size+1,1,none⟩=some (.string (s.extract k (k+n)))∧c.cell? ⟨w.heap.size+1,2,none⟩=some (.int .u64 u)∧c.cell? ⟨w.heap.size+1,3,none⟩=some (.int .i64 k)) (first | exact ⟨o,p,q,r⟩ | exact a.later4 _ _ _ _) (first | (go_at_call 147;refine (Qw _ _).mono ?_;rw [I.out];rintro d g ⟨rfl,rfl⟩))) | (fail "region")
   all_goals
    go_wp2_with fail;refine bodyPost_ret (ql rfl _ _ w.heap.size 217 _ _ _ rfl a.done.1 underlying217 rfl QA) rfl ⟨a.done.2.drew,?_⟩
    first | exact ⟨_,_,_,_,rfl⟩ | (show _=Ending.returned (.tuple #[.agg #[_,.string (qx t),_,_],_]);rw [H.out];rfl)
end Go.Proofs.YtklofgfkaaoipaaGreatDoor

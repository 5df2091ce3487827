/-
  What '!=' says of two needs.
-/
import Derived.Test.YtklofgfkaaoipaaGreatDoorMAlone
set_option maxHeartbeats 16000000
set_option maxRecDepth 100000
set_option linter.unusedSimpArgs false
set_option linter.unusedVariables false
namespace Go.Proofs.YtklofgfkaaoipaaGreatDoor
open Go.RowKit Go.Proofs.Tryz
def Z8 (a b:MNeed):Bool:=(a.tri==b.tri)&&(a.bits==b.bits)&&(a.ots==b.ots)&&(a.t0==b.t0)&&(a.t1==b.t1)&&(a.rounds==b.rounds)&&(a.w0==b.w0)&&(a.w1==b.w1)
theorem zaH (a b:MNeed)(w:World):(binOp .neq 26 (.agg #[.int .i64 a.tri,.int .i64 a.bits,.int .i64 a.ots,.int .i64 a.t0,.int .i64 a.t1,.int .i64 a.rounds,.int .i64 a.w0,.int .i64 a.w1])
  (.agg #[.int .i64 b.tri,.int .i64 b.bits,.int .i64 b.ots,.int .i64 b.t0,.int .i64 b.t1,.int .i64 b.rounds,.int .i64 b.w0,.int .i64 b.w1])).run prog w= .ok (.bool (!Z8 a b)) w:=by
 have u1:=underlying3;have o:=zbo;have p:=zfD;have q:=zcb;have r:=ze2;have g:=fun a b h i w=>zi3 9997 a b h i w
 simp only [show (9997+2:Nat)=9999 from rfl] at g;have j:prog.underlying 26=some (.struct (prog.fieldsOf 26)):=by kernel_rfl
 rw [run_neq_struct,show (10000:Nat)=9999+1 from rfl,run_equalIn_agg w 9999 26 _ _ j (by kernel_rfl)];simp only [Program.fieldsOf,underlying26];go_simp;simp only [Z8]
 by_cases c:a.tri=b.tri<;>(first | (simp [c];done) | skip)
 by_cases d:a.bits=b.bits<;>(first | (simp [d];done) | skip)
 by_cases e:a.ots=b.ots<;>(first | (simp [e];done) | skip)
 by_cases f:a.rounds=b.rounds<;>(first | (simp [f];done) | skip)
 all_goals by_cases k:a.t0=b.t0<;>by_cases l:a.t1=b.t1<;>by_cases m:a.w0=b.w0<;>by_cases n:a.w1=b.w1<;>simp [c,d,e,f,k,l,m,n]
end Go.Proofs.YtklofgfkaaoipaaGreatDoor

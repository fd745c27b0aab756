/- Integer, none, up and span: what each returns, for every argument. -/
import Derived.Test.YtpnlhkpibgngbaaRows
import Derived.WalkKit
import Derived.WalkSpells
import Derived.WalkLawsBesides
import Derived.BigQuiet
import Derived.Deep.QuietTactic
import Derived.Handy
namespace Go.Proofs.Ytpnlhkpibgngbaa
open Go.RowKit

set_option maxHeartbeats 400000 in
theorem integer_any (o : Int) (w : World) :
    Calls Try.prog 36 #[.int .i64 o] w fun e w' => e = .returned (.agg #[.int .i64 1, .string ⟨#[]⟩, .int .i64 o]) ∧ Below w.heap.size w w' := by
  go_enter Try.func36, Try.ntmps36
  go_wp2
  refine bodyPost_ret (v := .agg #[.int .i64 1, .string ⟨#[]⟩, .int .i64 o]) (by simp [results, Try.results36, go_sem]) rfl ⟨rfl, ?_⟩
  go_grown

set_option maxHeartbeats 400000 in
theorem none_any (w : World) :
    Calls Try.prog 38 #[] w fun e w' => e = .returned (.agg #[.int .i64 0, .string ⟨#[]⟩, .int .i64 3]) ∧ Below w.heap.size w w' := by
  go_enter Try.func38, Try.ntmps38
  go_wp2
  go_returns
  trace_state
  exact ⟨rfl, by go_grown⟩

def upK (k : Int) (s : ByteArray) : Int := if s.toList.isEmpty = false then k else if k = 1 then 2 else if 2 ≤ k ∧ k ≤ 5 then 6 else if 7 ≤ k ∧ k ≤ 11 then 12 else 13
set_option maxHeartbeats 400000 in
theorem up_any (k : Int) (s : ByteArray) (w : World) :
    Calls Try.prog 57 #[.int .i64 k, .string s] w fun e w' => e = .returned (.tuple #[.int .i64 (upK k s), .string ⟨#[]⟩]) ∧ w = w' := by
  go_enter Try.func57, Try.ntmps57
  go_wp2
  all_goals go_ret2
  all_goals refine ⟨?_, rfl⟩
  all_goals simp_all [upK]
  all_goals omega

def spanL (i o : Int) : Int := if i = 0 then 0 else if o = 0 then 1 else if o = 1 then 0 else if o = 2 then 1 else 0
def spanM (i o : Int) : Int := if i = 0 then 0 else if o = 0 then 1 else if o = 1 then 1 else 2
set_option maxHeartbeats 400000 in
theorem span_any (i : Int) (s : ByteArray) (o : Int) (w : World) :
    Calls Try.prog 39 #[.agg #[.int .i64 i, .string s, .int .i64 o]] w fun e w' => e = .returned (.tuple #[.int .i64 (spanL i o), .int .i64 (spanM i o)]) ∧ Below w.heap.size w w' := by
  go_enter Try.func39, Try.ntmps39
  go_wp2
  all_goals go_ret2
  all_goals refine ⟨?_, by go_grown⟩
  all_goals simp_all [spanL, spanM]
  all_goals omega
end Go.Proofs.Ytpnlhkpibgngbaa

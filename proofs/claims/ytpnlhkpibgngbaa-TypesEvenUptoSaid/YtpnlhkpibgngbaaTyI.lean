/- The reference's counts, of and leaves: what each returns, for every argument. -/
import Derived.Test.YtpnlhkpibgngbaaTyH
namespace Go.Proofs.Ytpnlhkpibgngbaa
open Go.RowKit

def cnt0 (i o : Int) : Bool := i == 0 || (o == 1 || o == 3)
def cnt1 (i _o : Int) : Bool := !(i == 0)
def cnt2 (i o : Int) : Bool := !(i == 0) && (o == 2 || o == 3)

set_option maxHeartbeats 400000 in
theorem counts_any (i : Int) (s : ByteArray) (o : Int) (w : World) :
    Calls Try.prog 42 #[.agg #[.int .i64 i, .string s, .int .i64 o]] w fun e w' => e = .returned (.tuple #[.bool (cnt0 i o), .bool (cnt1 i o), .bool (cnt2 i o)]) ∧ Below w.heap.size w w' := by
  unfold cnt0 cnt1 cnt2
  cases e0 : (i == 0)
  · cases e1 : (o == 1) <;> cases e2 : (o == 2) <;> cases e3 : (o == 3)
    all_goals go_enter Try.func42, Try.ntmps42
    all_goals go_wp2_with fail
    all_goals go_quiet (fail)
    all_goals go_wp2
    all_goals go_ret3
    all_goals exact ⟨by simp, below_drewN (by go_grown) _⟩
  · go_enter Try.func42, Try.ntmps42
    go_wp2
    go_ret3
    exact ⟨by simp, by go_grown⟩

def ofF (t : T3) (a b c : Bool) : T3 := if t.i == 0 || (!b && !c) then ⟨0, ⟨#[]⟩, 3⟩ else if a && c then ⟨t.i, t.n, 3⟩ else if a then ⟨t.i, t.n, 1⟩ else if c then ⟨t.i, t.n, 2⟩ else ⟨t.i, t.n, 0⟩
set_option maxHeartbeats 400000 in
theorem of_any (i : Int) (s : ByteArray) (o : Int) (a b c : Bool) (w : World) :
    Calls Try.prog 44 #[.agg #[.int .i64 i, .string s, .int .i64 o], .bool a, .bool b, .bool c] w fun e w' => e = .returned (.agg #[.int .i64 (ofF ⟨i, s, o⟩ a b c).i, .string (ofF ⟨i, s, o⟩ a b c).n, .int .i64 (ofF ⟨i, s, o⟩ a b c).o]) ∧ Below w.heap.size w w' := by
  unfold ofF
  simp only
  cases e0 : (i == 0) <;> cases a <;> cases b <;> cases c
  all_goals go_enter Try.func44, Try.ntmps44
  all_goals go_wp2
  all_goals go_returns
  all_goals exact ⟨by simp, by go_grown⟩

def refSubF (a b : T3) (lies : Bool) : Bool :=
  !((cnt0 a.i a.o && !cnt0 b.i b.o) || (cnt1 a.i a.o && !cnt1 b.i b.o) || (cnt2 a.i a.o && !cnt2 b.i b.o)) && (a.i == 0 || lies)

def leavesF (k : Int) : List Int :=
  if k == 0 then [] else if k == 2 then [1, 2] else if k == 6 then [1, 2, 3, 4, 5] else if k == 12 then [7, 8, 9, 10, 11] else if k == 13 then [1, 2, 3, 4, 5, 7, 8, 9, 10, 11, 13] else [k]
set_option maxHeartbeats 400000 in
theorem leaves_any (k : Int) (w : World) : Calls Try.prog 58 #[.int .i64 k] w (Row (leavesF k) w) := by
  unfold leavesF
  cases e0 : (k == 0) <;> cases e1 : (k == 2) <;> cases e2 : (k == 6) <;> cases e3 : (k == 12) <;> cases e4 : (k == 13) <;> first | (exfalso; simp at e0 e1 e2 e3 e4; omega) | skip
  all_goals go_enter Try.func58, Try.ntmps58
  all_goals go_wp2
  all_goals go_light
  all_goals go_ret
  all_goals first
    | exact ⟨_, _, _, rfl, IRow.nil _ _, Below.refl _ _, Nat.le_refl _, by omega⟩
    | exact Row.new rfl rfl (by simp) rfl
end Go.Proofs.Ytpnlhkpibgngbaa

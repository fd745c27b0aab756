/- The makers of atomic values; what is a number, and which. -/
import Derived.Test.YtfagfkfcokmclaaGreatDoorZWaB
import Derived.Test.YtfagfkfcokmclaaGreatDoorZMgB
set_option linter.unusedSimpArgs false
set_option linter.unusedVariables false
set_option linter.constructorNameAsVariable false
namespace Go.Proofs.YtfagfkfcokmclaaGreatDoor
open Go.RowKit

/-- An atomic value's datum. -/
@[reducible] def AV (a : At) : Value := .agg #[.int .i64 a.k, .int .i64 a.n, .int .i64 a.s, .string a.t, .bool a.b]
@[reducible] def Cs (k n s : Int) (t : ByteArray) (b : Bool) : Array Value := #[.int .i64 k, .int .i64 n, .int .i64 s, .string t, .bool b]
theorem Blk.five {w : World} {b : Nat} {x y z u v : Value} {t : TypeId} (h : Blk w b #[x, y, z, u, v] t) :
    (w.cell? ⟨b, 0, none⟩ = some x ∧ w.cell? ⟨b, 1, none⟩ = some y ∧ w.cell? ⟨b, 2, none⟩ = some z ∧ w.cell? ⟨b, 3, none⟩ = some u ∧ w.cell? ⟨b, 4, none⟩ = some v)
    ∧ (w.frozen? ⟨b, 0, none⟩ = false ∧ w.frozen? ⟨b, 1, none⟩ = false ∧ w.frozen? ⟨b, 2, none⟩ = false ∧ w.frozen? ⟨b, 3, none⟩ = false ∧ w.frozen? ⟨b, 4, none⟩ = false) :=
  ⟨⟨h.cell 0, h.cell 1, h.cell 2, h.cell 3, h.cell 4⟩, ⟨h.free 0, h.free 1, h.free 2, h.free 3, h.free 4⟩⟩
theorem of_any (n : Int) (w : World) : Calls Tryz.prog 44 #[.int .i64 n] w fun e w' => e = .returned (.agg #[.int .i64 1, .int .i64 n, .int .i64 0, .string (bs []), .bool false]) ∧ Below w.heap.size w w' := by
  go_enter Tryz.func44, Tryz.ntmps44
  go_wp2_with fail
  refine bodyPost_ret (v := .agg #[.int .i64 1, .int .i64 n, .int .i64 0, .string (bs []), .bool false]) (by simp [results, Tryz.results44, go_sem]; rfl) rfl ⟨rfl, ?_⟩
  go_grown
theorem text_any (t : ByteArray) (w : World) : Calls Tryz.prog 71 #[.string t] w fun e w' => e = .returned (.agg #[.int .i64 3, .int .i64 0, .int .i64 0, .string t, .bool false]) ∧ Below w.heap.size w w' := by
  go_enter Tryz.func71, Tryz.ntmps71
  go_wp2_with fail
  refine bodyPost_ret (v := .agg #[.int .i64 3, .int .i64 0, .int .i64 0, .string t, .bool false]) (by simp [results, Tryz.results71, go_sem]) rfl ⟨rfl, ?_⟩
  go_grown
theorem raw_any (t : ByteArray) (w : World) : Calls Tryz.prog 143 #[.string t] w fun e w' => e = .returned (.agg #[.int .i64 5, .int .i64 0, .int .i64 0, .string t, .bool false]) ∧ Below w.heap.size w w' := by
  go_enter Tryz.func143, Tryz.ntmps143
  go_wp2_with fail
  refine bodyPost_ret (v := .agg #[.int .i64 5, .int .i64 0, .int .i64 0, .string t, .bool false]) (by simp [results, Tryz.results143, go_sem]) rfl ⟨rfl, ?_⟩
  go_grown
theorem truth_any (b : Bool) (w : World) : Calls Tryz.prog 63 #[.bool b] w fun e w' => e = .returned (.agg #[.int .i64 4, .int .i64 0, .int .i64 0, .string (bs []), .bool b]) ∧ Below w.heap.size w w' := by
  go_enter Tryz.func63, Tryz.ntmps63
  go_wp2_with fail
  refine bodyPost_ret (v := .agg #[.int .i64 4, .int .i64 0, .int .i64 0, .string (bs []), .bool b]) (by simp [results, Tryz.results63, go_sem]; rfl) rfl ⟨rfl, ?_⟩
  go_grown
theorem number_of_any (n s : Int) (w : World) : Calls Tryz.prog 83 #[.agg #[.int .i64 n, .int .i64 s]] w fun e w' => e = .returned (.agg #[.int .i64 2, .int .i64 n, .int .i64 s, .string (bs []), .bool false]) ∧ Below w.heap.size w w' := by
  go_enter Tryz.func83, Tryz.ntmps83
  go_wp2_with fail
  refine bodyPost_ret (v := .agg #[.int .i64 2, .int .i64 n, .int .i64 s, .string (bs []), .bool false]) (by simp [results, Tryz.results83, go_sem]; rfl) rfl ⟨rfl, ?_⟩
  go_grown
theorem numeric_any (k n s : Int) (t : ByteArray) (b : Bool) (w : World) : Calls Tryz.prog 131 #[.agg #[.int .i64 k, .int .i64 n, .int .i64 s, .string t, .bool b]] w fun e w' => e = .returned (.bool (k == 1 || k == 2)) ∧ Below w.heap.size w w' := by
  cases e1 : (k == 1)
  · go_enter Tryz.func131, Tryz.ntmps131
    go_wp2_with fail
    go_returns
    exact ⟨by simp [e1], by go_grown⟩
  · go_enter Tryz.func131, Tryz.ntmps131
    go_wp2_with fail
    go_returns
    exact ⟨by simp [e1], by go_grown⟩
theorem num_any (k n s : Int) (t : ByteArray) (b : Bool) (w : World) : Calls Tryz.prog 82 #[.agg #[.int .i64 k, .int .i64 n, .int .i64 s, .string t, .bool b]] w fun e w' =>
    e = .returned (.agg #[.int .i64 (numN ⟨k, n, s, t, b⟩).1, .int .i64 (numN ⟨k, n, s, t, b⟩).2]) ∧ Below w.heap.size w w' := by
  cases e1 : (k == 1)
  · cases e2 : (k == 2)
    · have h : numN ⟨k, n, s, t, b⟩ = (0, 0) := by unfold numN; simp only [e1, e2]; rfl
      rw [h]
      clear h
      go_enter Tryz.func82, Tryz.ntmps82
      go_wp2_with fail
      refine bodyPost_ret (v := .agg #[.int .i64 0, .int .i64 0]) (by simp [results, Tryz.results82, go_sem]) rfl ⟨rfl, ?_⟩
      go_grown
    · have h : numN ⟨k, n, s, t, b⟩ = (n, s) := by unfold numN; simp only [e1, e2]; rfl
      rw [h]
      clear h
      go_enter Tryz.func82, Tryz.ntmps82
      go_wp2_with fail
      refine bodyPost_ret (v := .agg #[.int .i64 n, .int .i64 s]) (by simp [results, Tryz.results82, go_sem]) rfl ⟨rfl, ?_⟩
      go_grown
  · have h : numN ⟨k, n, s, t, b⟩ = (n, 0) := by unfold numN; simp only [e1]; rfl
    rw [h]
    clear h
    go_enter Tryz.func82, Tryz.ntmps82
    go_wp2_with fail
    refine bodyPost_ret (v := .agg #[.int .i64 n, .int .i64 0]) (by simp [results, Tryz.results82, go_sem]) rfl ⟨rfl, ?_⟩
    go_grown
end Go.Proofs.YtfagfkfcokmclaaGreatDoor

/- A value's text. -/
import Derived.Test.YtaoobajokhcimaaGreatDoorAtL
set_option linter.unusedSimpArgs false
set_option linter.unusedVariables false
set_option linter.constructorNameAsVariable false
namespace Go.Proofs.YtaoobajokhcimaaGreatDoor
open Go.RowKit

theorem lift_fbool (b : Bool) (w : World) : Calls Tryz.prog 83 #[.bool b] w fun e w' => e = .returned (.string (bs (if b then trueS else falseS))) ∧ Below w.heap.size w w' := by
  cases b
  all_goals
    go_enter Tryz.func83, Tryz.ntmps83
    go_wp2_with fail
    go_ret
    exact ⟨rfl, by go_grown⟩
theorem fbool_any (b : Bool) (w : World) : Calls Tryz.prog 52 #[.bool b] w fun e w' => e = .returned (.string (bs (if b then trueS else falseS))) ∧ Below w.heap.size w w' := by
  have CB := Lib.hid (fun w => lift_fbool b w)
  generalize bs (if b then trueS else falseS) = T at *
  go_enter Tryz.func52, Tryz.ntmps52
  go_wp2_with (first
      | (go_at_call 83; with_reducible refine (CB.out _).mono ?_; rintro e w1 ⟨rfl, hb⟩))
  go_ret
  exact ⟨rfl, hb⟩

set_option maxRecDepth 100000 in
theorem string_int (n s : Int) (t : ByteArray) (b : Bool) (h0 : -9223372036854775808 ≤ n) (h1 : n ≤ 9223372036854775807) (w : World) (htab : Lib.TabIs Tryz.prog w "internal/strconv.uint64pow10" .u64 Lib.pow10Tab) : Calls Tryz.prog 25 #[.agg #[.int .i64 1, .int .i64 n, .int .i64 s, .string t, .bool b]] w fun e w' =>
    e = .returned (.string (bs (Lib.itoa n))) ∧ Below w.heap.size w w' := by
  have CI := Lib.hid (show ∀ o, Calls Tryz.prog 50 #[.int .i64 n] (w.alloc o) fun e w' => e = .returned (.string (bs (Lib.itoa n))) ∧ Below w.heap.size w w' from fun o => by
    refine (Tryz.strconv_Itoa n h0 h1 (w.alloc o) (Lib.tabBelow_of_tabIs htab _ (Below.alloc (Below.refl w.heap.size w) (Nat.le_refl _) o))).mono ?_
    rintro e w1 ⟨rfl, kk, os, hw1⟩
    have hb : Below (w.heap.size + 1) (w.alloc o) w1 := hw1 ▸ Lib.below_grow _ _ (by simp) kk os
    exact ⟨rfl, Below.trans (by go_grown) (hb.mono (by simp))⟩)
  generalize bs (Lib.itoa n) = T at *
  clear htab
  go_enter Tryz.func25, Tryz.ntmps25
  go_wp2_with (first
      | (go_at_call 50; with_reducible refine (CI.out _).mono ?_; rintro e w1 ⟨rfl, hw1⟩))
  go_ret
  exact ⟨rfl, hw1⟩
theorem string_dec (n : Int) (s : Nat) (t : ByteArray) (b : Bool) (h0 : -9223372036854775808 ≤ n) (h1 : n ≤ 9223372036854775807) (hs : s ≤ 9) (w : World) (htab : Lib.TabIs Tryz.prog w "internal/strconv.uint64pow10" .u64 Lib.pow10Tab) : Calls Tryz.prog 25 #[.agg #[.int .i64 2, .int .i64 n, .int .i64 (s : Int), .string t, .bool b]] w fun e w' =>
    e = .returned (.string (bs (formatF n s))) ∧ Below w.heap.size w w' := by
  have CI := Lib.hid (show ∀ o, Calls Tryz.prog 51 #[.agg #[.int .i64 n, .int .i64 (s : Int)]] (w.alloc o) fun e w' => e = .returned (.string (bs (formatF n s))) ∧ Below w.heap.size w w' from fun o => by
    refine (format_any n s h0 h1 hs (w.alloc o) (Lib.tabBelow_of_tabIs htab _ (Below.alloc (Below.refl w.heap.size w) (Nat.le_refl _) o))).mono ?_
    rintro e w1 ⟨rfl, hb⟩
    exact ⟨rfl, Below.trans (by go_grown) (hb.mono (by simp))⟩)
  generalize bs (formatF n s) = T at *
  clear htab
  go_enter Tryz.func25, Tryz.ntmps25
  go_wp2_with (first
      | (go_at_call 51; with_reducible refine (CI.out _).mono ?_; rintro e w1 ⟨rfl, hw1⟩))
  go_ret
  exact ⟨rfl, hw1⟩
theorem string_text (k n s : Int) (t : ByteArray) (b : Bool) (hk : k = 3 ∨ k = 5) (w : World) : Calls Tryz.prog 25 #[.agg #[.int .i64 k, .int .i64 n, .int .i64 s, .string t, .bool b]] w fun e w' =>
    e = .returned (.string t) ∧ Below w.heap.size w w' := by
  rcases hk with rfl | rfl
  all_goals
    go_enter Tryz.func25, Tryz.ntmps25
    go_wp2_with fail
    go_ret
    exact ⟨rfl, by go_grown⟩
theorem string_bool (n s : Int) (t : ByteArray) (b : Bool) (w : World) : Calls Tryz.prog 25 #[.agg #[.int .i64 4, .int .i64 n, .int .i64 s, .string t, .bool b]] w fun e w' =>
    e = .returned (.string (bs (if b then trueS else falseS))) ∧ Below w.heap.size w w' := by
  have CI := Lib.hid (fun w => fbool_any b w)
  generalize bs (if b then trueS else falseS) = T at *
  go_enter Tryz.func25, Tryz.ntmps25
  go_wp2_with (first
      | (go_at_call 52; with_reducible refine (CI.out _).mono ?_; rintro e w1 ⟨rfl, hb⟩
         have hw1 : Below w.heap.size w w1 := Below.trans (by go_grown) (hb.mono (by simp))))
  go_ret
  exact ⟨rfl, hw1⟩
/-- A right value's text. -/
theorem string_any (a : At) (h : RA a) (m : Int) (w : World) (hL : Laid m w) : Calls Tryz.prog 25 #[AV a] w fun e w' =>
    e = .returned (.string (textF a)) ∧ Below w.heap.size w w' := by
  cases h with
  | int n h => exact string_int n 0 (bs []) false (by have := h.lo; omega) (by have := h.hi; omega) w hL.tab
  | dec n s h =>
    obtain ⟨s', rfl⟩ : ∃ s' : Nat, s = (s' : Int) := ⟨s.toNat, by have := h.s0; omega⟩
    have := string_dec n s' (bs []) false (by have := h.lo; omega) (by have := h.hi; omega) (by have := h.s9; omega) w hL.tab
    have e : textF (numA n (s' : Int)) = bs (formatF n s') := rfl
    rw [e]
    exact this
  | str t h => exact string_text 3 0 0 t false (Or.inl rfl) w
  | bool b => exact string_bool 0 0 (bs []) b w
  | raw t h => exact string_text 5 0 0 t false (Or.inr rfl) w

end Go.Proofs.YtaoobajokhcimaaGreatDoor

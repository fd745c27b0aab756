/- The document's numbers: without noughts at the end. -/
import Derived.Test.YtgbghbeolndfiaaGreatDoorDiB
import Derived.Test.YtgbghbeolndfiaaGreatDoorDeF
set_option linter.unusedSimpArgs false
set_option linter.unusedVariables false
namespace Go.Proofs.YtgbghbeolndfiaaGreatDoor
open Go.RowKit

theorem irow_at {w : World} {a : Option Addr} {n : Nat} {xs : List Int} (h : IRow w a n xs) {j : Nat} {x : Int} (hj : xs[j]? = some x) : ∃ b o, a = some ⟨b, o, none⟩ ∧ b < w.heap.size ∧ w.cell? ⟨b, o + j, none⟩ = some (.int .i64 x) := by
  obtain ⟨h1, -, h3⟩ := h
  have : j < xs.length := by
    rcases Nat.lt_or_ge j xs.length with h' | h'
    · exact h'
    · rw [List.getElem?_eq_none h'] at hj; cases hj
  obtain ⟨b, o, rfl, hb, hc⟩ := h3 (by omega)
  exact ⟨b, o, rfl, hb, hc j x hj⟩
theorem irow_take {w : World} {a : Option Addr} {n : Nat} {xs : List Int} (h : IRow w a n xs) (k : Nat) (hk : k ≤ n) : IRow w a k (xs.take k) := by
  obtain ⟨h1, h2, h3⟩ := h
  refine ⟨by rw [List.length_take]; omega, by omega, fun h0 => ?_⟩
  obtain ⟨b, o, e, hb, hc⟩ := h3 (by omega)
  refine ⟨b, o, e, hb, fun j x hx => hc j x ?_⟩
  rw [List.getElem?_take] at hx
  split at hx
  · exact hx
  · cases hx
theorem trim_row {w : World} {a : Option Addr} {xs : List Int} (h : IRow w a xs.length xs) : IRow w a (trimL xs).length (trimL xs) ∧ (trimL xs).length ≤ xs.length := by
  obtain ⟨-, -, -, k, e, hk⟩ := trimL_spec xs
  have hl : (xs.take k).length = k := by simp; omega
  rw [e, hl]
  exact ⟨irow_take h k hk, hk⟩
theorem at_lt (xs : List Int) {j : Nat} (hj : j < xs.length) : ∃ x, xs[j]? = some x ∧ xs.take (j + 1) = xs.take j ++ [x] := ⟨xs[j], by simp [hj], by rw [List.take_add_one]; simp [hj]⟩
set_option maxRecDepth 100000 in
set_option maxHeartbeats 2000000 in
theorem trim_any (a : Option Addr) (c : Nat) (xs : List Int) (w : World) (hI : IRow w a xs.length xs) (hc : xs.length ≤ c) (h0 : a = none → c = 0) (hl : xs.length ≤ 1000000) : Calls Tryz.prog 37 #[.slice a xs.length c] w fun e w' =>
    e = .returned (.slice a (trimL xs).length c) ∧ w = w' := by
  have HI := Lib.hid hI
  clear hI
  go_enter Tryz.func37, Tryz.ntmps37
  go_wp2_with fail
  go_loopg [3] (xs.length) (fun m xv wr => m ≤ xs.length ∧ xv = .int .i64 (m : Int) ∧ trimL xs = trimL (xs.take m) ∧ wr = w)
  case atStart => exact ⟨Nat.le_refl _, rfl, by rw [List.take_of_length_le (Nat.le_refl _)], rfl⟩
  case round =>
    obtain ⟨hm, rfl, ht, rfl⟩ := hrel
    cases gk with
    | zero =>
      rw [List.take_zero, trimL_nil] at ht
      have HT := Lib.hid ht
      clear ht
      go_wp2_with fail
      refine bodyPost_ret (v := .slice a 0 c) (by simp [results, Tryz.results37, go_sem]) rfl ⟨by rw [HT.out]; rfl, rfl⟩
    | succ j =>
      obtain ⟨x, hx, hxt⟩ := at_lt xs (show j < xs.length by omega)
      obtain ⟨b, o, rfl, hb, y0⟩ := irow_at HI.out hx
      rw [hxt, trimL_snoc] at ht
      have HT := Lib.hid ht
      clear ht hx
      have i1 : (0 : Int) < ((j + 1 : Nat) : Int) := by omega
      have i2 : ((j + 1 : Nat) : Int) - 1 = (j : Int) := by omega
      have i3 : IntKind.i64.wrap ((j : Int) + 1 - 1) = (j : Int) := by rw [IntWalk.i64_in _ (by omega)]; omega
      cases e1 : (x == 0)
      · go_wp2_with fail
        refine bodyPost_ret (v := .slice (some ⟨b, o, none⟩) (j + 1) c) (by simp [results, Tryz.results37, go_sem]) rfl ⟨?_, rfl⟩
        have e := HT.out
        rw [e1, if_neg (by simp), ← hxt] at e
        have hlen : (xs.take (j + 1)).length = j + 1 := by simp; omega
        rw [e, hlen]
      · go_wp2_with fail
        go_roundg j
        case measure => omega
        case rel =>
          refine ⟨by omega, rfl, ?_, rfl⟩
          rw [HT.out, e1, if_pos rfl]
end Go.Proofs.YtgbghbeolndfiaaGreatDoor

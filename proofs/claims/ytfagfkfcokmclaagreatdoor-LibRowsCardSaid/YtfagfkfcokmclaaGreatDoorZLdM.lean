/- LibRows at every input. -/
import Derived.Test.YtfagfkfcokmclaaGreatDoorZLdL
import Derived.Lib.SmallJoins
import Derived.ChangeSlices
import Derived.Laws.LoneSync
import Derived.ProofKit
import Derived.OpenShut
set_option linter.unusedSimpArgs false
set_option linter.unusedVariables false
set_option linter.constructorNameAsVariable false
namespace Go.Proofs.YtfagfkfcokmclaaGreatDoor
section
open Go.RowKit Go.Sort

theorem tmod_bdd (n d : Int) (hd : 0 < d) : -d < n.tmod d ∧ n.tmod d < d := by
  rcases Int.lt_or_le n 0 with h | h
  · have h1 : n.tmod d = -((-n).tmod d) := by rw [Int.neg_tmod, Int.neg_neg]
    rw [h1, Int.tmod_eq_emod_of_nonneg (by omega)]
    have h2 := Int.emod_nonneg (-n) (show d ≠ 0 by omega)
    have h3 := Int.emod_lt_of_pos (-n) hd
    omega
  · rw [Int.tmod_eq_emod_of_nonneg h]
    have h2 := Int.emod_nonneg n (show d ≠ 0 by omega)
    have h3 := Int.emod_lt_of_pos n hd
    omega
set_option maxRecDepth 100000 in
/-- Where there are too many numbers: what awake says. -/
theorem rows_out (n : Nat) (hn : 200 < n) (al : Option Addr) (cl : Nat) (at' : Int) (w : World)
    (CW0 : ∀ W, Below w.heap.size w W → Calls Tryz.prog 7 #[] W fun e w' => e = .returned (.bool true) ∧ Below W.heap.size W w') :
    Calls Tryz.prog 6 #[.slice al n cl, .int .i64 at'] w fun e w' => e = .returned (.bool true) ∧ Below w.heap.size w w' := by
  have CW := Lib.hid CW0
  have d1 : decide ((200 : Int) < (n : Int)) = true := decide_eq_true (by omega)
  clear CW0
  go_enter Tryz.func6, Tryz.ntmps6
  go_wp2_with fail
  with_reducible refine (CW.out _ (Below.refl _ _)).mono ?_
  rintro e w1 ⟨rfl, hw1⟩
  go_wp2_with fail
  with_reducible refine (CW.out _ hw1).mono ?_
  rintro e w2 ⟨rfl, hb⟩
  have hw2 := hw1.trans (hb.mono hw1.size)
  go_wp2_with fail
  go_returns
  exact ⟨rfl, hw2⟩
theorem small_ofA (ls : List Int) : ∀ x ∈ ls.map ofA, x.t.size ≤ 65536 := by
  intro x hx
  obtain ⟨n, -, rfl⟩ := List.mem_map.1 hx
  show (0 : Nat) ≤ _
  omega
theorem max_ex (ls : List Int) : ∃ M, ls ≠ [] → M ∈ ls ∧ ∀ y ∈ ls, y ≤ M := by
  by_cases h : ls = []
  · exact ⟨0, fun h2 => absurd h h2⟩
  · obtain ⟨M, hM⟩ := max_in ls h
    exact ⟨M, fun _ => hM⟩
theorem rows_any (ns : List Int) (n : Nat) (al : Option Addr) (cl : Nat) (at' : Int) (m : Int) (w : World) (hL : LaidE m w) (hI : n ≤ 1000000 → IRow w al n ns) :
    Calls Tryz.prog 6 #[.slice al n cl, .int .i64 at'] w fun e w' => e = .returned (.bool true) ∧ Below w.heap.size w w' := by
  have CW : ∀ W, Below w.heap.size w W → Calls Tryz.prog 7 #[] W fun e w' => e = .returned (.bool true) ∧ Below W.heap.size W w' := fun W hW => awake_any W (hL.sp.on hW)
  by_cases hn : 200 < n
  · exact rows_out n hn al cl at' w CW
  · have hI1 := hI (by omega)
    obtain ⟨ls, hls⟩ : ∃ ls, ls = ns.map (·.tmod 1000000) := ⟨_, rfl⟩
    have hlen : ls.length = n := by rw [hls, List.length_map]; exact hI1.1
    have hx : ∀ x ∈ ls, -1000000 ≤ x ∧ x ≤ 1000000 := by
      intro x hx
      rw [hls] at hx
      obtain ⟨y, -, rfl⟩ := List.mem_map.1 hx
      have := tmod_bdd y 1000000 (by omega)
      show -1000000 ≤ y.tmod 1000000 ∧ y.tmod 1000000 ≤ 1000000
      omega
    obtain ⟨hm1, hm2⟩ := tmod_bdd at' ((n : Int) + 1) (by omega)
    obtain ⟨T, hT⟩ : ∃ T, at'.tmod ((n : Int) + 1) = T := ⟨_, rfl⟩
    have hk1 : (T + (n : Int) + 1).tmod ((n : Int) + 1) = (T + (n : Int) + 1) % ((n : Int) + 1) := Int.tmod_eq_emod_of_nonneg (by omega)
    have hk2 := Int.emod_nonneg (T + (n : Int) + 1) (show ((n : Int) + 1) ≠ 0 by omega)
    have hk3 := Int.emod_lt_of_pos (T + (n : Int) + 1) (show 0 < ((n : Int) + 1) by omega)
    obtain ⟨K, hK⟩ : ∃ K : Nat, (T + (n : Int) + 1).tmod ((n : Int) + 1) = (K : Int) := ⟨((T + (n : Int) + 1).tmod ((n : Int) + 1)).toNat, by omega⟩
    have hKn : K ≤ n := by omega
    obtain ⟨M, hM⟩ := max_ex ls
    have hl6 : ls.length ≤ 1000000 := by omega
    have bA := sum_take_bd ls hx hl6 K
    have bB : -1000000000000 ≤ (ls.drop K).sum ∧ (ls.drop K).sum ≤ 1000000000000 := by
      have h1 := sum_bd 1000000 (ls.drop K) (fun x h => hx x (List.mem_of_mem_drop h))
      have h2 : (ls.drop K).length ≤ 1000000 := by rw [List.length_drop]; omega
      omega
    have hS : (ls.take K).sum + (ls.drop K).sum = ls.sum := by rw [← List.sum_append, List.take_append_drop]
    have hLA : (ls.take K).length = K := by rw [List.length_take]; omega
    have hLB : (ls.drop K).length = n - K := by rw [List.length_drop]; omega
    have hml : (ls.map ofA).length ≤ 1000000 := by rw [List.length_map]; omega
    have hmr : (ls.reverse.map ofA).length ≤ 1000000 := by rw [List.length_map, List.length_reverse]; omega
    refine rows_main ns ls (ls.take K) (ls.drop K) at' n K K (n - K) _ _ _ M al cl w hI1 hls (by omega) hx hLA hLB (by omega) hm1 hm2 (by rw [hT]; exact hK) hKn hS bA bB hM CW
      (fun W ab hW a0 => ?_) (fun W ab hW a0 => ?_) (fun W ab hW a0 a1 a2 => ?_) (fun W ab hW a0 a1 => ?_)
      (fun W ab hW a0 => call_sum _ (fun x h => hx x (List.mem_of_mem_take h)) (by omega) ab 1 W (hL.sp.on hW) a0)
      (fun W ab hW a0 => call_sum _ (fun x h => hx x (List.mem_of_mem_drop h)) (by omega) ab 1 W (hL.sp.on hW) a0)
      (fun W ab hW a0 => call_sum _ hx hl6 ab 1 W (hL.sp.on hW) a0)
      (fun W ab hW a0 => call_max _ M hM hx hl6 ab 1 W (hL.sp.on hW) a0)
    · have := call_reverse (ls.map ofA) (small_ofA ls) hml ab 1 W (hL.sp.on hW) a0
      rw [← List.map_reverse] at this
      exact this
    · have := call_reverse (ls.reverse.map ofA) (small_ofA _) hmr ab 1 W (hL.sp.on hW) a0
      rw [← List.map_reverse, List.reverse_reverse] at this
      exact this
    · have := call_subsequence3 (ls.map ofA) (small_ofA ls) hml K (by rw [List.length_map]; omega) ab 3 W (hL.sp.on hW) a0 a1 a2
      rw [← List.map_take] at this
      exact this
    · have := call_subsequence2 (ls.map ofA) (small_ofA ls) hml K (by rw [List.length_map]; omega) ab 2 W (hL.sp.on hW) a0 a1
      rw [← List.map_drop] at this
      exact this
end
section
open Go.ChangeShapes Go.WideShapes Go.ChangeAt Go.RowKit Go.Joins
theorem cells_int : Tryz.prog.cellsOf 3 = 1 := by kernel_rfl
theorem cell_addr' {w : World} {a : Addr} {v : Value} (h : w.cell? a = some v) : a.spot = none ∧ a.block < w.heap.size := by
  obtain ⟨e, n, h1, h2, h3⟩ := World.shape?_of_cell? h
  refine ⟨h3, ?_⟩
  rcases Nat.lt_or_ge a.block w.heap.size with h4 | h4
  · exact h4
  · simp [World.cell?, Array.getElem?_eq_none h4] at h
/-- A slice of ints that came in. -/
theorem ints_in' {H : Type} {enc : TypeId × Value → H} {W : World} {b0 fuel : Nat} {spare : Nat → Bool} {held : Bool} {v : Value} {x : DataW H × List MemPlace} (hf : DataW.trod enc Tryz.prog W b0 spare held fuel 41 [v] = some x) :
    ∃ (al : Option Addr) (n cl : Nat) (xs : List Int), v = .slice al n cl ∧ (n ≤ 1000000 → IRow W al n xs) := by
  rcases open_ints Tryz.underlying41 Tryz.underlying3 cells_int hf with ⟨hcs, _⟩ | ⟨a, len, cap, zs, hcs, _, hl, hm, hz, _, hcell, _⟩
  · obtain rfl : v = .slice none 0 0 := by simpa using hcs
    exact ⟨none, 0, 0, [], rfl, fun _ => IRow.nil _ _⟩
  · obtain rfl : v = .slice (some a) len cap := by simpa using hcs
    have hzl : len ≤ zs.length := by rw [hz]; split <;> omega
    refine ⟨some a, len, cap, zs.take len, rfl, fun hn => ⟨by simp; omega, by omega, fun h0 => ?_⟩⟩
    have hc0 := hcell 0 (by omega)
    have e0 : a.add 0 = a := by simp [Addr.add]
    rw [e0] at hc0
    obtain ⟨h1, h2⟩ := cell_addr' hc0
    obtain ⟨b, o, s⟩ := a
    simp only at h1 h2
    subst h1
    refine ⟨b, o, rfl, h2, fun j y hy => ?_⟩
    have hj : j < len := by
      rcases Nat.lt_or_ge j len with h | h
      · exact h
      · rw [List.getElem?_eq_none (by simp; omega)] at hy; cases hy
    rw [List.getElem?_take_of_lt hj] at hy
    have := hcell j (by omega)
    rw [List.getD, hy] at this
    by_cases hj0 : j = 0 <;> simp_all [Addr.add]
set_option maxRecDepth 100000 in
theorem rows_args (H : Type) (enc : TypeId × Value → H) (W : World) (base : Nat) (v0 v1 : Value) (d0 d1 : DataW H) (p0 p1 : List MemPlace)
    (hv0 : Value.okWide Tryz.prog W .any base 41 v0) (hv1 : Value.okWide Tryz.prog W .any base 3 v1)
    (h0 : DataW.Trod enc Tryz.prog W 0 (fun _ => true) true 41 v0 d0 p0) (h1 : DataW.Trod enc Tryz.prog W 0 (fun _ => true) true 3 v1 d1 p1)
    (m : Int) (hL : LaidE m W) : Calls Tryz.prog 6 #[v0, v1] W fun e w' => e = .returned (.bool true) ∧ Below W.heap.size W w' := by
  obtain ⟨fuel, hm⟩ := h0
  obtain ⟨a', n', c', rfl⟩ := okWide_slice Tryz.underlying41 hv0
  obtain ⟨al, n, cl, xs, he, hI⟩ := ints_in' (show DataW.trod enc Tryz.prog W 0 (fun _ => true) true fuel 41 [.slice a' n' c'] = some (d0, p0) from hm)
  injection he with e1 e2 e3
  subst e1 e2 e3
  obtain ⟨a, rfl⟩ := okWide_int Tryz.underlying3 hv1
  exact rows_any xs n' a' c' a m W hL hI
end
end Go.Proofs.YtfagfkfcokmclaaGreatDoor

/- The document's answer for layer 18, Do: its four kinds are Reverse, Remove, Insert and Part. -/
import Derived.Test.YtpnlhkpibgngbaaSqD
import Derived.Laws.AppendOwnNone
set_option linter.unusedSimpArgs false
namespace Go.Proofs.Ytpnlhkpibgngbaa
open Go.RowKit Go.Sort

theorem infoI3 : (Try.prog.info? 3).map (fun i => (i.zero, i.size, i.bytes)) = some (some (.int .i64 0), 1, 8) := by kernel_rfl
theorem grown_below {w w' : World} {base : Nat} {v : Value} {xs : List Int} (h : ORow w base v xs) (hg : w.grownBy w' v.ownBlock) (hb : base ≤ w.heap.size) : Below base w w' :=
  (Below.refl base w).grown hg hb fun k hk => by
    rcases h.cases with ⟨rfl, _⟩ | ⟨g, cap, cur, rfl, h1, _⟩
    · simp [Value.ownBlock] at hk
    · simp [Value.ownBlock] at hk; omega
/-- 'append(own, row...)'. -/
theorem wpList_app {ops : Array Oper} {rest : List Oper} {o : Oper} {a : Act} {Q : Exit → Act → World → Prop} {w : World} (hgd : o.guard = none) (s x : Operand)
    (ho : o.op = .call { callee := .builtin .append, args := #[s, x], argTypes := #[33, 33] }) (base : Nat) (v : Value) (xs ys : List Int) (hs : a.eval s = v) (hown : ORow w base v xs)
    (ax : Option Addr) (m c : Nat) (hx : a.eval x = .slice ax m c) (hI : IRow w ax m ys) (h0 : ax = none → c = 0) (hl : xs.length + m ≤ 10000000) (hb : base ≤ w.heap.size)
    (h : ∀ v' w', ORow w' base v' (xs ++ ys) → Below base w w' → wpList Try.prog ops Q rest (a.put o.dst v') w') : wpList Try.prog ops Q (o :: rest) a w := by
  obtain ⟨i0, hi, hz0, hz1, hz2⟩ := info_parts infoI3
  obtain ⟨rfl, -, hc⟩ := hI
  cases ax with
  | none =>
    have hy : ys = [] := by
      rcases Nat.eq_zero_or_pos ys.length with h | h
      · exact List.length_eq_zero_iff.1 h
      · obtain ⟨b, o, hh, -⟩ := hc h
        cases hh
    subst hy
    obtain rfl := h0 rfl
    exact wpList_append_own_none hgd s x 33 ho base 3 i0 1 Try.underlying33 hi v xs.length (xs.map (Value.int .i64)) hs hown hx (h v w (by rw [List.append_nil]; exact hown) (Below.refl _ _))
  | some ad =>
    refine wpList_append_own w hgd s x 33 ho base 3 i0 (.int .i64 0) 1 8 Try.underlying33 hi hz0 hz1 hz2 rfl (by decide) v xs.length (xs.map (Value.int .i64)) hs hown ad ys.length c (ys.map (Value.int .i64)) hx (by simp) (fun j u hj => ?_) (one_ints ys) (by unfold maxLen; omega) (by omega) hb (fun v' w' h1 h2 _ => h v' w' ?_ (grown_below hown h2 hb))
    · have hj' : j < ys.length := by
        rcases Nat.lt_or_ge j ys.length with h | h
        · exact h
        · rw [List.getElem?_eq_none (by simp; omega)] at hj; cases hj
      obtain ⟨b, q, he, hl, hcell⟩ := hc (by omega)
      cases he
      simp only [List.getElem?_map] at hj
      obtain ⟨y, hy, rfl⟩ := Option.map_eq_some_iff.1 hj
      have := hcell j y hy
      by_cases h0 : j = 0 <;> simp_all [Addr.add]
    · unfold ORow
      simpa using h1

theorem take_next {xs : List Int} {j : Nat} {x : Int} (h : xs[j]? = some x) : xs.take (j + 1) = xs.take j ++ [x] := by rw [List.take_add_one, h]; rfl
/-- Remove's round. -/
theorem rem_next {xs : List Int} {j : Nat} {x : Int} (k : Int) (h : xs[j]? = some x) : remF (xs.take (j + 1)) k = remF (xs.take j) k ++ (if (j : Int) + 1 ≠ k then [x] else []) := by
  have hj : j < xs.length := by
    rcases Nat.lt_or_ge j xs.length with h' | h'
    · exact h'
    · rw [List.getElem?_eq_none h'] at h; cases h
  have l1 : (xs.take (j + 1)).length = j + 1 := by simp; omega
  have l0 : (xs.take j).length = j := by simp; omega
  unfold remF
  rw [l1, l0]
  by_cases h1 : k < 1
  · rw [if_pos (.inl h1), if_pos (.inl h1), if_pos (by omega), take_next h]
  · by_cases h2 : (j : Int) + 1 < k
    · rw [if_pos (.inr (by omega)), if_pos (.inr (by omega)), if_pos (by omega), take_next h]
    · by_cases h3 : (j : Int) + 1 = k
      · rw [if_neg (by omega), if_pos (.inr (by omega)), if_neg (by omega), take_next h]
        have e : (k - 1).toNat = j := by omega
        rw [e]
        simp [cutF, l0, List.take_append, List.drop_append]
      · rw [if_neg (by omega), if_neg (by omega), if_pos h3, take_next h]
        obtain ⟨i, hi, hij⟩ : ∃ i : Nat, (k - 1).toNat = i ∧ i < j := ⟨(k - 1).toNat, rfl, by omega⟩
        rw [hi]
        simp only [cutF]
        rw [List.take_append_of_le_length (by omega), List.drop_append_of_le_length (by omega), List.append_assoc]
/-- Insert's rounds: what stands after j. -/
def insF (xs ys : List Int) (k : Int) (j : Nat) : List Int :=
  if k < 1 ∨ xs.length = 0 then ys ++ xs.take j else if k ≤ j then putF (xs.take j) ys (k - 1).toNat else if j = xs.length then xs ++ ys else xs.take j
theorem ins_next {xs : List Int} {j : Nat} {x : Int} (ys : List Int) (k : Int) (h : xs[j]? = some x) :
    insF xs ys k (j + 1) = ((insF xs ys k j ++ (if (j : Int) + 1 = k then ys else [])) ++ [x]) ++ (if (j : Int) + 1 = xs.length ∧ (xs.length : Int) < k then ys else []) := by
  have hj : j < xs.length := by
    rcases Nat.lt_or_ge j xs.length with h' | h'
    · exact h'
    · rw [List.getElem?_eq_none h'] at h; cases h
  have l0 : (xs.take j).length = j := by simp; omega
  unfold insF
  have hx0 : xs.length ≠ 0 := by omega
  by_cases h1 : k < 1
  · rw [if_pos (.inl h1), if_pos (.inl h1), if_neg (show ¬ ((j : Int) + 1 = k) by omega), if_neg (show ¬ ((j : Int) + 1 = xs.length ∧ (xs.length : Int) < k) by omega), take_next h]
    simp
  · rw [if_neg (show ¬ (k < 1 ∨ xs.length = 0) by omega), if_neg (show ¬ (k < 1 ∨ xs.length = 0) by omega)]
    by_cases h2 : (j : Int) + 1 = k
    · rw [if_pos (show k ≤ ((j + 1 : Nat) : Int) by omega), if_neg (show ¬ (k ≤ (j : Int)) by omega), if_neg (show ¬ (j = xs.length) by omega), if_pos h2, if_neg (show ¬ ((j : Int) + 1 = xs.length ∧ (xs.length : Int) < k) by omega), show (k - 1).toNat = j by omega, take_next h]
      simp [putF, l0, List.take_append, List.drop_append]
    · rw [if_neg h2]
      by_cases h3 : k ≤ j
      · rw [if_pos (show k ≤ ((j + 1 : Nat) : Int) by omega), if_pos h3, if_neg (show ¬ ((j : Int) + 1 = xs.length ∧ (xs.length : Int) < k) by omega), take_next h]
        obtain ⟨i, hi, hij⟩ : ∃ i : Nat, (k - 1).toNat = i ∧ i < j := ⟨(k - 1).toNat, rfl, by omega⟩
        rw [hi]
        simp only [putF]
        rw [List.take_append_of_le_length (by omega), List.drop_append_of_le_length (by omega)]
        simp
      · rw [if_neg (show ¬ (k ≤ ((j + 1 : Nat) : Int)) by omega), if_neg h3, if_neg (show ¬ (j = xs.length) by omega)]
        by_cases h4 : j + 1 = xs.length
        · rw [if_pos h4, if_pos (show (j : Int) + 1 = xs.length ∧ (xs.length : Int) < k by omega), List.append_nil, ← take_next h, h4, List.take_of_length_le (Nat.le_refl _)]
        · rw [if_neg h4, if_neg (show ¬ ((j : Int) + 1 = xs.length ∧ (xs.length : Int) < k) by omega), List.append_nil, List.append_nil, take_next h]
theorem ins_all (xs ys : List Int) (k : Int) : insF xs ys k xs.length = putF xs ys (plF xs.length k) := by
  unfold insF
  rw [List.take_of_length_le (Nat.le_refl _)]
  by_cases h0 : xs.length = 0
  · have : xs = [] := List.length_eq_zero_iff.1 h0
    subst this
    simp [putF]
  · by_cases h1 : k < 1
    · rw [if_pos (.inl h1), show plF xs.length k = 0 by unfold plF; rw [if_pos h1]]
      simp [putF]
    · rw [if_neg (by omega)]
      by_cases h2 : k ≤ xs.length
      · rw [if_pos h2, show plF xs.length k = (k - 1).toNat by unfold plF; rw [if_neg h1, if_neg (by omega)]]
      · rw [if_neg h2, if_pos rfl, show plF xs.length k = xs.length by unfold plF; rw [if_neg h1]; split <;> omega, putF_end]
/-- Part's round. -/
theorem part_next {xs : List Int} {j : Nat} {x : Int} (f e : Int) (h : xs[j]? = some x) : partF (xs.take (j + 1)) f e = partF (xs.take j) f e ++ (if f ≤ (j : Int) + 1 ∧ (j : Int) + 1 < e then [x] else []) := by
  have hj : j < xs.length := by
    rcases Nat.lt_or_ge j xs.length with h' | h'
    · exact h'
    · rw [List.getElem?_eq_none h'] at h; cases h
  have l1 : (xs.take (j + 1)).length = j + 1 := by simp; omega
  have l0 : (xs.take j).length = j := by simp; omega
  unfold partF
  rw [l1, l0, take_next h]
  obtain ⟨i, hi⟩ : ∃ i : Nat, (max f 1 - 1).toNat = i := ⟨_, rfl⟩
  rw [hi]
  by_cases h1 : j < i
  · rw [List.drop_of_length_le (by simp; omega), List.drop_of_length_le (by omega), if_neg (by omega)]
    simp
  · rw [List.drop_append_of_le_length (by omega)]
    have l2 : ((xs.take j).drop i).length = j - i := by simp; omega
    generalize (xs.take j).drop i = L at *
    by_cases h2 : (j : Int) + 1 < e
    · rw [if_pos (by omega), List.take_of_length_le (by simp; omega), List.take_of_length_le (by omega)]
    · rw [if_neg (by omega), List.append_nil, List.take_append_of_le_length (by omega)]
      congr 1
      omega
end Go.Proofs.Ytpnlhkpibgngbaa

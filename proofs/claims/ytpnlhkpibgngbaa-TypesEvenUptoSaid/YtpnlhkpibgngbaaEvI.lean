/- Items apart from occurrences: mixing is commutative and associative, by a look at all kinds and at names told by numbers. -/
import Derived.Test.YtpnlhkpibgngbaaMixP
set_option linter.unusedSimpArgs false
set_option linter.unusedVariables false
namespace Go.Proofs.Ytpnlhkpibgngbaa
open Go.RowKit

def pickN (c x y : Nat) : Nat := if c = 0 then x else if c = 1 then y else 0
/-- leastF's item, the names told by numbers (0: no name). -/
def leastN (a b : Int × Nat) : Int × Nat :=
  let r := leastC a.1 b.1 (a.2 == 0) (b.2 == 0) (b.2 == a.2)
  (r.1, pickN r.2 a.2 b.2)
def its (m : Nat) : List (Int × Nat) := (List.range 14).map (fun (i : Nat) => ((i : Int), 0)) ++ (List.range m).flatMap fun k => [(8, k + 1), (9, k + 1)]
theorem its_mem {m : Nat} {i : Int} {x : Nat} (h0 : 0 ≤ i) (h1 : i ≤ 13) (hx : x ≤ m) (hn : x = 0 ∨ i = 8 ∨ i = 9) : (i, x) ∈ its m := by
  unfold its
  rw [List.mem_append]
  by_cases h : x = 0
  · left
    rw [List.mem_map]
    exact ⟨i.toNat, List.mem_range.2 (by omega), by rw [h, Int.toNat_of_nonneg h0]⟩
  · right
    rw [List.mem_flatMap]
    refine ⟨x - 1, List.mem_range.2 (by omega), ?_⟩
    have e : x - 1 + 1 = x := by omega
    rw [e]
    rcases hn with h2 | rfl | rfl
    · exact absurd h2 h
    · simp
    · simp
theorem swaps : (its 1).all (fun a => (its 2).all fun b => leastN a b == leastN b a) = true := by decide +kernel
theorem thirds : (its 1).all (fun a => (its 2).all fun b => (its 3).all fun c => leastN (leastN a b) c == leastN a (leastN b c)) = true := by decide +kernel

/-- The names' numbers: the place in such a list. -/
def num (L : List (List UInt8)) (s : ByteArray) : Nat := L.idxOf s.toList
theorem num_inj {L : List (List UInt8)} {s t : ByteArray} (hs : s.toList ∈ L) (ht : t.toList ∈ L) (h : num L s = num L t) : s = t := by
  have h1 := List.getElem_idxOf (List.idxOf_lt_length_of_mem hs)
  have h2 := List.getElem_idxOf (List.idxOf_lt_length_of_mem ht)
  unfold num at h
  refine tl_inj ?_
  rw [← h1, ← h2]
  congr 1
theorem num_nil (L : List (List UInt8)) : num ([] :: L) ⟨#[]⟩ = 0 := by simp [num, em_nil]
theorem beq_num {L : List (List UInt8)} {s t : ByteArray} (hs : s.toList ∈ L) (ht : t.toList ∈ L) : (t.toList == s.toList) = (num L t == num L s) := by
  rw [Bool.eq_iff_iff]
  simp only [beq_iff_eq]
  exact ⟨fun h => by rw [tl_inj h], fun h => by rw [num_inj ht hs h]⟩
theorem emp_num {L : List (List UInt8)} {s : ByteArray} (hs : s.toList ∈ ([] :: L : List (List UInt8))) : s.toList.isEmpty = (num ([] :: L) s == 0) := by
  have h := beq_num (L := [] :: L) (s := ⟨#[]⟩) (t := s) (by rw [em_nil]; simp) hs
  rw [num_nil, em_nil] at h
  rw [← h]
  cases s.toList <;> rfl
theorem least_num (L : List (List UInt8)) (a b : T3) (ha : a.n.toList ∈ ([] :: L : List (List UInt8))) (hb : b.n.toList ∈ ([] :: L : List (List UInt8))) :
    ((leastF a b).i, num ([] :: L) (leastF a b).n) = leastN (a.i, num ([] :: L) a.n) (b.i, num ([] :: L) b.n) ∧ (leastF a b).n.toList ∈ ([] :: L : List (List UInt8)) := by
  have h := leastF_i a b
  rw [emp_num ha, emp_num hb, beq_num ha hb] at h
  simp only [leastN]
  rw [h.1, h.2]
  generalize (leastC a.i b.i (num ([] :: L) a.n == 0) (num ([] :: L) b.n == 0) (num ([] :: L) b.n == num ([] :: L) a.n)) = r
  obtain ⟨r1, r2⟩ := r
  unfold pick3 pickN
  dsimp only
  by_cases h0 : r2 = 0
  · rw [if_pos h0, if_pos h0]; exact ⟨rfl, ha⟩
  rw [if_neg h0, if_neg h0]
  by_cases h1 : r2 = 1
  · rw [if_pos h1, if_pos h1]; exact ⟨rfl, hb⟩
  rw [if_neg h1, if_neg h1, num_nil]
  exact ⟨rfl, by rw [em_nil]; simp⟩
theorem num_le1 (s : ByteArray) (L : List (List UInt8)) : num ([] :: s.toList :: L) s ≤ 1 := by
  simp only [num, List.idxOf_cons, beq_self_eq_true, cond_true]
  cases ([] == s.toList) <;> simp
theorem num_le2 (t : List UInt8) (s : ByteArray) (L : List (List UInt8)) : num ([] :: t :: s.toList :: L) s ≤ 2 := by
  simp only [num, List.idxOf_cons, beq_self_eq_true, cond_true]
  cases ([] == s.toList) <;> cases (t == s.toList) <;> simp
theorem num_le3 (u t : List UInt8) (s : ByteArray) (L : List (List UInt8)) : num ([] :: u :: t :: s.toList :: L) s ≤ 3 := by
  simp only [num, List.idxOf_cons, beq_self_eq_true, cond_true]
  cases ([] == s.toList) <;> cases (t == s.toList) <;> cases (u == s.toList) <;> simp
theorem nm_num {L : List (List UInt8)} {a : T3} (h : a.ri) (ha : a.n.toList ∈ ([] :: L : List (List UInt8))) : num ([] :: L) a.n = 0 ∨ a.i = 8 ∨ a.i = 9 := by
  rcases h.nm with h | h
  · left
    rw [emp_num ha] at h
    simpa using h
  · exact .inr h

theorem least_swap {a b : T3} (ha : a.ri) (hb : b.ri) : (leastF a b).i = (leastF b a).i ∧ (leastF a b).n = (leastF b a).n := by
  have ma : a.n.toList ∈ ([[], a.n.toList, b.n.toList] : List (List UInt8)) := by simp
  have mb : b.n.toList ∈ ([[], a.n.toList, b.n.toList] : List (List UInt8)) := by simp
  obtain ⟨h1, m1⟩ := least_num [a.n.toList, b.n.toList] a b ma mb
  obtain ⟨h2, m2⟩ := least_num [a.n.toList, b.n.toList] b a mb ma
  have h := swaps
  rw [List.all_eq_true] at h
  have h := h _ (its_mem ha.lo ha.hi (num_le1 a.n [b.n.toList]) (nm_num ha ma))
  rw [List.all_eq_true] at h
  have h := h _ (its_mem hb.lo hb.hi (num_le2 a.n.toList b.n []) (nm_num hb mb))
  have h := eq_of_beq h
  rw [← h1, ← h2] at h
  exact ⟨congrArg (·.1) h, num_inj m1 m2 (congrArg (·.2) h)⟩
theorem least_third {a b c : T3} (ha : a.ri) (hb : b.ri) (hc : c.ri) : (leastF (leastF a b) c).i = (leastF a (leastF b c)).i ∧ (leastF (leastF a b) c).n = (leastF a (leastF b c)).n := by
  have ma : a.n.toList ∈ ([[], a.n.toList, b.n.toList, c.n.toList] : List (List UInt8)) := by simp
  have mb : b.n.toList ∈ ([[], a.n.toList, b.n.toList, c.n.toList] : List (List UInt8)) := by simp
  have mc : c.n.toList ∈ ([[], a.n.toList, b.n.toList, c.n.toList] : List (List UInt8)) := by simp
  obtain ⟨h1, m1⟩ := least_num [a.n.toList, b.n.toList, c.n.toList] a b ma mb
  obtain ⟨h2, m2⟩ := least_num [a.n.toList, b.n.toList, c.n.toList] b c mb mc
  obtain ⟨h3, m3⟩ := least_num [a.n.toList, b.n.toList, c.n.toList] (leastF a b) c m1 mc
  obtain ⟨h4, m4⟩ := least_num [a.n.toList, b.n.toList, c.n.toList] a (leastF b c) ma m2
  have h := thirds
  rw [List.all_eq_true] at h
  have h := h _ (its_mem ha.lo ha.hi (num_le1 a.n [b.n.toList, c.n.toList]) (nm_num ha ma))
  rw [List.all_eq_true] at h
  have h := h _ (its_mem hb.lo hb.hi (num_le2 a.n.toList b.n [c.n.toList]) (nm_num hb mb))
  rw [List.all_eq_true] at h
  have h := h _ (its_mem hc.lo hc.hi (num_le3 a.n.toList b.n.toList c.n []) (nm_num hc mc))
  have h := eq_of_beq h
  rw [← h1, ← h2, ← h3, ← h4] at h
  exact ⟨congrArg (·.1) h, num_inj m3 m4 (congrArg (·.2) h)⟩
end Go.Proofs.Ytpnlhkpibgngbaa

/- Stable sorting, in plain words: what an exchange, a rotation and a merge keep and make of an array of ints under a key. -/
import Derived.Sort.Lot0
set_option linter.unusedSimpArgs false
set_option linter.unusedVariables false
namespace Go.Proofs.Ytpnlhkpibgngbaa
open Go.Sort

section
variable (κ : Int → Int)
/-- Those with this key, in their order. -/
def filt (r : Int) (l : List Int) : List Int := l.filter (fun x => κ x == r)
theorem filt_append (r : Int) (l l' : List Int) : filt κ r (l ++ l') = filt κ r l ++ filt κ r l' := List.filter_append ..
/-- From a to b turned, each key's own order kept. -/
structure St (a b : Nat) (d d' : Array Int) : Prop where
  size : d'.size = d.size
  out : ∀ i, i < a ∨ b ≤ i → d'[i]! = d[i]!
  fil : ∀ r, filt κ r d'.toList = filt κ r d.toList
theorem St.refl (a b : Nat) (d : Array Int) : St κ a b d d := ⟨rfl, fun _ _ => rfl, fun _ => rfl⟩
variable {κ}
theorem St.trans {a b : Nat} {d d' d'' : Array Int} (h : St κ a b d d') (h' : St κ a b d' d'') : St κ a b d d'' :=
  ⟨h'.size.trans h.size, fun i hi => (h'.out i hi).trans (h.out i hi), fun r => (h'.fil r).trans (h.fil r)⟩
theorem St.mono {a b a' b' : Nat} {d d' : Array Int} (h : St κ a b d d') (ha : a' ≤ a) (hb : b ≤ b') : St κ a' b' d d' := ⟨h.size, fun i hi => h.out i (by omega), h.fil⟩
theorem get_lt (d : Array Int) (i : Nat) (h : i < d.size) : d.toList[i]? = some d[i]! := by
  simp [h]
/-- What holds of all from a to b still does. -/
theorem St.all {a b : Nat} {d d' : Array Int} (h : St κ a b d d') (hb : b ≤ d.size) (Q : Int → Prop) (hq : ∀ i, a ≤ i → i < b → Q d[i]!) : ∀ i, a ≤ i → i < b → Q d'[i]! := by
  intro i ha hi
  have hs := h.size
  have e1 : d.toList = d.toList.take a ++ ((d.toList.drop a).take (b - a) ++ d.toList.drop b) := by
    conv => lhs; rw [← List.take_append_drop a d.toList, ← List.take_append_drop (b - a) (d.toList.drop a), List.drop_drop, show a + (b - a) = b by omega]
  have e2 : d'.toList = d'.toList.take a ++ ((d'.toList.drop a).take (b - a) ++ d'.toList.drop b) := by
    conv => lhs; rw [← List.take_append_drop a d'.toList, ← List.take_append_drop (b - a) (d'.toList.drop a), List.drop_drop, show a + (b - a) = b by omega]
  have hget : ∀ j, (j < a ∨ b ≤ j) → d'.toList[j]? = d.toList[j]? := fun j hj => by
    by_cases hjs : j < d.size
    · rw [get_lt d j hjs, get_lt d' j (by omega), h.out j hj]
    · rw [List.getElem?_eq_none (by simp; omega), List.getElem?_eq_none (by simp; omega)]
  have p1 : d'.toList.take a = d.toList.take a := by
    apply List.ext_getElem?
    intro j
    by_cases hj : j < a
    · rw [List.getElem?_take_of_lt hj, List.getElem?_take_of_lt hj, hget j (.inl hj)]
    · rw [List.getElem?_eq_none (by simp; omega), List.getElem?_eq_none (by simp; omega)]
  have p2 : d'.toList.drop b = d.toList.drop b := by
    apply List.ext_getElem?
    intro j
    rw [List.getElem?_drop, List.getElem?_drop, hget (b + j) (.inr (by omega))]
  have hf := h.fil (κ d'[i]!)
  rw [e1, e2, filt_append, filt_append, filt_append, filt_append, p1, p2] at hf
  have hf := List.append_cancel_right (List.append_cancel_left hf)
  have hm : d'[i]! ∈ filt κ (κ d'[i]!) ((d'.toList.drop a).take (b - a)) := by
    unfold filt
    rw [List.mem_filter]
    refine ⟨?_, by simp⟩
    refine List.mem_of_getElem? (i := i - a) ?_
    rw [List.getElem?_take_of_lt (by omega), List.getElem?_drop, show a + (i - a) = i by omega, get_lt d' i (by omega)]
  rw [hf] at hm
  unfold filt at hm
  rw [List.mem_filter] at hm
  obtain ⟨k, hk⟩ := List.mem_iff_getElem?.1 hm.1
  have hkl : k < b - a := by
    rcases Nat.lt_or_ge k (b - a) with h | h
    · exact h
    · rw [List.getElem?_eq_none (by simp; omega)] at hk; cases hk
  rw [List.getElem?_take_of_lt hkl, List.getElem?_drop, get_lt d (a + k) (by omega)] at hk
  have := hq (a + k) (by omega) (by omega)
  rwa [Option.some.inj hk] at this

/-- In order by the key from a to b. -/
def srt (κ : Int → Int) (a b : Nat) (d : Array Int) : Prop := ∀ i j, a ≤ i → i < j → j < b → κ d[i]! ≤ κ d[j]!
theorem srt.mono {a b a' b' : Nat} {d : Array Int} (h : srt κ a b d) (ha : a ≤ a') (hb : b' ≤ b) : srt κ a' b' d := fun i j h1 h2 h3 => h i j (by omega) h2 (by omega)
theorem srt.congr {a b : Nat} {d d' : Array Int} (h : srt κ a b d) (he : ∀ i, a ≤ i → i < b → d'[i]! = d[i]!) : srt κ a b d' := fun i j h1 h2 h3 => by
  rw [he i h1 (by omega), he j (by omega) h3]; exact h i j h1 h2 h3
/-- Kept where it isn't turned. -/
theorem St.srt_out {a b a' b' : Nat} {d d' : Array Int} (h : St κ a b d d') (hs : srt κ a' b' d) (hd : b' ≤ a ∨ b ≤ a') : srt κ a' b' d' := hs.congr fun i h1 h2 => h.out i (by omega)

theorem two_split (d : Array Int) (j : Nat) (hj : j + 1 < d.size) : d.toList = d.toList.take j ++ ([d[j]!, d[j + 1]!] ++ d.toList.drop (j + 2)) := by
  apply List.ext_getElem?
  intro k
  have l1 : (d.toList.take j).length = j := by simp; omega
  rw [List.getElem?_append, l1]
  by_cases h1 : k < j
  · rw [if_pos h1, List.getElem?_take_of_lt h1]
  · rw [if_neg h1, List.getElem?_append]
    by_cases h2 : k - j < 2
    · rw [if_pos (by simpa using h2)]
      have : k = j ∨ k = j + 1 := by omega
      rcases this with rfl | rfl
      · rw [get_lt d k (by omega)]; simp
      · rw [get_lt d (j + 1) hj]; simp
    · rw [if_neg (by simpa using h2), List.getElem?_drop]
      congr 1
      simp
      omega
/-- Two that stand side by side, their keys apart, exchanged. -/
theorem St.swap {a b j : Nat} {d : Array Int} (ha : a ≤ j) (hb : j + 1 < b) (hs : j + 1 < d.size) (hk : κ d[j]! ≠ κ d[j + 1]!) : St κ a b d (swp d (j + 1) j) := by
  have g1 : (swp d (j + 1) j)[j + 1]! = d[j]! := swp_left d (j + 1) j hs (by omega)
  have g0 : (swp d (j + 1) j)[j]! = d[j + 1]! := swp_right d (j + 1) j (by omega)
  refine ⟨size_swp .., fun i hi => swp_other _ _ _ _ (by omega) (by omega), fun r => ?_⟩
  rw [two_split (swp d (j + 1) j) j (by rw [size_swp]; exact hs), two_split d j hs, g0, g1]
  have p1 : (swp d (j + 1) j).toList.take j = d.toList.take j := by
    apply List.ext_getElem?
    intro k
    by_cases h : k < j
    · rw [List.getElem?_take_of_lt h, List.getElem?_take_of_lt h, get_lt _ k (by rw [size_swp]; omega), get_lt _ k (by omega), swp_other _ _ _ _ (by omega) (by omega)]
    · rw [List.getElem?_eq_none (by simp; omega), List.getElem?_eq_none (by simp; omega)]
  have p2 : (swp d (j + 1) j).toList.drop (j + 2) = d.toList.drop (j + 2) := by
    apply List.ext_getElem?
    intro k
    rw [List.getElem?_drop, List.getElem?_drop]
    by_cases h : j + 2 + k < d.size
    · rw [get_lt _ _ (by rw [size_swp]; exact h), get_lt _ _ h, swp_other _ _ _ _ (by omega) (by omega)]
    · rw [List.getElem?_eq_none (by simp [size_swp]; omega), List.getElem?_eq_none (by simp; omega)]
  simp only [filt_append, p1, p2]
  congr 2
  unfold filt
  simp only [List.filter]
  cases e1 : (κ d[j]! == r) <;> cases e2 : (κ d[j + 1]! == r)
  · rfl
  · rfl
  · rfl
  · exact absurd ((by simpa using e1 : κ d[j]! = r).trans (by simpa using e2 : κ d[j + 1]! = r).symm) hk

/-- Kit's insertion sort keeps each key's order .. -/
def ltK (κ : Int → Int) (x y : Int) : Bool := decide (κ x - κ y < 0)
theorem inner_st (a b : Nat) : ∀ (j : Nat) (d : Array Int), j < b → b ≤ d.size → St κ a b d (insInner (ltK κ) a j d)
  | 0, d, _, _ => by unfold insInner; exact St.refl κ a b d
  | j + 1, d, hj, hb => by
    unfold insInner
    split
    · rename_i h
      simp only [ltK, Bool.and_eq_true, decide_eq_true_eq] at h
      have h1 : St κ a b d (swp d (j + 1) j) := St.swap (by omega) (by omega) (by omega) (by omega)
      exact h1.trans (inner_st a b j _ (by omega) (by rw [size_swp]; exact hb))
    · exact St.refl κ a b d
theorem outer_st (a b : Nat) : ∀ (f i : Nat) (d : Array Int), b - i = f → b ≤ d.size → St κ a b d (insOuter (ltK κ) a b i d) := by
  intro f
  induction f with
  | zero =>
    intro i d hf hb
    unfold insOuter
    rw [if_neg (by omega)]
    exact St.refl κ a b d
  | succ f ih =>
    intro i d hf hb
    unfold insOuter
    rw [if_pos (by omega)]
    have h1 := inner_st (κ := κ) a b i d (by omega) hb
    exact h1.trans (ih (i + 1) _ (by omega) (by rw [h1.size]; exact hb))
/-- .. and puts in order. -/
theorem inner_srt (a : Nat) : ∀ (j : Nat) (d : Array Int) (i : Nat), a ≤ j → j ≤ i → i < d.size → srt κ a j d → srt κ (j + 1) (i + 1) d → (∀ p q, a ≤ p → p < j → j < q → q ≤ i → κ d[p]! ≤ κ d[q]!) → (∀ q, j < q → q ≤ i → κ d[j]! ≤ κ d[q]!) → srt κ a (i + 1) (insInner (ltK κ) a j d)
  | 0, d, i, h1, h2, h3, s1, s2, c, e => by
    unfold insInner
    intro p q hp hpq hq
    by_cases h0 : p = 0
    · subst h0; exact e q hpq (by omega)
    · exact s2 p q (by omega) hpq hq
  | j + 1, d, i, h1, h2, h3, s1, s2, c, e => by
    unfold insInner
    split
    · rename_i h
      simp only [ltK, Bool.and_eq_true, decide_eq_true_eq] at h
      have g1 : (swp d (j + 1) j)[j + 1]! = d[j]! := swp_left d (j + 1) j (by omega) (by omega)
      have g0 : (swp d (j + 1) j)[j]! = d[j + 1]! := swp_right d (j + 1) j (by omega)
      have g2 : ∀ k, k ≠ j → k ≠ j + 1 → (swp d (j + 1) j)[k]! = d[k]! := fun k h1 h2 => swp_other _ _ _ _ h2 h1
      refine inner_srt a j _ i (by omega) (by omega) (by rw [size_swp]; exact h3) ?_ ?_ ?_ ?_
      · intro p q hp hpq hq
        rw [g2 p (by omega) (by omega), g2 q (by omega) (by omega)]
        exact s1 p q hp hpq (by omega)
      · intro p q hp hpq hq
        rw [g2 q (by omega) (by omega)]
        by_cases hp1 : p = j + 1
        · subst hp1; rw [g1]; exact c j q (by omega) (by omega) (by omega) (by omega)
        · rw [g2 p (by omega) hp1]; exact s2 p q (by omega) hpq hq
      · intro p q hp hpj hq hqi
        rw [g2 p (by omega) (by omega)]
        by_cases hq1 : q = j + 1
        · subst hq1; rw [g1]; exact s1 p j hp hpj (by omega)
        · rw [g2 q (by omega) hq1]; exact c p q hp (by omega) (by omega) hqi
      · intro q hq hqi
        rw [g0]
        by_cases hq1 : q = j + 1
        · subst hq1; rw [g1]; omega
        · rw [g2 q (by omega) hq1]; exact e q (by omega) hqi
    · rename_i h
      simp only [ltK, Bool.and_eq_true, decide_eq_true_eq, not_and] at h
      intro p q hp hpq hq
      by_cases hq1 : q ≤ j
      · exact s1 p q hp hpq (by omega)
      · by_cases hp1 : p ≤ j
        · by_cases hq2 : q = j + 1
          · subst hq2
            by_cases haj : a < j + 1
            · have h5 := h (by omega)
              by_cases hpj : p = j
              · subst hpj; omega
              · have := s1 p j hp (by omega) (by omega)
                omega
            · omega
          · exact c p q hp (by omega) (by omega) (by omega)
        · by_cases hp2 : p = j + 1
          · subst hp2; exact e q hpq (by omega)
          · exact s2 p q (by omega) hpq hq
theorem outer_srt (a b : Nat) : ∀ (f i : Nat) (d : Array Int), b - i = f → a < i → b ≤ d.size → srt κ a i d → srt κ a b (insOuter (ltK κ) a b i d) := by
  intro f
  induction f with
  | zero =>
    intro i d hf ha hb hs
    unfold insOuter
    rw [if_neg (by omega)]
    exact hs.mono (Nat.le_refl _) (by omega)
  | succ f ih =>
    intro i d hf ha hb hs
    unfold insOuter
    rw [if_pos (by omega)]
    have h1 := inner_st (κ := κ) a b i d (by omega) hb
    refine ih (i + 1) _ (by omega) (by omega) (by rw [h1.size]; exact hb) ?_
    exact inner_srt a i d i (by omega) (Nat.le_refl _) (by omega) hs (fun p q h1 h2 h3 => by omega) (fun p q h1 h2 h3 h4 => by omega) (fun q h1 h2 => by omega)
theorem ins_st (a b : Nat) (d : Array Int) (hb : b ≤ d.size) : St κ a b d (insertionSort (ltK κ) d a b) := outer_st a b _ (a + 1) d rfl hb
theorem ins_srt (a b : Nat) (d : Array Int) (hb : b ≤ d.size) : srt κ a b (insertionSort (ltK κ) d a b) := outer_srt a b _ (a + 1) d rfl (by omega) hb (fun p q h1 h2 h3 => by omega)
end
end Go.Proofs.Ytpnlhkpibgngbaa

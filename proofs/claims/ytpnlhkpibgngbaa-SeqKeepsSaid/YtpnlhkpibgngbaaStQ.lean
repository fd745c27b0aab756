/- Stable sorting, in plain words: rotating, and the merge's step. -/
import Derived.Test.YtpnlhkpibgngbaaStP
set_option linter.unusedSimpArgs false
set_option linter.unusedVariables false
namespace Go.Proofs.Ytpnlhkpibgngbaa
open Go.Sort

/-- Where it came from: two runs of n exchanged. -/
def swI (a b n t : Nat) : Nat := if a ≤ t ∧ t < a + n then b + (t - a) else if b ≤ t ∧ t < b + n then a + (t - b) else t
/-- Where it came from: from a to b turned round, m coming to the head. -/
def rotI (a m b t : Nat) : Nat := if a ≤ t ∧ t < a + (b - m) then m + (t - a) else if a + (b - m) ≤ t ∧ t < b then a + (t - (a + (b - m))) else t
theorem swI_next (a b k t : Nat) (hab : a + k < b) (d : Array Int) (hb : b + k < d.size) (e : Array Int) (hs : e.size = d.size) (h : ∀ t, e[t]! = d[swI a b k t]!) : (swp e (a + k) (b + k))[t]! = d[swI a b (k + 1) t]! := by
  by_cases h1 : t = a + k
  · subst h1
    rw [swp_left _ _ _ (by omega) (by omega), h]
    congr 1
    unfold swI
    repeat' split
    all_goals omega
  · by_cases h2 : t = b + k
    · subst h2
      rw [swp_right _ _ _ (by omega), h]
      congr 1
      unfold swI
      repeat' split
      all_goals omega
    · rw [swp_other _ _ _ _ h1 h2, h]
      congr 1
      unfold swI
      repeat' split
      all_goals omega
theorem rot_left (m i j t : Nat) (hi : i ≤ m) (hij : j < i) : swI (m - i) m j (rotI (m - (i - j)) m (m + j) t) = rotI (m - i) m (m + j) t := by
  unfold swI rotI
  repeat' split
  all_goals omega
theorem rot_right (m i j t : Nat) (hi : i ≤ m) (hij : i < j) : swI (m - i) (m + j - i) i (rotI (m - i) m (m + (j - i)) t) = rotI (m - i) m (m + j) t := by
  unfold swI rotI
  repeat' split
  all_goals omega
theorem rot_end (m i t : Nat) (hi : i ≤ m) : swI (m - i) m i t = rotI (m - i) m (m + i) t := by
  unfold swI rotI
  repeat' split
  all_goals omega

section
variable {κ : Int → Int}
theorem filt_comm (r : Int) (A B : List Int) (h : ∀ x ∈ A, ∀ y ∈ B, κ y < κ x) : filt κ r A ++ filt κ r B = filt κ r B ++ filt κ r A := by
  by_cases hA : filt κ r A = []
  · rw [hA]; simp
  · obtain ⟨x, hx⟩ := List.exists_mem_of_ne_nil _ hA
    unfold filt at hx
    rw [List.mem_filter] at hx
    have hB : filt κ r B = [] := by
      unfold filt
      rw [List.filter_eq_nil_iff]
      intro y hy hyr
      have h1 := h x hx.1 y hy
      have h2 : κ x = r := by simpa using hx.2
      have h3 : κ y = r := by simpa using hyr
      omega
    rw [hB]; simp
theorem four_split (d : Array Int) (a m b : Nat) (ham : a ≤ m) (hmb : m ≤ b) : d.toList = d.toList.take a ++ ((d.toList.drop a).take (m - a) ++ ((d.toList.drop m).take (b - m) ++ d.toList.drop b)) := by
  conv => lhs; rw [← List.take_append_drop a d.toList, ← List.take_append_drop (m - a) (d.toList.drop a), List.drop_drop, show a + (m - a) = m by omega, ← List.take_append_drop (b - m) (d.toList.drop m), List.drop_drop, show m + (b - m) = b by omega]
theorem mem_seg {d : Array Int} {a m : Nat} {x : Int} (hm : m ≤ d.size) (h : x ∈ (d.toList.drop a).take (m - a)) : ∃ k, a ≤ k ∧ k < m ∧ d[k]! = x := by
  obtain ⟨k, hk⟩ := List.mem_iff_getElem?.1 h
  have hkl : k < m - a := by
    rcases Nat.lt_or_ge k (m - a) with h | h
    · exact h
    · rw [List.getElem?_eq_none (by simp; omega)] at hk; cases hk
  rw [List.getElem?_take_of_lt hkl, List.getElem?_drop, get_lt d (a + k) (by omega)] at hk
  exact ⟨a + k, by omega, by omega, Option.some.inj hk⟩
theorem rot_st {d d' : Array Int} {a m b : Nat} (ham : a ≤ m) (hmb : m ≤ b) (hb : b ≤ d.size) (hs : d'.size = d.size) (h : ∀ t, d'[t]! = d[rotI a m b t]!) (hc : ∀ x y, a ≤ x → x < m → m ≤ y → y < b → κ d[y]! < κ d[x]!) : St κ a b d d' := by
  refine ⟨hs, fun i hi => ?_, fun r => ?_⟩
  · rw [h]
    congr 1
    unfold rotI
    repeat' split
    all_goals omega
  · have e' : d'.toList = d.toList.take a ++ ((d.toList.drop m).take (b - m) ++ ((d.toList.drop a).take (m - a) ++ d.toList.drop b)) := by
      have l1 : (d.toList.take a).length = a := by simp; omega
      have l2 : ((d.toList.drop m).take (b - m)).length = b - m := by simp; omega
      have l3 : ((d.toList.drop a).take (m - a)).length = m - a := by simp; omega
      apply List.ext_getElem?
      intro k
      by_cases hk : k < d.size
      · rw [get_lt d' k (by omega), h k, List.getElem?_append, l1]
        unfold rotI
        by_cases k1 : k < a
        · rw [if_pos k1, List.getElem?_take_of_lt k1, get_lt d k hk, if_neg (by omega), if_neg (by omega)]
        · rw [if_neg k1, List.getElem?_append, l2]
          by_cases k2 : k < a + (b - m)
          · rw [if_pos (by omega), List.getElem?_take_of_lt (by omega), List.getElem?_drop, get_lt d _ (by omega), if_pos (by omega)]
          · rw [if_neg (show ¬ (k - a < b - m) by omega), List.getElem?_append, l3]
            by_cases k3 : k < b
            · rw [if_pos (show k - a - (b - m) < m - a by omega), List.getElem?_take_of_lt (show k - a - (b - m) < m - a by omega), List.getElem?_drop, get_lt d _ (show a + (k - a - (b - m)) < d.size by omega), if_neg (show ¬ (a ≤ k ∧ k < a + (b - m)) by omega), if_pos (show a + (b - m) ≤ k ∧ k < b by omega)]
              congr 2
              omega
            · rw [if_neg (show ¬ (k - a - (b - m) < m - a) by omega), List.getElem?_drop, show b + (k - a - (b - m) - (m - a)) = k by omega, get_lt d k hk, if_neg (show ¬ (a ≤ k ∧ k < a + (b - m)) by omega), if_neg (show ¬ (a + (b - m) ≤ k ∧ k < b) by omega)]
      · rw [List.getElem?_eq_none (by simp; omega), List.getElem?_eq_none (by simp; omega)]
    rw [e', four_split d a m b ham hmb]
    simp only [filt_append]
    rw [← four_split d a m b ham hmb]
    have hcm := filt_comm (κ := κ) r ((d.toList.drop a).take (m - a)) ((d.toList.drop m).take (b - m)) (fun x hx y hy => by
      obtain ⟨i, hi1, hi2, rfl⟩ := mem_seg (by omega) hx
      obtain ⟨j, hj1, hj2, rfl⟩ := mem_seg hb hy
      exact hc i j hi1 hi2 hj1 hj2)
    congr 1
    rw [← List.append_assoc, ← List.append_assoc, hcm]

/-- The merge's search is at its end: what it has found. -/
theorem cut_facts {d : Array Int} {a m b start : Nat} (h1 : srt κ a m d) (h2 : srt κ m b d) (ham : a ≤ m) (hmb : m ≤ b) (hs1 : a ≤ start) (hs2 : start ≤ m) (hs3 : start ≤ (a + b) / 2) (hs4 : (a + b) / 2 + m - start ≤ b) (hs5 : m ≤ (a + b) / 2 + m - start)
    (i1 : start = a ∨ (a + b) / 2 + m - start = b ∨ ¬ κ d[(a + b) / 2 + m - start]! < κ d[start - 1]!) (i2 : start = m ∨ start = (a + b) / 2 ∨ κ d[(a + b) / 2 + m - 1 - start]! < κ d[start]!) :
    (∀ x y, start ≤ x → x < m → m ≤ y → y < (a + b) / 2 + m - start → κ d[y]! < κ d[x]!) ∧ (∀ x y, a ≤ x → x < start → (a + b) / 2 + m - start ≤ y → y < b → κ d[x]! ≤ κ d[y]!) := by
  generalize hmid : (a + b) / 2 = mid at *
  constructor
  · intro x y hx1 hx2 hy1 hy2
    rcases i2 with h | h | h
    · omega
    · omega
    · have k1 : κ d[start]! ≤ κ d[x]! := by
        by_cases hh : start = x
        · rw [hh]; exact Int.le_refl _
        · exact h1 start x hs1 (by omega) hx2
      have k2 : κ d[y]! ≤ κ d[mid + m - 1 - start]! := by
        by_cases hh : y = mid + m - 1 - start
        · rw [hh]; exact Int.le_refl _
        · exact h2 y _ hy1 (by omega) (by omega)
      omega
  · intro x y hx1 hx2 hy1 hy2
    rcases i1 with h | h | h
    · omega
    · omega
    · have k1 : κ d[x]! ≤ κ d[start - 1]! := by
        by_cases hh : x = start - 1
        · rw [hh]; exact Int.le_refl _
        · exact h1 x _ hx1 (by omega) (by omega)
      have k2 : κ d[mid + m - start]! ≤ κ d[y]! := by
        by_cases hh : mid + m - start = y
        · rw [hh]; exact Int.le_refl _
        · exact h2 _ y (by omega) (by omega) hy2
      omega
/-- Behind the rotation: two runs each side, and the sides apart. -/
theorem rot_facts {d d' : Array Int} {a m b start mid e : Nat} (h1 : srt κ a m d) (h2 : srt κ m b d) (hs1 : a ≤ start) (hs2 : start ≤ m) (hme : m ≤ e) (heb : e ≤ b) (hse : start + e = mid + m) (h : ∀ t, d'[t]! = d[rotI start m e t]!)
    (c1 : ∀ x y, start ≤ x → x < m → m ≤ y → y < e → κ d[y]! < κ d[x]!) (c2 : ∀ x y, a ≤ x → x < start → e ≤ y → y < b → κ d[x]! ≤ κ d[y]!) :
    srt κ a start d' ∧ srt κ start mid d' ∧ srt κ mid e d' ∧ srt κ e b d' ∧ ∀ i j, a ≤ i → i < mid → mid ≤ j → j < b → κ d'[i]! ≤ κ d'[j]! := by
  have g1 : ∀ t, t < start ∨ e ≤ t → d'[t]! = d[t]! := fun t ht => by
    rw [h]; congr 1; unfold rotI; repeat' split
    all_goals omega
  have g2 : ∀ t, start ≤ t → t < mid → d'[t]! = d[m + (t - start)]! := fun t h1 h2 => by
    rw [h]; congr 1; unfold rotI; repeat' split
    all_goals omega
  have g3 : ∀ t, mid ≤ t → t < e → d'[t]! = d[start + (t - mid)]! := fun t h1 h2 => by
    rw [h]; congr 1; unfold rotI; repeat' split
    all_goals omega
  refine ⟨?_, ?_, ?_, ?_, ?_⟩
  · intro i j hi hij hj
    rw [g1 i (by omega), g1 j (by omega)]; exact h1 i j hi hij (by omega)
  · intro i j hi hij hj
    rw [g2 i hi (by omega), g2 j (by omega) hj]; exact h2 _ _ (by omega) (by omega) (by omega)
  · intro i j hi hij hj
    rw [g3 i hi (by omega), g3 j (by omega) hj]; exact h1 _ _ (by omega) (by omega) (by omega)
  · intro i j hi hij hj
    rw [g1 i (by omega), g1 j (by omega)]; exact h2 i j (by omega) hij hj
  · intro i j hi1 hi2 hj1 hj2
    by_cases p : i < start
    · rw [g1 i (by omega)]
      by_cases q : j < e
      · rw [g3 j hj1 q]
        exact h1 i _ hi1 (by omega) (by omega)
      · rw [g1 j (by omega)]
        exact c2 i j hi1 p (by omega) hj2
    · rw [g2 i (by omega) hi2]
      by_cases q : j < e
      · rw [g3 j hj1 q]
        exact Int.le_of_lt (c1 _ _ (by omega) (by omega) (by omega) (by omega))
      · rw [g1 j (by omega)]
        exact h2 _ j (by omega) (by omega) hj2
/-- Both sides put in order: the whole is. -/
theorem join_srt {d d2 d3 : Array Int} {a mid b : Nat} (ha : a ≤ mid) (hb : mid ≤ b) (hsz : b ≤ d.size) (hl : St κ a mid d d2) (sl : srt κ a mid d2) (hr : St κ mid b d2 d3) (sr : srt κ mid b d3) (hc : ∀ i j, a ≤ i → i < mid → mid ≤ j → j < b → κ d[i]! ≤ κ d[j]!) :
    St κ a b d d3 ∧ srt κ a b d3 := by
  have hs2 := hl.size
  refine ⟨(hl.mono (Nat.le_refl _) hb).trans (hr.mono ha (Nat.le_refl _)), ?_⟩
  have c2 : ∀ i j, a ≤ i → i < mid → mid ≤ j → j < b → κ d2[i]! ≤ κ d2[j]! := fun i j h1 h2 h3 h4 => by
    rw [hl.out j (by omega)]
    exact hl.all (by omega) (fun x => κ x ≤ κ d[j]!) (fun k hk1 hk2 => hc k j hk1 hk2 h3 h4) i h1 h2
  have c3 : ∀ i j, a ≤ i → i < mid → mid ≤ j → j < b → κ d3[i]! ≤ κ d3[j]! := fun i j h1 h2 h3 h4 => by
    rw [hr.out i (by omega)]
    exact hr.all (by omega) (fun y => κ d2[i]! ≤ κ y) (fun k hk1 hk2 => c2 i k h1 h2 hk1 hk2) j h3 h4
  intro i j h1 h2 h3
  by_cases hj : j < mid
  · rw [hr.out i (by omega), hr.out j (by omega)]; exact sl i j h1 h2 hj
  · by_cases hi : mid ≤ i
    · exact sr i j hi h2 h3
    · exact c3 i j h1 (by omega) (by omega) h3
end
end Go.Proofs.Ytpnlhkpibgngbaa

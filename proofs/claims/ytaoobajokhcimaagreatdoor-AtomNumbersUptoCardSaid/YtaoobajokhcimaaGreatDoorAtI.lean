/- Atomic values, plain: whole parts, texts' validity, what a cast gives is right. -/
import Derived.Test.YtaoobajokhcimaaGreatDoorAtH
import Derived.Test.YtaoobajokhcimaaGreatDoorDeQ
set_option linter.unusedSimpArgs false
set_option linter.unusedVariables false
namespace Go.Proofs.YtaoobajokhcimaaGreatDoor

theorem trunc0 (n : Int) : truncF n 0 = n := by unfold truncF; simp
theorem tdiv_abs (n d : Int) (hd : 1 ≤ d) : (n.tdiv d).natAbs ≤ n.natAbs := by
  rw [Int.natAbs_tdiv]
  exact Nat.div_le_self _ _
theorem trunc_Rt {n s : Int} (h : Rt n s) : Rt (truncF n s) 0 := by
  have h1 := tdiv_abs n (10 ^ s.toNat) (by have := pow10_pos s.toNat; omega)
  have := h.lo
  have := h.hi
  unfold truncF
  exact Rt.whole (by omega) (by omega)
/-- The way cut short is the floor or the ceiling. -/
theorem trunc_ceil {n s : Int} (h : n < 0) : ceilF n s = truncF n s := by
  unfold ceilF truncF
  have h0 : n.tmod (10 ^ s.toNat) ≤ 0 := by
    have := Int.tmod_nonneg (a := -n) (10 ^ s.toNat) (by omega)
    rw [Int.neg_tmod] at this
    omega
  have e : decide (0 < n.tmod (10 ^ s.toNat)) = false := by simp; omega
  rw [e]
  rfl
theorem trunc_floor {n s : Int} (h : 0 ≤ n) : floorF n s = truncF n s := by
  unfold floorF truncF
  have h0 := Int.tmod_nonneg (a := n) (10 ^ s.toNat) h
  have e : decide (n.tmod (10 ^ s.toNat) < 0) = false := by simp; omega
  rw [e]
  rfl
theorem cmpF_lt {n s k t : Int} (ha : Rt n s) (hb : Rt k t) (h : val9 n s < val9 k t) : cmpF n s k t = -1 := by
  rw [cmpF_val ha hb, if_neg (by omega), if_pos h]
theorem cmpF_gt {n s k t : Int} (ha : Rt n s) (hb : Rt k t) (h : val9 k t < val9 n s) : cmpF n s k t = 1 := by
  rw [cmpF_val ha hb, if_neg (by omega), if_neg (by omega)]
theorem val9_sign {u v : Int} : (val9 u v = 0 ↔ u = 0) ∧ (0 < val9 u v ↔ 0 < u) := by
  unfold val9
  have hp := pow10_pos (9 - v).toNat
  refine ⟨⟨fun h => ?_, fun h => by rw [h]; simp⟩, ⟨fun h => ?_, fun h => Int.mul_pos h hp⟩⟩
  · rcases Int.mul_eq_zero.1 h with h | h
    · exact h
    · omega
  · rcases (show 0 < u ∨ u ≤ 0 by omega) with h' | h'
    · exact h'
    · have := Int.mul_nonpos_of_nonpos_of_nonneg h' (Int.le_of_lt hp)
      omega
/-- The whole part is within one of the number, on its side of nought. -/
theorem trunc_near {n s : Int} (h : Rt n s) : ∃ u v, subF n s (truncF n s) 0 = (u, v, 0) ∧ Rt u v ∧ cmpF u v 1 0 = -1 ∧ cmpF u v (-1) 0 = 1 ∧ (u = 0 ∨ (decide (0 < u) = decide (0 < n))) := by
  have hp := pow10_pos s.toNat
  have hT := trunc_Rt h
  have e1 := Int.mul_tdiv_add_tmod n (10 ^ s.toNat)
  have hv : val9 n s - val9 (truncF n s) 0 = n.tmod (10 ^ s.toNat) * 10 ^ (9 - s).toNat := by
    unfold val9 truncF
    have e9 : (10 : Int) ^ (9 - 0 : Int).toNat = 10 ^ s.toNat * 10 ^ (9 - s).toNat := by
      rw [← Int.pow_add]
      congr 1
      have := h.s0
      have := h.s9
      omega
    rw [e9]
    generalize n.tdiv (10 ^ s.toNat) = q at *
    generalize n.tmod (10 ^ s.toNat) = r at *
    generalize (10 : Int) ^ (9 - s).toNat = y at *
    generalize (10 : Int) ^ s.toNat = x at *
    subst e1
    rw [Int.add_mul, Int.mul_comm x q, Int.mul_assoc]
    omega
  have e9 : (10 : Int) ^ s.toNat * 10 ^ (9 - s).toNat = 1000000000 := by
    rw [← Int.pow_add, show s.toNat + (9 - s).toNat = 9 by have := h.s0; have := h.s9; omega]
    decide
  have hlt := Int.tmod_lt_of_pos n hp
  have hgt := Int.lt_tmod_of_pos n hp
  have hq := pow10_pos (9 - s).toNat
  have b1 : n.tmod (10 ^ s.toNat) * 10 ^ (9 - s).toNat < 1000000000 := by
    rw [← e9]
    exact Int.mul_lt_mul_of_pos_right hlt hq
  have b2 : -1000000000 < n.tmod (10 ^ s.toNat) * 10 ^ (9 - s).toNat := by
    rw [← e9, ← Int.neg_mul]
    exact Int.mul_lt_mul_of_pos_right hgt hq
  obtain ⟨u, v, hs, hR, hV⟩ := sub_near h hT (by rw [hv]; omega)
  rw [hv] at hV
  have v1 : val9 1 0 = 1000000000 := by decide
  have v2 : val9 (-1) 0 = -1000000000 := by decide
  refine ⟨u, v, hs, hR, cmpF_lt hR (Rt.whole (by omega) (by omega)) (by rw [hV, v1]; exact b1), cmpF_gt hR (Rt.whole (by omega) (by omega)) (by rw [hV, v2]; exact b2), ?_⟩
  obtain ⟨s1, s2⟩ := val9_sign (u := u) (v := v)
  rw [hV] at s1 s2
  by_cases hu : u = 0
  · exact Or.inl hu
  · right
    have hr0 : n.tmod (10 ^ s.toNat) ≠ 0 := fun h0 => hu (s1.1 (by rw [h0]; simp))
    have hr : (0 < n.tmod (10 ^ s.toNat) * 10 ^ (9 - s).toNat) ↔ 0 < n.tmod (10 ^ s.toNat) := by
      constructor
      · intro h0
        rcases (show 0 < (n.tmod (10 ^ s.toNat)) ∨ (n.tmod (10 ^ s.toNat)) ≤ 0 by omega) with h' | h'
        · exact h'
        · have := Int.mul_nonpos_of_nonpos_of_nonneg h' (Int.le_of_lt hq)
          omega
      · intro h0
        exact Int.mul_pos h0 hq
    have hn : 0 < n.tmod (10 ^ s.toNat) ↔ 0 < n := by
      constructor
      · intro h0
        rcases (show 0 < n ∨ n ≤ 0 by omega) with h' | h'
        · exact h'
        · exfalso
          have := Int.tmod_nonneg (a := -n) (10 ^ s.toNat) (by omega)
          rw [Int.neg_tmod] at this
          omega
      · intro h0
        have := Int.tmod_nonneg (a := n) (10 ^ s.toNat) (by omega)
        omega
    rw [decide_eq_decide]
    exact s2.symm.trans (hr.trans hn)

/-- Plain letters are a valid text. -/
theorem valid_ascii (t : ByteArray) (h : ∀ x ∈ t.data.toList, 32 ≤ x.toNat ∧ x.toNat < 127) : validF t = true := by
  have hL : t.data.toList.length = t.size := by simp
  have hb : ∀ i, i < t.size → 32 ≤ byteAt t i ∧ byteAt t i < 127 := by
    intro i hi
    unfold byteAt
    have := h (t.data[i]?.getD 0) (by
      rw [← Array.getElem?_toList, List.getElem?_eq_getElem (by omega)]
      simp)
    omega
  have key : ∀ (k j : Nat), t.size < k + j → ∃ l, ptsR t k j = some l ∧ l.all xmlF = true := by
    intro k
    induction k with
    | zero => intro j hj; exact ⟨[], rfl, rfl⟩
    | succ k ih =>
      intro j hj
      by_cases hjs : j < t.size
      · have e0 : byteAt (t.extract j t.size) 0 = byteAt t j := by
          rw [byteAt_drop t j 0 (by omega)]
          unfold byteAt
          rw [List.getD_eq_getElem?_getD, List.getElem?_drop, ← Array.getElem?_toList]
          simp
        obtain ⟨b1, b2⟩ := hb j hjs
        have en : nextF (t.extract j t.size) = (byteAt t j, 1) := by
          unfold nextF nextG
          rw [e0, if_pos (by omega)]
        obtain ⟨l, hl, ha⟩ := ih (j + 1) (by omega)
        refine ⟨byteAt t j :: l, ?_, ?_⟩
        · unfold ptsR
          rw [if_pos hjs, en]
          show (if (1 : Int) = 0 then _ else (ptsR t k (j + (1 : Int).toNat)).map _) = _
          rw [if_neg (by omega)]
          show (ptsR t k (j + 1)).map _ = _
          rw [hl]
          rfl
        · rw [List.all_cons, ha]
          unfold xmlF
          simp
          omega
      · refine ⟨[], ?_, rfl⟩
        unfold ptsR
        rw [if_neg hjs]
  obtain ⟨l, hl, ha⟩ := key (t.size + 1) 0 (by omega)
  unfold validF pointsF
  rw [hl]
  exact ha
theorem numC_bd {x : UInt8} (h : numC x = true) : 32 ≤ x.toNat ∧ x.toNat < 127 := by
  have : ∀ n : Fin 256, numC (UInt8.ofNat n.val) = true → 32 ≤ (UInt8.ofNat n.val).toNat ∧ (UInt8.ofNat n.val).toNat < 127 := by decide +kernel
  have h' := this ⟨x.toNat, x.toNat_lt⟩
  simp only [UInt8.ofNat_toNat] at h'
  exact h' h
theorem valid_text {a : At} (h : RA a) : validF (textF a) = true := by
  cases h with
  | int n h =>
    refine valid_ascii _ fun x hx => ?_
    have hx' : x ∈ Lib.itoa n := hx
    rw [itoa_format] at hx'
    exact numC_bd (format_chars n 0 x hx')
  | dec n s h =>
    refine valid_ascii _ fun x hx => ?_
    exact numC_bd (format_chars n s.toNat x hx)
  | str t h => exact h
  | bool b => cases b <;> exact valid_ascii _ (by decide)
  | raw t h => exact h
theorem RA_text {a : At} (h : RA a) : RA (textA (textF a)) := RA.str _ (valid_text h)
theorem RA_raw {a : At} (h : RA a) : RA (rawA (textF a)) := RA.raw _ (valid_text h)
theorem fitW_Rt (neg : Bool) (m s : Nat) (h : (fitW neg m s).2.2 = 0) : Rt (fitW neg m s).1 (fitW neg m s).2.1 := by
  rcases fitW_cases neg m s with h1 | ⟨n, k, h1, h2, -⟩
  · rw [h1] at h
    cases h
  · rw [h1]
    exact h2
theorem parse_Rt (l : List UInt8) (h : (parseF l).2.2 = 0) : Rt (parseF l).1 (parseF l).2.1 := by
  unfold parseF at *
  split
  · exact Rt.zero
  · rename_i hc
    rw [if_neg hc] at h
    exact fitW_Rt _ _ _ h
theorem castE_zero {e : Int} : castE e = 0 ↔ e = 0 := by
  unfold castE
  by_cases h : e = 12
  · subst h; decide
  · have : (e == 12) = false := by simpa using h
    rw [this]
    rfl
theorem number_Rt (t : ByteArray) (h : (numberF t).2.2 = 0) : Rt (numberF t).1 (numberF t).2.1 := parse_Rt _ (castE_zero.1 h)
/-- What a cast gives is right. -/
theorem cast_RA {a : At} (h : RA a) (to : Int) (h0 : (castF a to).2 = 0) : RA (castF a to).1 := by
  have hi : ∀ x : At, x.k = 2 ∨ x.k = 4 ∨ True → (x.k = 2 → Rt x.n x.s) → (toIntF x).2 = 0 → RA (toIntF x).1 := by
    intro x _ hx hz
    unfold toIntF at *
    by_cases e2 : (x.k == 2) = true
    · rw [if_pos e2]
      exact RA.int _ (trunc_Rt (hx (by simpa using e2)))
    · rw [if_neg e2] at hz ⊢
      by_cases e4 : (x.k == 4) = true
      · rw [if_pos e4]
        cases x.b
        · exact RA.int _ Rt.zero
        · exact RA.int _ (Rt.whole (by decide) (by decide))
      · rw [if_neg e4] at hz ⊢
        split at hz
        · cases hz
        · rename_i hc
          rw [if_neg hc]
          split at hz
          · rename_i hd
            rw [if_pos hd]
            have := number_Rt x.t (by simpa using hd)
            exact RA.int _ (Rt.whole this.lo this.hi)
          · rename_i hd
            simp only at hz
            rw [hz] at hd
            exact absurd rfl hd
  have hd : (a.k = 1 → Rt a.n 0) → (toDecF a).2 = 0 → RA (toDecF a).1 := by
    intro h1 hz
    unfold toDecF at *
    by_cases e2 : (a.k == 1) = true
    · rw [if_pos e2]
      exact RA.dec _ _ (h1 (by simpa using e2))
    · rw [if_neg e2] at hz ⊢
      by_cases e4 : (a.k == 4) = true
      · rw [if_pos e4]
        cases a.b
        · exact RA.dec _ _ Rt.zero
        · exact RA.dec _ _ (Rt.whole (by decide) (by decide))
      · rw [if_neg e4] at hz ⊢
        split at hz
        · rename_i hd
          rw [if_pos hd]
          exact RA.dec _ _ (number_Rt a.t (by simpa using hd))
        · rename_i hd
          simp only at hz
          rw [hz] at hd
          exact absurd rfl hd
  have hb : (toBoolF a).2 = 0 → RA (toBoolF a).1 := by
    intro hz
    unfold toBoolF at *
    split
    · exact RA.bool _
    · rename_i c1
      rw [if_neg c1] at hz
      split
      · exact RA.bool _
      · rename_i c2
        rw [if_neg c2] at hz
        split
        · exact RA.bool _
        · rename_i c3
          rw [if_neg c3] at hz
          cases hz
  have k1 : a.k = 1 → Rt a.n 0 := by
    intro e
    cases h with
    | int n h => exact h
    | _ => cases e
  have k2 : a.k = 2 → Rt a.n a.s := by
    intro e
    cases h with
    | dec n s h => exact h
    | _ => cases e
  unfold castF at h0 ⊢
  by_cases c1 : (decide (to < 1) || decide (6 ≤ to)) = true
  · rw [if_pos c1] at h0
    cases h0
  · rw [if_neg c1] at h0 ⊢
    split
    · exact h
    · rename_i c2
      rw [if_neg c2] at h0
      split
      · rename_i c3
        rw [if_pos c3] at h0
        exact hi a (Or.inr (Or.inr trivial)) k2 h0
      · rename_i c3
        rw [if_neg c3] at h0
        split
        · rename_i c4
          rw [if_pos c4] at h0
          exact hd k1 h0
        · rename_i c4
          rw [if_neg c4] at h0
          split
          · rename_i c5
            rw [if_pos c5] at h0
            exact hb h0
          · split
            · exact RA_text h
            · exact RA_raw h
/-- Without a point there is no part behind it. -/
theorem cut_none {l : List UInt8} (h : l.contains 46 = false) : Lib.cut l [46] = (l, [], false) := by
  rw [cut_point]
  have h1 : ∀ x ∈ l, (x.toNat != 46) = true := by
    intro x hx
    simp only [bne_iff_ne]
    intro e
    have : x = 46 := UInt8.toNat_inj.1 e
    subst this
    simp at h
    exact h hx
  have e1 : l.takeWhile (fun b => b.toNat != 46) = l := by
    have : ∀ m : List UInt8, (∀ x ∈ m, (x.toNat != 46) = true) → m.takeWhile (fun b => b.toNat != 46) = m := by
      intro m
      induction m with
      | nil => intro _; rfl
      | cons c m ih =>
        intro hm
        rw [List.takeWhile_cons, hm c (by simp), ih (fun x hx => hm x (by simp [hx]))]
        rfl
    exact this l h1
  have e2 : l.dropWhile (fun b => b.toNat != 46) = [] := by
    rw [dropWhile_nil, List.all_eq_true]
    exact h1
  have e3 : l.any (fun b => b.toNat == 46) = false := by
    rw [List.any_eq_false]
    intro x hx
    have := h1 x hx
    simpa using this
  rw [e1, e2, e3]
  rfl
theorem fitW_scale0 (neg : Bool) (m : Nat) : (fitW neg m 0).2.1 = 0 := by
  rcases fitW_cases neg m 0 with h | ⟨n, k, h, hR, -, h2⟩
  · rw [h]
  · have h3 : val9 n k = val9 (sgn neg m) 0 := by
      rw [h2]
      simp [val9]
    rw [h]
    show k = 0
    have := uniq9 n (sgn neg m) k 0 h3 hR.s0 hR.s9 (by omega) (by omega) hR.nz (by omega)
    exact this.2
theorem parse_scale (l : List UInt8) (h : l.contains 46 = false) : (parseF l).2.1 = 0 := by
  have h2 : (signF l).2.contains 46 = false := by
    cases l with
    | nil => rfl
    | cons c r =>
      have hr : r.contains 46 = false := by
        simp at h ⊢
        exact h.2
      show (if c.toNat == 45 then (true, r) else if c.toNat == 43 then (false, r) else (false, c :: r)).2.contains 46 = false
      cases c.toNat == 45
      · cases c.toNat == 43
        · exact h
        · exact hr
      · exact hr
  unfold parseF
  rw [cut_none h2]
  split
  · rfl
  · exact fitW_scale0 _ _
end Go.Proofs.YtaoobajokhcimaaGreatDoor

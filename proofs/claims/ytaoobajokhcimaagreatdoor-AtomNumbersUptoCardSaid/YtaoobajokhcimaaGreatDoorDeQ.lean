/- The plain laws of the numbers: the order, sums, quotients, whole numbers next to one. -/
import Derived.Test.YtaoobajokhcimaaGreatDoorDeP
set_option linter.unusedSimpArgs false
set_option linter.unusedVariables false
namespace Go.Proofs.YtaoobajokhcimaaGreatDoor

theorem addF_comm (n s k t : Int) : addF n s k t = addF k t n s := by
  unfold addF
  rw [Int.max_comm t s, Int.add_comm]
theorem mulF_comm (n s k t : Int) : mulF n s k t = mulF k t n s := by
  unfold mulF
  rw [Int.mul_comm, Int.add_comm]
section
variable {n s k t : Int} (ha : Rt n s) (hb : Rt k t)
include ha hb
theorem cmpF_neg : cmpF n s k t = - cmpF k t n s := by
  rw [cmpF_val ha hb, cmpF_val hb ha]
  generalize val9 n s = x
  generalize val9 k t = y
  rcases Int.lt_trichotomy x y with h | h | h
  · rw [if_neg (by omega), if_pos h, if_neg (by omega), if_neg (by omega)]
  · subst h; simp
  · rw [if_neg (by omega), if_neg (by omega), if_neg (by omega), if_pos h]
    rfl
theorem cmpF_zero : cmpF n s k t = 0 ↔ n = k ∧ s = t := by
  rw [cmpF_val ha hb]
  constructor
  · intro h
    split at h
    · rename_i h1
      exact Rt.uniq ha hb h1
    · split at h <;> omega
  · rintro ⟨rfl, rfl⟩
    rw [if_pos rfl]
theorem sub_back {u v : Int} (h : subF n s k t = (u, v, 0)) : addF u v k t = (n, s, 0) := by
  rcases subF_cases ha hb with h1 | ⟨u', v', h1, h2, h3⟩
  · rw [h1] at h; simp at h
  · rw [h1] at h
    simp at h
    obtain ⟨rfl, rfl⟩ := h
    exact addF_exact h2 hb n s ha (by omega)
theorem lvl_small : (lvl n s t).natAbs ≤ 999999999999999999 ∨ (lvl k t s).natAbs ≤ 999999999999999999 := by
  have h1 := ha.lo; have h2 := ha.hi; have h3 := hb.lo; have h4 := hb.hi
  rcases Int.le_total s t with h | h
  · right
    unfold lvl
    rw [show (max t s - t).toNat = 0 by omega, Int.pow_zero, Int.mul_one]
    omega
  · left
    unfold lvl
    rw [show (max s t - s).toNat = 0 by omega, Int.pow_zero, Int.mul_one]
    omega
omit ha in
theorem lvl_zero : lvl k t s = 0 ↔ k = 0 := by
  unfold lvl
  have := pow10_pos (max t s - t).toNat
  constructor
  · intro h
    rcases Int.mul_eq_zero.1 h with h | h
    · exact h
    · omega
  · rintro rfl
    exact Int.zero_mul _
theorem mod_small (hk : k ≠ 0) : ((lvl n s t).tmod (lvl k t s)).natAbs ≤ 999999999999999999 := by
  have hz : (lvl k t s).natAbs ≠ 0 := fun h => hk ((lvl_zero hb).1 (Int.natAbs_eq_zero.1 h))
  have e : ((lvl n s t).tmod (lvl k t s)).natAbs = (lvl n s t).natAbs % (lvl k t s).natAbs := Int.natAbs_tmod _ _
  have h1 := Nat.mod_lt (lvl n s t).natAbs (by omega : (lvl k t s).natAbs > 0)
  have h2 := Nat.mod_le (lvl n s t).natAbs (lvl k t s).natAbs
  rcases lvl_small ha hb with h | h <;> omega
/-- The rest: it is there, right, and has the first number's sign. -/
theorem modF_ok (hk : k ≠ 0) : ∃ u v, modF n s k t = (u, v, 0) ∧ Rt u v ∧ val9 u v = (lvl n s t).tmod (lvl k t s) * 10 ^ (9 - (max s t).toNat) ∧ (u ≠ 0 → (decide (u < 0) = decide (n < 0))) := by
  obtain ⟨u, v, h, h1, h2⟩ := fitZ_small ((lvl n s t).tmod (lvl k t s)) (max s t).toNat (max9 ha hb) (mod_small ha hb hk)
  refine ⟨u, v, by unfold modF; rw [if_neg (by simpa using hk)]; exact h, h1, h2, fun hu => ?_⟩
  unfold val9 at h2
  have p1 := pow10_pos (9 - v).toNat
  have p2 := pow10_pos (9 - (max s t).toNat)
  have p3 := pow10_pos (max s t - s).toNat
  generalize (10 : Int) ^ (9 - v).toNat = a1 at *
  generalize (10 : Int) ^ (9 - (max s t).toNat) = a2 at *
  have hx : (lvl n s t < 0 ↔ n < 0) ∧ (0 ≤ lvl n s t ↔ 0 ≤ n) := by
    unfold lvl
    generalize (10 : Int) ^ (max s t - s).toNat = a3 at *
    rcases Int.lt_or_le n 0 with h | h
    · have := Int.mul_neg_of_neg_of_pos h p3
      omega
    · have := Int.mul_nonneg h (Int.le_of_lt p3)
      omega
  generalize lvl n s t = X at *
  generalize lvl k t s = Y at *
  rcases Int.lt_or_le n 0 with hn | hn
  · have h4 : X.tmod Y ≤ 0 := (by have := Int.tmod_nonneg (a := -X) Y (by omega); rw [Int.neg_tmod] at this; omega)
    have h5 : X.tmod Y * a2 ≤ 0 := Int.mul_nonpos_of_nonpos_of_nonneg h4 (by omega)
    have h6 : u < 0 := by
      rcases Int.lt_or_le u 0 with h | h
      · exact h
      · have : 0 < u * a1 := Int.mul_pos (by omega) p1
        omega
    simp [h6, hn]
  · have h4 : 0 ≤ X.tmod Y := Int.tmod_nonneg Y (by omega)
    have h5 : 0 ≤ X.tmod Y * a2 := Int.mul_nonneg h4 (by omega)
    have h6 : ¬ u < 0 := by
      intro h
      have : u * a1 < 0 := Int.mul_neg_of_neg_of_pos h p1
      omega
    have h7 : ¬ n < 0 := by omega
    simp [h6, h7]
omit ha hb in
/-- The whole quotient. -/
theorem idivF_cases (hk : k ≠ 0) : idivF n s k t = (0, 0, 53) ∨ ∃ q, idivF n s k t = (q, 0, 0) ∧ q = (lvl n s t).tdiv (lvl k t s) ∧ Rt q 0 := by
  unfold idivF
  rw [if_neg (by simpa using hk)]
  rcases fitZ_cases ((lvl n s t).tdiv (lvl k t s)) 0 with h | ⟨u, v, h, h1, h2⟩
  · exact .inl h
  · right
    have e := h2 (by omega)
    have hv : v = 0 := by
      have : ((fitZ ((lvl n s t).tdiv (lvl k t s)) 0).2.1) = 0 := by
        unfold fitZ fitW normN
        simp
        split
        · rfl
        · split <;> rfl
      rw [h] at this
      exact this
    subst hv
    have : u = (lvl n s t).tdiv (lvl k t s) := by
      unfold val9 at e
      exact Int.eq_of_mul_eq_mul_right (by decide) e
    exact ⟨u, h, this, h1⟩
theorem mul_back {q u v : Int} (hk : k ≠ 0) (hq : idivF n s k t = (q, 0, 0)) (hr : modF n s k t = (u, v, 0)) {c d : Int} (hp : mulF q 0 k t = (c, d, 0)) : addF c d u v = (n, s, 0) := by
  rcases idivF_cases hk with h | ⟨q', h, h1, h2⟩
  · rw [h] at hq; simp at hq
  rw [h] at hq
  simp at hq
  subst hq
  obtain ⟨u', v', m1, m2, m3, -⟩ := modF_ok ha hb hk
  rw [m1] at hr
  simp at hr
  obtain ⟨rfl, rfl⟩ := hr
  have t0 := hb.s0
  have t9 := hb.s9
  unfold mulF at hp
  rcases fitZ_cases (q' * k) (0 + t).toNat with h3 | ⟨c', d', h3, h4, h5⟩
  · rw [h3] at hp; simp at hp
  rw [h3] at hp
  simp at hp
  obtain ⟨rfl, rfl⟩ := hp
  refine addF_exact h4 m2 n s ha ?_
  rw [h5 (by omega), m3]
  have e1 := lvl_val n s t ha.s0 ha.s9 hb.s9
  have e2 := lvl_val k t s hb.s0 hb.s9 ha.s9
  rw [Int.max_comm t s] at e2
  have e3 : val9 k t = k * 10 ^ (9 - (0 + t).toNat) := by
    unfold val9
    congr 2
    omega
  rw [Int.mul_assoc, ← e3, ← e1, ← e2, ← Int.mul_assoc, ← Int.add_mul]
  congr 1
  rw [h1]
  have := Int.tdiv_mul_add_tmod (lvl n s t) (lvl k t s)
  omega
end
theorem orders1 {n s k t c d : Int} (ha : Rt n s) (hb : Rt k t) (hc : Rt c d) (h1 : cmpF n s k t ≤ 0) (h2 : cmpF k t c d ≤ 0) : cmpF n s c d ≤ 0 ∧ (cmpF n s k t < 0 → cmpF n s c d < 0) := by
  rw [cmpF_val ha hb] at *
  rw [cmpF_val hb hc] at *
  rw [cmpF_val ha hc]
  generalize val9 n s = x at *
  generalize val9 k t = y at *
  generalize val9 c d = z at *
  repeat' split at h1
  all_goals repeat' split at h2
  all_goals repeat' split
  all_goals omega
theorem orders2 {n s k t c d u v x y : Int} (ha : Rt n s) (hb : Rt k t) (hc : Rt c d) (h1 : addF n s c d = (u, v, 0)) (h2 : addF k t c d = (x, y, 0)) : cmpF u v x y = cmpF n s k t := by
  rcases addF_cases ha hc with h | ⟨u', v', h, g1, g2⟩
  · rw [h] at h1; simp at h1
  rcases addF_cases hb hc with h' | ⟨x', y', h', g3, g4⟩
  · rw [h'] at h2; simp at h2
  rw [h] at h1
  rw [h'] at h2
  simp at h1 h2
  obtain ⟨rfl, rfl⟩ := h1
  obtain ⟨rfl, rfl⟩ := h2
  rw [cmpF_val g1 g3, cmpF_val ha hb, g2, g4]
  generalize val9 n s = x at *
  generalize val9 k t = y at *
  generalize val9 c d = z at *
  repeat' split
  all_goals omega

/-- Whole numbers next to one. -/
def floorF (n s : Int) : Int := if decide (n.tmod (10 ^ s.toNat) < 0) then n.tdiv (10 ^ s.toNat) - 1 else n.tdiv (10 ^ s.toNat)
def ceilF (n s : Int) : Int := if decide (0 < n.tmod (10 ^ s.toNat)) then n.tdiv (10 ^ s.toNat) + 1 else n.tdiv (10 ^ s.toNat)
def roundF (n s : Int) : Int := if s == 0 then n else if decide (0 ≤ cmpF (subF n s (floorF n s) 0).1 (subF n s (floorF n s) 0).2.1 5 1) then floorF n s + 1 else floorF n s
section
variable {n s : Int} (ha : Rt n s)
include ha
theorem ten_le (hs : 0 < s) : ∃ P : Int, (10 : Int) ^ s.toNat = P * 10 ∧ 0 < P ∧ P * 10 * 10 ^ (9 - s).toNat = 1000000000 := by
  refine ⟨10 ^ (s.toNat - 1), ?_, pow10_pos _, ?_⟩
  · rw [← Int.pow_succ]
    congr 1
    omega
  · rw [← Int.pow_succ, ← Int.pow_add]
    have h := ha.s9
    rw [show s.toNat - 1 + 1 + (9 - s).toNat = 9 by omega]
    rfl
/-- Where it is no whole number: the one below, the one above. -/
theorem floor_in (hs : 0 < s) : floorF n s * 1000000000 < val9 n s ∧ val9 n s < floorF n s * 1000000000 + 1000000000 ∧ ceilF n s = floorF n s + 1 ∧ -999999999999999998 ≤ floorF n s ∧ floorF n s ≤ 999999999999999997 := by
  obtain ⟨P, h1, h2, h3⟩ := ten_le ha hs
  have hz := ha.nz hs
  have hlo := ha.lo
  have hhi := ha.hi
  have hd := Int.tdiv_mul_add_tmod n (P * 10)
  have hb1 : (n.tmod (P * 10)).natAbs < P.natAbs * 10 := by
    rw [Int.natAbs_tmod, Int.natAbs_mul]
    refine Nat.mod_lt _ ?_
    show 0 < P.natAbs * 10
    omega
  have hne : n.tmod (P * 10) ≠ 0 := by
    intro h0
    rw [h0, Int.add_zero, ← Int.mul_assoc] at hd
    apply hz
    rw [← hd]
    exact Int.mul_emod_left _ _
  have hsz : (n.tdiv (P * 10)).natAbs * 10 ≤ n.natAbs := by
    rw [Int.natAbs_tdiv, Int.natAbs_mul]
    show n.natAbs / (P.natAbs * 10) * 10 ≤ n.natAbs
    have h5 : n.natAbs / (P.natAbs * 10) ≤ n.natAbs / 10 := by
      refine Nat.div_le_div_left ?_ (by omega)
      omega
    have : n.natAbs / 10 * 10 ≤ n.natAbs := Nat.div_mul_le_self _ _
    omega
  unfold floorF ceilF val9
  rw [h1]
  have hp := pow10_pos (9 - s).toNat
  generalize (10 : Int) ^ (9 - s).toNat = A at *
  generalize n.tdiv (P * 10) = q at *
  generalize n.tmod (P * 10) = r at *
  have e : n * A = q * 1000000000 + r * A := by
    rw [← hd, Int.add_mul, Int.mul_assoc q, h3]
  have h8 : -(P * 10) < r ∧ r < P * 10 := by omega
  have h9 : r * A < 1000000000 := by
    rw [← h3]
    exact Int.mul_lt_mul_of_pos_right h8.2 hp
  have h10 : -1000000000 < r * A := by
    have := Int.mul_lt_mul_of_pos_right h8.1 hp
    rw [Int.neg_mul, h3] at this
    omega
  rcases Int.lt_or_le r 0 with hr | hr
  · have h11 : r * A < 0 := Int.mul_neg_of_neg_of_pos hr hp
    rw [decide_eq_true hr, decide_eq_false (by omega), if_pos rfl, if_neg (by simp)]
    omega
  · have h11 : 0 < r * A := Int.mul_pos (by omega) hp
    rw [decide_eq_false (by omega), decide_eq_true (by omega), if_pos rfl, if_neg (by simp)]
    omega
omit ha in
theorem floor0 (n : Int) : floorF n 0 = n ∧ ceilF n 0 = n ∧ roundF n 0 = n := by
  simp [floorF, ceilF, roundF]
theorem floor_Rt : Rt (floorF n s) 0 ∧ Rt (ceilF n s) 0 := by
  have h0 := ha.s0
  rcases Int.lt_or_le 0 s with h | h
  · obtain ⟨h1, h2, h3, h4, h5⟩ := floor_in ha h
    rw [h3]
    exact ⟨Rt.whole (by omega) (by omega), Rt.whole (by omega) (by omega)⟩
  · have : s = 0 := by omega
    subst this
    obtain ⟨h1, h2, h3⟩ := floor0 n
    rw [h1, h2]
    exact ⟨ha, ha⟩
omit ha in
theorem val9_0 (n : Int) : val9 n 0 = n * 1000000000 := rfl
omit ha in
/-- A difference of less than one is there. -/
theorem sub_near {n s k t : Int} (ha : Rt n s) (hb : Rt k t) (h1 : (val9 n s - val9 k t).natAbs ≤ 1000000000) : ∃ u v, subF n s k t = (u, v, 0) ∧ Rt u v ∧ val9 u v = val9 n s - val9 k t := by
  have h := sub_val ha hb
  have hp := pow10_pos (9 - (max s t).toNat)
  have hsm : (lvl n s t - lvl k t s).natAbs ≤ 999999999999999999 := by
    have h2 : (lvl n s t - lvl k t s).natAbs * ((10 : Int) ^ (9 - (max s t).toNat)).natAbs = (val9 n s - val9 k t).natAbs := by
      rw [← h, Int.natAbs_mul]
    have h3 : (lvl n s t - lvl k t s).natAbs ≤ (lvl n s t - lvl k t s).natAbs * ((10 : Int) ^ (9 - (max s t).toNat)).natAbs := Nat.le_mul_of_pos_right _ (by omega)
    omega
  obtain ⟨u, v, g, g1, g2⟩ := fitZ_small _ _ (max9 ha hb) hsm
  exact ⟨u, v, g, g1, by rw [g2, h]⟩
theorem low_high : ∃ u v x y, subF n s (floorF n s) 0 = (u, v, 0) ∧ subF (ceilF n s) 0 n s = (x, y, 0) ∧ Rt u v ∧ Rt x y ∧ roundF n s = (if decide (0 ≤ cmpF u v x y) then ceilF n s else floorF n s) := by
  have h0 := ha.s0
  obtain ⟨f1, f2⟩ := floor_Rt ha
  rcases Int.lt_or_le 0 s with h | h
  · obtain ⟨h1, h2, h3, h4, h5⟩ := floor_in ha h
    obtain ⟨u, v, g, g1, g2⟩ := sub_near ha f1 (by rw [val9_0]; omega)
    obtain ⟨x, y, k, k1, k2⟩ := sub_near f2 ha (by rw [val9_0, h3]; omega)
    refine ⟨u, v, x, y, g, k, g1, k1, ?_⟩
    unfold roundF
    have e0 : (s == 0) = false := by simp; omega
    rw [e0, g, h3, if_neg (by simp)]
    have r5 : Rt 5 1 := ⟨by omega, by omega, by omega, by omega, by omega⟩
    have v5 : val9 5 1 = 500000000 := rfl
    have e : decide (0 ≤ cmpF u v 5 1) = decide (0 ≤ cmpF u v x y) := by
      rw [cmpF_val g1 r5, cmpF_val g1 k1, v5, g2, k2, val9_0, val9_0, h3]
      generalize val9 n s = X at *
      generalize floorF n s = F at *
      repeat' split
      all_goals first | rfl | omega
    rw [e]
  · have : s = 0 := by omega
    subst this
    obtain ⟨h1, h2, h3⟩ := floor0 n
    rw [h1, h2, h3]
    obtain ⟨u, v, g, g1, g2⟩ := sub_near ha ha (by omega)
    refine ⟨u, v, u, v, g, g, g1, g1, ?_⟩
    split <;> rfl
theorem floor_cmp : cmpF (floorF n s) 0 n s ≤ 0 ∧ 0 ≤ cmpF (ceilF n s) 0 n s ∧ ceilF n s - floorF n s ≤ 1 ∧ floorF n s ≤ ceilF n s ∧ ((ceilF n s == floorF n s) = (s == 0)) := by
  have h0 := ha.s0
  obtain ⟨f1, f2⟩ := floor_Rt ha
  rw [cmpF_val f1 ha, cmpF_val f2 ha, val9_0, val9_0]
  rcases Int.lt_or_le 0 s with h | h
  · obtain ⟨h1, h2, h3, h4, h5⟩ := floor_in ha h
    have e0 : (s == 0) = false := by simp; omega
    have e1 : (ceilF n s == floorF n s) = false := by simp; omega
    rw [e0, e1, h3]
    refine ⟨?_, ?_, by omega, by omega, rfl⟩
    · rw [if_neg (by omega), if_pos (by omega)]
      omega
    · rw [if_neg (by omega), if_neg (by omega)]
      omega
  · have : s = 0 := by omega
    subst this
    obtain ⟨h1, h2, h3⟩ := floor0 n
    rw [h1, h2, val9_0]
    simp
end
end Go.Proofs.YtaoobajokhcimaaGreatDoor

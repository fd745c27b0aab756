/- The document's operations by signs and digits are the numbers': plain. -/
import Derived.Test.YtgbghbeolndfiaaGreatDoorDiH
import Derived.Test.YtgbghbeolndfiaaGreatDoorDeT
import Derived.Test.YtgbghbeolndfiaaGreatDoorWaM
set_option linter.unusedSimpArgs false
set_option linter.unusedVariables false
namespace Go.Proofs.YtgbghbeolndfiaaGreatDoor
open Go.RowKit

def sgnD (neg : Bool) (L : List Int) : Int := sgn neg (dval L).toNat
theorem sgnD_val {neg : Bool} {L : List Int} (h : Dg L) : sgnD neg L = if neg then -dval L else dval L := by
  unfold sgnD sgn
  have := dval_nonneg h
  cases neg
  · simp; omega
  · simp; omega
theorem sgnD_digs (n : Int) : sgnD (decide (n < 0)) (digs n.natAbs) = n := by
  unfold sgnD
  rw [(digs_spec n.natAbs).1]
  exact sgn_Z n
theorem sgnD_up {neg : Bool} {L : List Int} (h : Dg L) (hn : Nr L) (k : Nat) : sgnD neg (upL L k) = sgnD neg L * 10 ^ k := by
  obtain ⟨h1, h2, -, -⟩ := upL_spec h hn k
  rw [sgnD_val h2, sgnD_val h, h1]
  cases neg
  · simp
  · simp [Int.neg_mul]
theorem addD_spec (n1 n2 : Bool) {xs ys : List Int} (gx : Dg xs) (gy : Dg ys) (nx : Nr xs) (ny : Nr ys) : sgnD (addD n1 xs n2 ys).1 (addD n1 xs n2 ys).2 = sgnD n1 xs + sgnD n2 ys ∧ Dg (addD n1 xs n2 ys).2 ∧ Nr (addD n1 xs n2 ys).2 ∧ (addD n1 xs n2 ys).2.length ≤ max xs.length ys.length + 1 := by
  unfold addD
  cases e1 : (n1 == n2)
  · simp only [Bool.false_eq_true, if_false]
    cases e2 : decide (0 ≤ cmpL xs ys)
    · simp only [Bool.false_eq_true, if_false]
      have hl := cmpL_len' (by simpa using e2)
      have hv : dval xs ≤ dval ys := by
        have e2' : ¬ 0 ≤ cmpL xs ys := by simpa using e2
        rw [cmpL_val gx gy nx ny] at e2'
        unfold sgnI at e2'
        split at e2'
        · omega
        · split at e2' <;> omega
      obtain ⟨h1, h2, h3⟩ := minus_val gy gx hl hv
      refine ⟨?_, h2, h3, ?_⟩
      · rw [sgnD_val h2, sgnD_val gx, sgnD_val gy, h1]
        cases n1 <;> cases n2 <;> simp_all <;> omega
      · obtain ⟨-, -, -, k, e, hk⟩ := trimL_spec (minusL ys xs 0)
        have := (minusL_spec ys xs 0 gy gx (by omega) (by omega) hl).2.2
        rw [e, List.length_take]
        omega
    · simp only [if_true]
      have hl := cmpL_len (by simpa using e2)
      have hv : dval ys ≤ dval xs := by
        have e2' : 0 ≤ cmpL xs ys := by simpa using e2
        rw [cmpL_val gx gy nx ny] at e2'
        unfold sgnI at e2'
        split at e2'
        · omega
        · split at e2' <;> omega
      obtain ⟨h1, h2, h3⟩ := minus_val gx gy hl hv
      refine ⟨?_, h2, h3, ?_⟩
      · rw [sgnD_val h2, sgnD_val gx, sgnD_val gy, h1]
        cases n1 <;> cases n2 <;> simp_all <;> omega
      · obtain ⟨-, -, -, k, e, hk⟩ := trimL_spec (minusL xs ys 0)
        have := (minusL_spec xs ys 0 gx gy (by omega) (by omega) hl).2.2
        rw [e, List.length_take]
        omega
  · simp only [if_true]
    obtain ⟨h1, h2⟩ := plusL_spec xs ys 0 gx gy (by omega) (by omega)
    refine ⟨?_, h2, (plusL_nr xs ys 0 gx gy nx ny (by omega) (by omega)).1, plusL_len xs ys 0⟩
    rw [sgnD_val h2, sgnD_val gx, sgnD_val gy, h1]
    have : n1 = n2 := by simpa using e1
    subst this
    cases n1 <;> simp <;> omega
/-- What Fit answers, as a number, a scale and an error. -/
theorem fit_sgn (neg : Bool) {L : List Int} (h : Dg L) (s : Nat) : (if (fitD neg L s).2.2 then ((fitD neg L s).1, (fitD neg L s).2.1, (0 : Int)) else (0, 0, 53)) = fitZ (sgnD neg L) s := by
  rw [fitD_W neg h, fitW_Z]
  rfl
section
variable {n k : Int} {s t M : Nat} (ha : Rt n s) (hb : Rt k t) (hM : M = max s t)
include hM
theorem lvl_nat : lvl n s t = n * 10 ^ (M - s) ∧ lvl k t s = k * 10 ^ (M - t) ∧ (max (s : Int) (t : Int)).toNat = M := by
  unfold lvl
  have h1 : (max (s : Int) (t : Int) - (s : Int)).toNat = M - s := by omega
  have h2 : (max (t : Int) (s : Int) - (t : Int)).toNat = M - t := by omega
  rw [h1, h2]
  exact ⟨rfl, rfl, by omega⟩
theorem doc_add : fitZ (n * 10 ^ (M - s) + k * 10 ^ (M - t)) M = addF n s k t := by
  obtain ⟨h1, h2, h3⟩ := lvl_nat (n := n) (k := k) hM
  unfold addF
  rw [h1, h2, h3]
theorem doc_sub : fitZ (n * 10 ^ (M - s) + -(k * 10 ^ (M - t))) M = subF n s k t := by
  obtain ⟨h1, h2, h3⟩ := lvl_nat (n := n) (k := k) hM
  unfold subF
  rw [h1, h2, h3, Int.sub_eq_add_neg]
theorem doc_idiv (hk : k ≠ 0) : fitZ ((n * 10 ^ (M - s)).tdiv (k * 10 ^ (M - t))) 0 = idivF n s k t := by
  obtain ⟨h1, h2, h3⟩ := lvl_nat (n := n) (k := k) hM
  unfold idivF
  rw [h1, h2, if_neg (by simpa using hk)]
theorem doc_mod (hk : k ≠ 0) : fitZ ((n * 10 ^ (M - s)).tmod (k * 10 ^ (M - t))) M = modF n s k t := by
  obtain ⟨h1, h2, h3⟩ := lvl_nat (n := n) (k := k) hM
  unfold modF
  rw [h1, h2, h3, if_neg (by simpa using hk)]
end
theorem doc_mul (n k : Int) (s t : Nat) : fitZ (n * k) (s + t) = mulF n s k t := by
  unfold mulF
  congr 1
theorem doc_div (n k : Int) (s t : Nat) (hs : s ≤ 9) (hk : k ≠ 0) : fitZ ((n * 10 ^ (9 + t - s)).tdiv k) 9 = divF n s k t := by
  unfold divF
  rw [if_neg (by simpa using hk), show (9 + (t : Int) - (s : Int)).toNat = 9 + t - s by omega]
theorem sgnD_not {neg : Bool} {L : List Int} (h : Dg L) : sgnD (!neg) L = - sgnD neg L := by
  rw [sgnD_val h, sgnD_val h]
  cases neg <;> simp
/-- A quotient and a rest by digits. -/
theorem sgnD_div {n1 n2 : Bool} {xs ys Q R : List Int} (gx : Dg xs) (gy : Dg ys) (gq : Dg Q) (gr : Dg R) (h0 : 0 < dval ys) (hq : dval Q = dval xs / dval ys) (hr : dval R = dval xs % dval ys) : sgnD (!(n1 == n2)) Q = (sgnD n1 xs).tdiv (sgnD n2 ys) ∧ sgnD n1 R = (sgnD n1 xs).tmod (sgnD n2 ys) := by
  have hx := dval_nonneg gx
  have hQ := dval_nonneg gq
  have hR := dval_nonneg gr
  have e1 : (dval Q).toNat = (dval xs).toNat / (dval ys).toNat := by
    have : ((dval Q).toNat : Int) = ((dval xs).toNat / (dval ys).toNat : Nat) := by
      rw [Int.natCast_ediv, Int.toNat_of_nonneg hQ, Int.toNat_of_nonneg hx, Int.toNat_of_nonneg (by omega), hq]
    omega
  have e2 : (dval R).toNat = (dval xs).toNat % (dval ys).toNat := by
    have : ((dval R).toNat : Int) = ((dval xs).toNat % (dval ys).toNat : Nat) := by
      rw [Int.natCast_emod, Int.toNat_of_nonneg hR, Int.toNat_of_nonneg hx, Int.toNat_of_nonneg (by omega), hr]
    omega
  unfold sgnD
  rw [e1, e2, show (!(n1 == n2)) = (n1 != n2) from rfl, tdiv_sgn _ _ _ _ (by omega), tmod_sgn n1 n2]
  exact ⟨rfl, rfl⟩
end Go.Proofs.YtgbghbeolndfiaaGreatDoor

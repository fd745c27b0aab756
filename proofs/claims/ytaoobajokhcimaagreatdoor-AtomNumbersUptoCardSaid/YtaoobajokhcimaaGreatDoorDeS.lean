/- Reading a number, plain: the two ways answer the same. -/
import Derived.Test.YtaoobajokhcimaaGreatDoorDeR
set_option linter.unusedSimpArgs false
set_option linter.unusedVariables false
namespace Go.Proofs.YtaoobajokhcimaaGreatDoor

theorem norm_pow (m k : Nat) : ∀ j, normN (m * 10 ^ j) (k + j) = normN m k := by
  intro j
  induction j with
  | zero => simp
  | succ j ih =>
    rw [show k + (j + 1) = (k + j) + 1 by omega, normN, Nat.pow_succ, ← Nat.mul_assoc]
    have e1 : (m * 10 ^ j * 10 % 10 == 0) = true := by simp
    have e2 : m * 10 ^ j * 10 / 10 = m * 10 ^ j := by omega
    rw [e2]
    simp only [e1, if_true]
    exact ih
theorem norm_done (m k : Nat) (h : k = 0 ∨ m % 10 ≠ 0) : normN m k = (m, k) := by
  cases k with
  | zero => rfl
  | succ k =>
    rw [normN]
    have : (m % 10 == 0) = false := by simp; omega
    simp [this]
/-- The number that letters spell. -/
def rv (l : List UInt8) : Int := dval (dsOf l).reverse
theorem rv_snoc (l : List UInt8) (c : UInt8) : rv (l ++ [c]) = dig c + 10 * rv l := by
  unfold rv dsOf
  simp [dval]
theorem rv_zeros (l : List UInt8) (j : Nat) : rv (l ++ List.replicate j 48) = rv l * 10 ^ j := by
  induction j with
  | zero => simp
  | succ j ih =>
    have : dig 48 = 0 := rfl
    rw [List.replicate_succ', ← List.append_assoc, rv_snoc, ih, Int.pow_succ, this, Int.zero_add, Int.mul_comm 10, Int.mul_assoc]
theorem rv_lead (j : Nat) (l : List UInt8) : rv (List.replicate j 48 ++ l) = rv l := by
  unfold rv dsOf
  rw [List.map_append, List.reverse_append, dval_app, List.map_replicate, List.reverse_replicate]
  have : dig 48 = 0 := rfl
  rw [this, dval_zeros]
  omega
theorem rv_Dg {l : List UInt8} (h : l.all isD = true) : Dg (dsOf l).reverse := fun d hd => dsOf_Dg h d (by simpa using hd)
theorem rv_nonneg {l : List UInt8} (h : l.all isD = true) : 0 ≤ rv l := dval_nonneg (rv_Dg h)
theorem rv_take {l : List UInt8} (h : l.all isD = true) (k : Nat) : (rv l).toNat / 10 ^ k = (rv (l.take (l.length - k))).toNat := by
  unfold rv
  rw [← dval_dropN (rv_Dg h)]
  congr 2
  unfold dsOf
  rw [List.drop_reverse, List.length_map, List.map_take]
theorem contains48 (b : UInt8) : [48].contains b = (b == 48) := by simp; rfl
theorem trimR_spec (l : List UInt8) : ∃ j, l = Lib.trimRightS l [48] ++ List.replicate j 48 ∧ (∀ m c, Lib.trimRightS l [48] = m ++ [c] → c ≠ 48) := by
  unfold Lib.trimRightS
  have e : (fun x => [48].contains x) = (fun x : UInt8 => x == 48) := funext contains48
  rw [e]
  have : ∀ l : List UInt8, ∃ j, l = List.replicate j 48 ++ l.dropWhile (fun x => x == 48) ∧ ∀ c m, l.dropWhile (fun x => x == 48) = c :: m → c ≠ 48 := by
    intro l
    induction l with
    | nil => exact ⟨0, rfl, by simp⟩
    | cons c r ih =>
      rw [List.dropWhile_cons]
      cases e : (c == 48)
      · refine ⟨0, by simp, fun c' m h => ?_⟩
        simp at h e
        rw [← h.1]
        exact e
      · obtain ⟨j, h1, h2⟩ := ih
        simp at e
        refine ⟨j + 1, ?_, by simpa using h2⟩
        simp only [if_true, List.replicate_succ, List.cons_append]
        rw [← h1, e]
  obtain ⟨j, h1, h2⟩ := this l.reverse
  refine ⟨j, ?_, fun m c h => h2 c m.reverse ?_⟩
  · have := congrArg List.reverse h1
    rw [List.reverse_reverse, List.reverse_append, List.reverse_replicate] at this
    exact this
  · have := congrArg List.reverse h
    rw [List.reverse_reverse, List.reverse_append] at this
    simpa using this
theorem trimL_lead (l : List UInt8) : ∃ j, l = List.replicate j 48 ++ Lib.trimLeftS l [48] ∧ (∀ m c, Lib.trimLeftS l [48] = c :: m → c ≠ 48) := by
  obtain ⟨j, h1, h2⟩ := trimR_spec l.reverse
  unfold Lib.trimRightS at h1 h2
  unfold Lib.trimLeftS
  rw [List.reverse_reverse] at h1 h2
  refine ⟨j, ?_, fun m c h => h2 m.reverse c ?_⟩
  · have := congrArg List.reverse h1
    rw [List.reverse_reverse, List.reverse_append, List.reverse_replicate, List.reverse_reverse] at this
    exact this
  · rw [h]; simp
theorem all_app {a b : List UInt8} {p : UInt8 → Bool} (h : (a ++ b).all p = true) : a.all p = true ∧ b.all p = true := by simpa using h
/-- Digits ahead of the point and behind it: what they fit to. -/
theorem fit_parts (neg : Bool) (w p : List UInt8) (hw : w.all isD = true) (hp : p.all isD = true) :
    fitW neg (rv (w ++ p)).toNat p.length = if decide (18 < (Lib.trimLeftS (w ++ Lib.trimRightS (p.take 9) [48]) [48]).length) then (0, 0, 53)
      else fitW neg (rv (Lib.trimLeftS (w ++ Lib.trimRightS (p.take 9) [48]) [48])).toNat (Lib.trimRightS (p.take 9) [48]).length := by
  obtain ⟨j, h1, h2⟩ := trimR_spec (p.take 9)
  have hp9 : (p.take 9).all isD = true := List.all_eq_true.2 fun x hx => List.all_eq_true.1 hp x (List.mem_of_mem_take hx)
  have hlen := congrArg List.length h1
  rw [h1] at hp9
  obtain ⟨hp', -⟩ := all_app hp9
  have hk9 : (Lib.trimRightS (p.take 9) [48]).length ≤ 9 := by
    rw [List.length_append, List.length_take] at hlen
    omega
  have hm9 : (rv (w ++ p)).toNat / 10 ^ (p.length - 9) = (rv (w ++ p.take 9)).toNat := by
    rw [rv_take (by rw [List.all_append, hw, hp]; rfl)]
    congr 2
    rw [List.take_append, List.length_append, List.take_of_length_le (by omega)]
    congr 1
    rw [show w.length + p.length - (p.length - 9) - w.length = p.length - (p.length - 9) by omega]
    rcases Nat.le_total p.length 9 with h | h
    · rw [List.take_of_length_le (by omega), List.take_of_length_le h]
    · congr 1
      all_goals omega
  have hmin : min p.length 9 = (Lib.trimRightS (p.take 9) [48]).length + j := by
    rw [List.length_append, List.length_replicate, List.length_take] at hlen
    omega
  have hm' : (rv (w ++ p.take 9)).toNat = (rv (w ++ Lib.trimRightS (p.take 9) [48])).toNat * 10 ^ j := by
    conv => lhs; rw [h1]
    rw [← List.append_assoc, rv_zeros, Int.toNat_mul (rv_nonneg (by rw [List.all_append, hw, hp']; rfl)) (Int.le_of_lt (pow10_pos j))]
    congr 1
  generalize hP : Lib.trimRightS (p.take 9) [48] = p' at *
  have hwp : (w ++ p').all isD = true := by rw [List.all_append, hw, hp']; rfl
  have hdone : normN (rv (w ++ p')).toNat p'.length = ((rv (w ++ p')).toNat, p'.length) := by
    apply norm_done
    rcases List.eq_nil_or_concat p' with h | ⟨m, c, h⟩
    · left; rw [h]; rfl
    · right
      rw [List.concat_eq_append] at h
      have hc := h2 m c h
      rw [h] at hwp ⊢
      rw [← List.append_assoc] at hwp ⊢
      obtain ⟨ha, hb⟩ := all_app hwp
      have hn := rv_nonneg ha
      rw [rv_snoc]
      have hcd : isD c = true := by simpa using hb
      simp [isD] at hcd
      have hc2 : c.toNat ≠ 48 := fun e => hc (by
        have := UInt8.ofNat_toNat (x := c)
        rw [e] at this
        exact this.symm)
      unfold dig
      omega
  have hall : rv (Lib.trimLeftS (w ++ p') [48]) = rv (w ++ p') := by
    obtain ⟨i, g1, -⟩ := trimL_lead (w ++ p')
    conv => rhs; rw [g1]
    rw [rv_lead]
  have hlen18 : decide (18 < (Lib.trimLeftS (w ++ p') [48]).length) = decide (999999999999999999 < (rv (w ++ p')).toNat) := by
    obtain ⟨i, g1, g2⟩ := trimL_lead (w ++ p')
    rw [← hall]
    generalize Lib.trimLeftS (w ++ p') [48] = al at *
    have hal : al.all isD = true := by rw [g1] at hwp; exact (all_app hwp).2
    have hd := rv_Dg hal
    have hnr : Nr (dsOf al).reverse := by
      cases al with
      | nil => exact Nr.nil
      | cons c m =>
        have hc := g2 m c rfl
        have hcd : isD c = true := by simp at hal; exact hal.1
        simp [isD] at hcd
        have hc2 : c.toNat ≠ 48 := fun e => hc (by
          have := UInt8.ofNat_toNat (x := c)
          rw [e] at this
          exact this.symm)
        unfold Nr dsOf
        simp [dig]
        omega
    have hl : (dsOf al).reverse.length = al.length := by simp [dsOf]
    have h0 := rv_nonneg hal
    have p18 : (10 : Int) ^ 18 = 1000000000000000000 := by decide
    rcases Nat.lt_or_ge 18 al.length with h | h
    · have g := dval_ge hd hnr (by intro e; rw [e] at hl; simp at hl; omega)
      have gm := pow_mono (show 18 ≤ (dsOf al).reverse.length - 1 by omega)
      rw [decide_eq_true h, decide_eq_true]
      unfold rv at *
      omega
    · have g := dval_lt hd
      have gm := pow_mono (show (dsOf al).reverse.length ≤ 18 by omega)
      rw [decide_eq_false (by omega), decide_eq_false]
      unfold rv at *
      omega
  rw [hall, hlen18]
  have hL : fitW neg (rv (w ++ p)).toNat p.length = fitW neg (rv (w ++ p')).toNat p'.length := by
    unfold fitW
    rw [hm9, hm', hmin, norm_pow, show p'.length - 9 = 0 by omega, show min p'.length 9 = p'.length by omega, Nat.pow_zero, Nat.div_one]
  rw [hL]
  cases e : decide (999999999999999999 < (rv (w ++ p')).toNat)
  · simp
  · unfold fitW
    rw [show p'.length - 9 = 0 by omega, show min p'.length 9 = p'.length by omega, Nat.pow_zero, Nat.div_one, hdone, e]
    simp
end Go.Proofs.YtaoobajokhcimaaGreatDoor

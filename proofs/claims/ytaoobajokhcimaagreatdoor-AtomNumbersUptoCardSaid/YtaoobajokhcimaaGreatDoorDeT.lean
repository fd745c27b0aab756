/- Reading a number, plain: what it answers, in one function; the library's reading of digits. -/
import Derived.Test.YtaoobajokhcimaaGreatDoorDeS
set_option linter.unusedSimpArgs false
set_option linter.unusedVariables false
namespace Go.Proofs.YtaoobajokhcimaaGreatDoor

theorem rv_cons (c : UInt8) (l : List UInt8) : rv (c :: l) = rv l + 10 ^ l.length * dig c := by
  unfold rv dsOf
  rw [List.map_cons, List.reverse_cons, dval_app]
  simp [dval]
theorem rv_lt {l : List UInt8} (h : l.all isD = true) : rv l < 10 ^ l.length := by
  have := dval_lt (rv_Dg h)
  unfold rv
  simpa [dsOf] using this
theorem isD_dig {c : UInt8} (h : isD c = true) : 48 ≤ c.toNat ∧ c.toNat ≤ 57 ∧ dig c = ((c.toNat - 48 : Nat) : Int) := by
  simp [isD] at h
  unfold dig
  omega
theorem parse_digits : ∀ (l : List UInt8) (acc : Nat), l.all isD = true → (acc + 1) * 10 ^ l.length ≤ 1000000000000000000 → Lib.parseUint10 acc l = .ok (acc * 10 ^ l.length + (rv l).toNat) := by
  intro l
  induction l with
  | nil => intro acc _ _; simp [Lib.parseUint10, rv, dsOf, dval]
  | cons c r ih =>
    intro acc h hb
    simp only [List.all_cons, Bool.and_eq_true] at h
    obtain ⟨h1, h2, h3⟩ := isD_dig h.1
    have hr := rv_nonneg h.2
    have hp : 1 ≤ 10 ^ r.length := Nat.one_le_pow _ _ (by decide)
    rw [List.length_cons, Nat.pow_succ, Nat.mul_comm (10 ^ r.length) 10, ← Nat.mul_assoc] at hb
    have hle : (acc + 1) * 10 ≤ (acc + 1) * 10 * 10 ^ r.length := Nat.le_mul_of_pos_right _ (by omega)
    rw [Lib.parseUint10, if_pos ⟨h1, h2⟩, if_neg (by omega), if_neg (by omega), ih _ h.2 (Nat.le_trans (Nat.mul_le_mul_right _ (by omega)) hb)]
    congr 1
    rw [rv_cons, h3, Int.toNat_add hr (Int.mul_nonneg (Int.le_of_lt (pow10_pos _)) (by omega)), Int.toNat_mul (Int.le_of_lt (pow10_pos _)) (by omega), Int.toNat_natCast, List.length_cons, Nat.pow_succ, Nat.add_mul]
    have e : ((10 : Int) ^ r.length).toNat = 10 ^ r.length := by rw [← pow_cast, Int.toNat_natCast]
    rw [e, Nat.mul_comm (10 ^ r.length) 10, ← Nat.mul_assoc, Nat.mul_comm (10 ^ r.length) (c.toNat - 48)]
    omega
/-- '"0" + digits', read by the library. -/
theorem atoi_digits (l : List UInt8) (h : l.all isD = true) (hl : l.length ≤ 18) : Lib.atoiAll (48 :: l) = .ok (rv l) := by
  have h0 := rv_nonneg h
  have hlt := rv_lt h
  have hm := pow_mono hl
  have p18 : (10 : Int) ^ 18 = 1000000000000000000 := by decide
  have hp := parse_digits l 0 h (by
    have := Nat.pow_le_pow_right (show 0 < 10 by omega) hl
    omega)
  have e48 : (48 : UInt8).toNat = 48 := rfl
  have hm2 : Lib.parseMag (48 :: l) = .ok (rv l).toNat := by
    unfold Lib.parseMag
    rw [if_neg (by simp), Lib.parseUint10, if_pos (by rw [e48]; omega), if_neg (by omega), if_neg (by rw [e48]; omega)]
    rw [e48]
    simpa using hp
  unfold Lib.atoiAll
  simp only [e48]
  simp only [show ¬ ((48 : Nat) = 43 ∨ (48 : Nat) = 45) by omega, if_false, hm2]
  simp
  rw [if_neg (by omega)]
  congr 1
  omega
/-- The sign, and what stands behind it. -/
def signF : List UInt8 → Bool × List UInt8
  | [] => (false, [])
  | c :: r => if c.toNat == 45 then (true, r) else if c.toNat == 43 then (false, r) else (false, c :: r)
theorem u8_eq (c : UInt8) (k : Nat) (hk : k < 256) : (UInt8.ofNat k == c) = (c.toNat == k) := by
  cases e : (c.toNat == k)
  · simp at e ⊢
    intro h
    apply e
    rw [← h]
    simp [Nat.mod_eq_of_lt hk]
  · simp at e ⊢
    rw [← e]
    exact UInt8.ofNat_toNat
theorem trim_sign (l : List UInt8) : ((Lib.trimPrefix l [45] != l) = (signF l).1) ∧ ((signF l).1 = true → Lib.trimPrefix l [45] = (signF l).2) ∧ ((signF l).1 = false → Lib.trimPrefix l [43] = (signF l).2) := by
  unfold Lib.trimPrefix Lib.hasPrefix
  cases l with
  | nil => simp [signF]
  | cons c r =>
    have e45 : List.isPrefixOf [45] (c :: r) = (c.toNat == 45) := by
      have := u8_eq c 45 (by omega)
      simpa [List.isPrefixOf] using this
    have e43 : List.isPrefixOf [43] (c :: r) = (c.toNat == 43) := by
      have := u8_eq c 43 (by omega)
      simpa [List.isPrefixOf] using this
    rw [e45, e43]
    unfold signF
    have hne : (r == c :: r) = false := by
      cases e : (r == c :: r)
      · rfl
      · simp at e
    cases h1 : (c.toNat == 45) <;> cases h2 : (c.toNat == 43) <;> simp only [h1, h2, bne, hne, if_true, if_false, Bool.false_eq_true, List.length_cons, List.length_nil, List.drop_succ_cons, List.drop_zero, Bool.not_false, beq_self_eq_true, Bool.not_true] <;> simp
/-- What reading answers: number, scale, error. -/
def parseF (l : List UInt8) : Int × Int × Int :=
  if !((Lib.cut (signF l).2 [46]).1.all isD && (Lib.cut (signF l).2 [46]).2.1.all isD) || ((Lib.cut (signF l).2 [46]).1 ++ (Lib.cut (signF l).2 [46]).2.1) == [] then (0, 0, 12)
  else fitW (signF l).1 (rv ((Lib.cut (signF l).2 [46]).1 ++ (Lib.cut (signF l).2 [46]).2.1)).toNat (Lib.cut (signF l).2 [46]).2.1.length
/-- The document's way. -/
def docF (neg : Bool) (o : Option (List Int × Int)) : Int × Int × Int :=
  match o with
  | none => (0, 0, 12)
  | some (d, pt) => if d.length == 0 then (0, 0, 12) else if (fitD neg d.reverse (if decide (0 ≤ pt) then d.length - pt.toNat else 0)).2.2 then ((fitD neg d.reverse (if decide (0 ≤ pt) then d.length - pt.toNat else 0)).1, (fitD neg d.reverse (if decide (0 ≤ pt) then d.length - pt.toNat else 0)).2.1, 0) else (0, 0, 53)
theorem fitW_err (neg : Bool) (m s : Nat) : (if (fitW neg m s).2.2 == 0 then ((fitW neg m s).1, (fitW neg m s).2.1, (0 : Int)) else (0, 0, 53)) = fitW neg m s := by
  rcases fitW_cases neg m s with h | ⟨n, k, h, -⟩
  · rw [h]; rfl
  · rw [h]; rfl
theorem fitD_W (neg : Bool) {l : List Int} (h : Dg l) (s : Nat) : (if (fitD neg l s).2.2 then ((fitD neg l s).1, (fitD neg l s).2.1, (0 : Int)) else (0, 0, 53)) = fitW neg (dval l).toNat s := by
  rw [fitD_val neg h]
  conv => rhs; rw [← fitW_err]
  split <;> simp
theorem parse_doc (l : List UInt8) : docF (signF l).1 (scanF (signF l).2 [] (-1)) = parseF l := by
  rw [scan_cut]
  unfold parseF docF
  have hf : (Lib.cut (signF l).2 [46]).2.2 = false → (Lib.cut (signF l).2 [46]).2.1 = [] := by
    unfold Lib.cut
    split <;> simp
  generalize (signF l).1 = neg
  generalize Lib.cut (signF l).2 [46] = c at *
  obtain ⟨w, p, f⟩ := c
  simp only at hf ⊢
  cases e : (w.all isD && p.all isD)
  · simp
  · simp only [Bool.and_eq_true] at e
    have hall : (w ++ p).all isD = true := by rw [List.all_append, e.1, e.2]; rfl
    simp only [if_true, List.nil_append, Bool.not_true, Bool.false_or, List.length_nil, Nat.zero_add]
    have hl : (dsOf (w ++ p)).length = w.length + p.length := by simp [dsOf]
    have hs : (if decide (0 ≤ (if f then ((w.length : Nat) : Int) else -1)) then (dsOf (w ++ p)).length - (if f then ((w.length : Nat) : Int) else -1).toNat else 0) = p.length := by
      cases f
      · rw [hf rfl]; rfl
      · rw [hl]
        simp
    rw [hs, fitD_W neg (rv_Dg hall)]
    have h0 : ((dsOf (w ++ p)).length == 0) = (w ++ p == []) := by
      rw [hl]
      cases w <;> cases p <;> simp
    rw [h0]
    rfl
end Go.Proofs.YtaoobajokhcimaaGreatDoor

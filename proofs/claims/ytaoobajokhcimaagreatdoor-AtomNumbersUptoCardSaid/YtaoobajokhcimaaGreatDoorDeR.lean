/- Reading a number, plain: by the first point, and character by character. -/
import Derived.Test.YtaoobajokhcimaaGreatDoorDeF
import Derived.Lib.IndexMore
import Derived.Lib.SlTrimSet
import Derived.Lib.AtoiAll
set_option linter.unusedSimpArgs false
set_option linter.unusedVariables false
namespace Go.Proofs.YtaoobajokhcimaaGreatDoor

def tenS : List UInt8 := [48, 49, 50, 51, 52, 53, 54, 55, 56, 57]
def isD (b : UInt8) : Bool := decide (48 ≤ b.toNat) && decide (b.toNat ≤ 57)
theorem tenS_isD (b : UInt8) : tenS.contains b = isD b := by
  have : ∀ n : Fin 256, tenS.contains (UInt8.ofNat n.val) = isD (UInt8.ofNat n.val) := by decide +kernel
  have h := this ⟨b.toNat, b.toNat_lt⟩
  simpa using h
theorem dropWhile_nil {α : Type} (p : α → Bool) (l : List α) : l.dropWhile p = [] ↔ l.all p = true := by
  induction l with
  | nil => simp
  | cons a l ih =>
    rw [List.dropWhile_cons]
    cases e : p a <;> simp [e, ih]
theorem dropWhile_all {α : Type} (p : α → Bool) (l : List α) : (l.dropWhile p).all p = l.all p := by
  induction l with
  | nil => rfl
  | cons a l ih =>
    rw [List.dropWhile_cons]
    cases e : p a <;> simp [e, ih]
theorem trimS_nil (l : List UInt8) : (Lib.trimS l tenS = []) ↔ l.all isD = true := by
  unfold Lib.trimS Lib.trimLeftS Lib.trimRightS
  have e : (fun x => tenS.contains x) = isD := funext tenS_isD
  rw [e, dropWhile_nil, List.all_reverse, dropWhile_all, List.all_reverse]
def dig (b : UInt8) : Int := (b.toNat : Int) - 48
def dsOf (l : List UInt8) : List Int := l.map dig
theorem dsOf_Dg {l : List UInt8} (h : l.all isD = true) : Dg (dsOf l) := fun d hd => by
  obtain ⟨b, hb, rfl⟩ := List.mem_map.1 hd
  have := List.all_eq_true.1 h b hb
  simp [isD] at this
  unfold dig
  omega
/-- What the letters behind the sign are: digits, and where the point stands. -/
def scanF : List UInt8 → List Int → Int → Option (List Int × Int)
  | [], d, pt => some (d, pt)
  | c :: r, d, pt => if c.toNat == 46 && decide (pt < 0) then scanF r d d.length else if decide (c.toNat < 48) || decide (57 < c.toNat) then none else scanF r (d ++ [dig c]) pt
theorem scan_within (l : List UInt8) (d : List Int) (pt : Int) (hp : 0 ≤ pt) : scanF l d pt = if l.all isD then some (d ++ dsOf l, pt) else none := by
  induction l generalizing d with
  | nil => simp [scanF, dsOf]
  | cons c r ih =>
    rw [scanF, decide_eq_false (show ¬ pt < 0 by omega), Bool.and_false, if_neg (by simp)]
    cases e : isD c
    · have : (decide (c.toNat < 48) || decide (57 < c.toNat)) = true := by
        simp [isD] at e ⊢; omega
      rw [this]
      simp [e]
    · have : (decide (c.toNat < 48) || decide (57 < c.toNat)) = false := by
        simp [isD] at e ⊢; omega
      rw [this, if_neg (by simp), ih]
      simp [e, dsOf, dig]
theorem cut_point (l : List UInt8) : Lib.cut l [46] = (l.takeWhile (fun b => b.toNat != 46), (l.dropWhile (fun b => b.toNat != 46)).drop 1, l.any (fun b => b.toNat == 46)) := by
  have hi : Lib.index l [46] = if l.any (fun b => b.toNat == 46) then ((l.takeWhile (fun b => b.toNat != 46)).length : Int) else -1 := by
    induction l with
    | nil => rfl
    | cons c r ih =>
      rw [Lib.index]
      have hc : (List.isPrefixOf [46] (c :: r)) = (c.toNat == 46) := by
        have : ∀ n : Fin 256, ((46 : UInt8) == UInt8.ofNat n.val) = ((UInt8.ofNat n.val).toNat == 46) := by decide +kernel
        have h := this ⟨c.toNat, c.toNat_lt⟩
        simpa [List.isPrefixOf] using h
      rw [hc, ih]
      cases e : (c.toNat == 46)
      · have e' : (c.toNat != 46) = true := by simp [bne, e]
        simp only [Bool.false_eq_true, if_false, List.any_cons, e, Bool.false_or, List.takeWhile_cons, e', if_true, List.length_cons]
        cases e2 : r.any (fun b => b.toNat == 46)
        · simp
        · simp only [if_true]
          have : (((List.takeWhile (fun b => b.toNat != 46) r).length : Int) == -1) = false := by simp
          rw [this]
          simp
      · have e' : (c.toNat != 46) = false := by simp [bne, e]
        simp [e, e']
  unfold Lib.cut
  rw [hi]
  cases e : l.any (fun b => b.toNat == 46)
  · simp only [Bool.false_eq_true, if_false]
    rw [if_neg (by omega)]
    have : ∀ l : List UInt8, l.any (fun b => b.toNat == 46) = false → l.takeWhile (fun b => b.toNat != 46) = l ∧ l.dropWhile (fun b => b.toNat != 46) = [] := by
      intro l
      induction l with
      | nil => intro _; exact ⟨rfl, rfl⟩
      | cons c r ih =>
        intro h
        simp only [List.any_cons, Bool.or_eq_false_iff] at h
        obtain ⟨i1, i2⟩ := ih h.2
        have e' : (c.toNat != 46) = true := by simp [bne, h.1]
        simp only [List.takeWhile_cons, List.dropWhile_cons, e', if_true, i1, i2]
        exact ⟨trivial, trivial⟩
    obtain ⟨i1, i2⟩ := this l e
    rw [i1, i2]
    rfl
  · simp only [if_true]
    rw [if_pos (by omega)]
    have : ∀ l : List UInt8, l.take (l.takeWhile (fun b => b.toNat != 46)).length = l.takeWhile (fun b => b.toNat != 46) ∧ ∀ k, l.drop ((l.takeWhile (fun b => b.toNat != 46)).length + k) = (l.dropWhile (fun b => b.toNat != 46)).drop k := by
      intro l
      induction l with
      | nil => simp
      | cons c r ih =>
        simp only [List.takeWhile_cons, List.dropWhile_cons]
        cases e' : (c.toNat != 46)
        · simp
        · simp only [if_true, List.length_cons, List.take_succ_cons, ih.1, true_and]
          intro k
          rw [show (List.takeWhile (fun b => b.toNat != 46) r).length + 1 + k = ((List.takeWhile (fun b => b.toNat != 46) r).length + k) + 1 by omega, List.drop_succ_cons, ih.2]
    rw [Int.toNat_natCast, (this l).1, (this l).2]
    rfl
/-- Letter by letter it is what the first point cuts. -/
theorem scan_cut (l : List UInt8) (d : List Int) : scanF l d (-1) = if (Lib.cut l [46]).1.all isD && (Lib.cut l [46]).2.1.all isD then some (d ++ dsOf ((Lib.cut l [46]).1 ++ (Lib.cut l [46]).2.1), if (Lib.cut l [46]).2.2 then ((d.length + (Lib.cut l [46]).1.length : Nat) : Int) else -1) else none := by
  rw [cut_point]
  simp only
  induction l generalizing d with
  | nil => simp [scanF, dsOf]
  | cons c r ih =>
    rw [scanF]
    cases e : (c.toNat == 46)
    · have e' : (c.toNat != 46) = true := by simp [bne, e]
      simp only [Bool.false_and, Bool.false_eq_true, if_false, List.takeWhile_cons, List.dropWhile_cons, e', if_true, List.any_cons, e, Bool.false_or, List.all_cons]
      cases e2 : isD c
      · have : (decide (c.toNat < 48) || decide (57 < c.toNat)) = true := by
          simp [isD] at e2 ⊢; omega
        rw [this]
        simp
      · have : (decide (c.toNat < 48) || decide (57 < c.toNat)) = false := by
          simp [isD] at e2 ⊢; omega
        rw [this, if_neg (by simp), ih]
        simp only [Bool.true_and, List.length_append, List.length_cons, List.length_nil, List.append_assoc, List.singleton_append, List.cons_append, dsOf, List.map_cons]
        split
        · split
          · simp
            omega
          · simp
        · rfl
    · have e' : (c.toNat != 46) = false := by simp [bne, e]
      simp only [decide_eq_true (show (-1 : Int) < 0 by decide), Bool.and_true, if_true, List.takeWhile_cons, List.dropWhile_cons, e', Bool.false_eq_true, if_false, List.any_cons, e, Bool.true_or, List.all_nil, Bool.true_and, List.length_nil, Nat.add_zero, List.nil_append, List.drop_succ_cons, List.drop_zero]
      rw [scan_within _ _ _ (by omega)]
end Go.Proofs.YtaoobajokhcimaaGreatDoor

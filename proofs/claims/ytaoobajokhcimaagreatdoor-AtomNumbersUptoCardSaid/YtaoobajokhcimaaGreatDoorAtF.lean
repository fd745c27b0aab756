/- What a written number is made of; trimming it; its points. Plain. -/
import Derived.Test.YtaoobajokhcimaaGreatDoorAtE
set_option linter.unusedSimpArgs false
set_option linter.unusedVariables false
namespace Go.Proofs.YtaoobajokhcimaaGreatDoor

def spS : List UInt8 := [9, 10, 13, 32]
theorem dw_none {p : UInt8 → Bool} {l : List UInt8} (h : ∀ x ∈ l, p x = false) : l.dropWhile p = l := by
  cases l with
  | nil => rfl
  | cons a r => rw [List.dropWhile_cons, h a (by simp)]; rfl
theorem trim_none {l cs : List UInt8} (h : ∀ x ∈ l, cs.contains x = false) : Lib.trimS l cs = l := by
  unfold Lib.trimS Lib.trimLeftS Lib.trimRightS
  rw [dw_none (l := l.reverse) (fun x hx => h x (by simpa using hx)), List.reverse_reverse, dw_none h]
/-- A letter of a number's text. -/
def numC (x : UInt8) : Bool := x == 45 || x == 46 || isD x
theorem numC_sp {x : UInt8} (h : numC x = true) : spS.contains x = false := by
  have : ∀ n : Fin 256, numC (UInt8.ofNat n.val) = true → spS.contains (UInt8.ofNat n.val) = false := by decide +kernel
  have h' := this ⟨x.toNat, x.toNat_lt⟩
  simp only [UInt8.ofNat_toNat] at h'
  exact h' h
theorem dec_all (m : Nat) : (Lib.decDigits m).all isD = true := by
  have h := pad_same m 0
  have h1 := decDigits_pos m
  unfold padS at h
  rw [if_neg (by omega)] at h
  rw [h]
  exact chs_all (padD_Dg (digs_spec m).2.1 0)
theorem pad_all (m s : Nat) : (padS (Lib.decDigits m) s).all isD = true := by
  rw [pad_same]
  exact chs_all (padD_Dg (digs_spec m).2.1 s)
theorem isD_numC {x : UInt8} (h : isD x = true) : numC x = true := by unfold numC; rw [h]; simp
theorem format_chars (n : Int) (s : Nat) : ∀ x ∈ formatF n s, numC x = true := by
  intro x hx
  unfold formatF at hx
  rw [List.mem_append] at hx
  rcases hx with hx | hx
  · split at hx
    · simp at hx; subst hx; rfl
    · cases hx
  · split at hx
    · exact isD_numC (List.all_eq_true.1 (dec_all n.natAbs) x hx)
    · simp only [List.mem_append, List.mem_singleton] at hx
      rcases hx with (hx | rfl) | hx
      · exact isD_numC (List.all_eq_true.1 (pad_all n.natAbs s) x (List.mem_of_mem_take hx))
      · rfl
      · exact isD_numC (List.all_eq_true.1 (pad_all n.natAbs s) x (List.mem_of_mem_drop hx))
theorem format_trim (n : Int) (s : Nat) : Lib.trimS (formatF n s) spS = formatF n s := trim_none fun x hx => numC_sp (format_chars n s x hx)
theorem itoa_format (n : Int) : Lib.itoa n = formatF n 0 := by
  unfold Lib.itoa formatF
  simp only [if_true]
  split
  · simp
  · rw [show n.toNat = n.natAbs by omega]; simp
theorem itoa_point (n : Int) : ∀ x ∈ Lib.itoa n, x ≠ 46 := by
  intro x hx
  unfold Lib.itoa at hx
  have hd : ∀ x ∈ Lib.decDigits n.natAbs, x ≠ 46 := fun x hx e => by
    have := List.all_eq_true.1 (dec_all n.natAbs) x hx
    subst e
    revert this
    decide
  split at hx
  · rcases List.mem_cons.1 hx with rfl | hx
    · decide
    · exact hd x hx
  · rw [show n.toNat = n.natAbs by omega] at hx
    exact hd x hx
end Go.Proofs.YtaoobajokhcimaaGreatDoor

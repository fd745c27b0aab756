/- Trimming at both ends: which end first is one. Plain. -/
import Derived.Test.YtaoobajokhcimaaGreatDoorDeX
import Derived.Lib.SlTrimSet
set_option linter.unusedSimpArgs false
set_option linter.unusedVariables false
namespace Go.Proofs.YtaoobajokhcimaaGreatDoor

theorem dw_cons {p : UInt8 → Bool} {l : List UInt8} {a : UInt8} {r : List UInt8} (h : l.dropWhile p = a :: r) : p a = false := by
  induction l with
  | nil => cases h
  | cons c l ih =>
    rw [List.dropWhile_cons] at h
    split at h
    · exact ih h
    · rename_i hc
      cases h
      simpa using hc
theorem tw_all' {p : UInt8 → Bool} (l : List UInt8) : (l.takeWhile p).all p = true := by
  induction l with
  | nil => rfl
  | cons c l ih =>
    rw [List.takeWhile_cons]
    split
    · rename_i hc
      rw [List.all_cons, hc, ih]
      rfl
    · rfl
theorem trim_comm (l cs : List UInt8) : Lib.trimLeftS (Lib.trimRightS l cs) cs = Lib.trimRightS (Lib.trimLeftS l cs) cs := by
  unfold Lib.trimLeftS Lib.trimRightS
  generalize (fun x => cs.contains x) = p
  have hsplit : l = l.takeWhile p ++ l.dropWhile p := (List.takeWhile_append_dropWhile).symm
  cases hA : l.dropWhile p with
  | nil =>
    have hall : l.all p = true := (dropWhile_nil p l).1 hA
    have hr : l.reverse.dropWhile p = [] := (dropWhile_nil p _).2 (by rw [List.all_reverse]; exact hall)
    rw [hr]
    rfl
  | cons a r =>
    have ha := dw_cons hA
    rw [hA] at hsplit
    have ht := tw_all' (p := p) l
    have hne : ((a :: r).reverse.dropWhile p) ≠ [] := fun h => by
      have := (dropWhile_nil p _).1 h
      rw [List.all_reverse, List.all_cons, ha] at this
      cases this
    have h1 : l.reverse.dropWhile p = (a :: r).reverse.dropWhile p ++ (l.takeWhile p).reverse := by
      conv => lhs; rw [hsplit]
      rw [List.reverse_append, List.dropWhile_append]
      have : ((a :: r).reverse.dropWhile p).isEmpty = false := by
        cases h : (a :: r).reverse.dropWhile p with
        | nil => exact absurd h hne
        | cons x y => rfl
      rw [this]
      rfl
    rw [h1, List.reverse_append, List.reverse_reverse, List.dropWhile_append, (dropWhile_nil p _).2 ht]
    simp only [List.isEmpty_nil, if_true]
    -- the right part begins with a
    have h2 : ∃ y, ((a :: r).reverse.dropWhile p).reverse = a :: y := by
      rw [List.reverse_cons, List.dropWhile_append]
      split
      · rw [List.dropWhile_cons, ha]
        exact ⟨[], rfl⟩
      · exact ⟨(r.reverse.dropWhile p).reverse, by rw [List.reverse_append]; rfl⟩
    obtain ⟨y, hy⟩ := h2
    rw [hy, List.dropWhile_cons, ha]
    rfl
end Go.Proofs.YtaoobajokhcimaaGreatDoor

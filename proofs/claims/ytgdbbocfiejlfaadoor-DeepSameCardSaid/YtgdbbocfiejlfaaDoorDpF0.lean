/- Small laws of the document's Trees. -/
import Derived.Test.YtgdbbocfiejlfaaDoorDpE
import Derived.Test.YtgdbbocfiejlfaaDoorLo
set_option linter.unusedSimpArgs false
set_option linter.unusedVariables false
set_option linter.constructorNameAsVariable false
namespace Go.Proofs.YtgdbbocfiejlfaaDoor
open Go.RowKit

theorem listF_step {α : Type} (f : α → α → Bool) (a b : α) (r s : List α) : listF f (a :: r) (b :: s) = (f a b && listF f r s) := rfl
theorem all_step (f : Pr → Bool) (ps : List Pr) (j : Nat) (p : Pr) (h : ps[j]? = some p) : (ps.take (j + 1)).all f = ((ps.take j).all f && f p) := by
  rw [take_one ps j p h]
  simp
theorem all_no (f : Pr → Bool) (ps : List Pr) (j : Nat) (p : Pr) (h : ps[j]? = some p) (hf : f p = false) : ps.all f = false := by
  rw [List.all_eq_false]
  exact ⟨p, List.mem_of_getElem? h, by simp [hf]⟩
theorem ne_list {s t : ByteArray} (h : s ≠ t) : (s.toList == t.toList) = false ∧ (s.toList != t.toList) = true := by
  have : ¬ s.toList = t.toList := fun e => h (tl_eq.1 e)
  constructor <;> simpa using this
end Go.Proofs.YtgdbbocfiejlfaaDoor

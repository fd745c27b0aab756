/- The order of values is one. Plain. -/
import Derived.Test.YtaoobajokhcimaaGreatDoorMgB
set_option linter.unusedSimpArgs false
set_option linter.unusedVariables false
namespace Go.Proofs.YtaoobajokhcimaaGreatDoor
/-- What the orders of three values are to one another. -/
structure Ords (x e y z g u h : Int) : Prop where
  neg : IntKind.i64.wrap (-y) = x
  x3 : x = -1 ∨ x = 0 ∨ x = 1
  z3 : z = -1 ∨ z = 0 ∨ z = 1
  off : e ≠ 0 → g = 0 → h ≠ 0
  on : e = 0 → g = 0 → h = 0
  le : e = 0 → g = 0 → x ≤ 0 → z ≤ 0 → u ≤ 0
  eq : e = 0 → g = 0 → x = 0 → u = z
  lt : e = 0 → g = 0 → x < 0 → z ≤ 0 → u < 0
theorem order_self {a : At} (h : RA a) : orderF a a = (0, 0) := by
  unfold orderF
  cases h with
  | int n h => show (cmpF n 0 n 0, (0 : Int)) = _; rw [(cmpF_zero h h).2 ⟨rfl, rfl⟩]
  | dec n s h => show (cmpF n s n s, (0 : Int)) = _; rw [(cmpF_zero h h).2 ⟨rfl, rfl⟩]
  | str t h => show (strC t t, (0 : Int)) = _; unfold strC; rw [cb_self]
  | bool b => cases b <;> rfl
  | raw t h => show (strC t t, (0 : Int)) = _; unfold strC; rw [cb_self]
theorem order_e {a c : At} (ha : RA a) (hc : RA c) : (orderF a c).2 = if groupF a = groupF c then 0 else 44 := by
  cases ha <;> cases hc <;> rfl
def Tri (x z u : Int) : Prop := (x ≤ 0 → z ≤ 0 → u ≤ 0) ∧ (x = 0 → u = z) ∧ (x < 0 → z ≤ 0 → u < 0)
theorem order_tri {a c d : At} (ha : RA a) (hc : RA c) (hd : RA d) (h1 : groupF a = groupF c) (h2 : groupF c = groupF d) : Tri (orderF a c).1 (orderF c d).1 (orderF a d).1 := by
  have hb : ∀ x y z, Tri (boolC x y) (boolC y z) (boolC x z) := by unfold Tri; decide
  have hs : ∀ x y z, Tri (strC x y) (strC y z) (strC x z) := fun x y z => by
    refine ⟨fun p q => (cb_trans _ _ _ p q).1, fun p => ?_, fun p q => (cb_trans _ _ _ (Int.le_of_lt p) q).2.1 p⟩
    unfold strC at p ⊢
    rw [cb_zero _ _ p]
  have hn : ∀ {n s k t p q : Int}, Rt n s → Rt k t → Rt p q → Tri (cmpF n s k t) (cmpF k t p q) (cmpF n s p q) := fun a b c => by
    refine ⟨fun p q => (orders1 a b c p q).1, fun p => ?_, fun p q => (orders1 a b c (Int.le_of_lt p) q).2 p⟩
    obtain ⟨rfl, rfl⟩ := (cmpF_zero a b).1 p
    rfl
  cases ha <;> cases hc <;> first
    | (exfalso; exact absurd (show (1 : Int) = 2 from h1) (by decide)) | (exfalso; exact absurd (show (1 : Int) = 3 from h1) (by decide))
    | (exfalso; exact absurd (show (2 : Int) = 1 from h1) (by decide)) | (exfalso; exact absurd (show (2 : Int) = 3 from h1) (by decide))
    | (exfalso; exact absurd (show (3 : Int) = 1 from h1) (by decide)) | (exfalso; exact absurd (show (3 : Int) = 2 from h1) (by decide))
    | skip
  all_goals cases hd <;> first
    | (exfalso; exact absurd (show (1 : Int) = 2 from h2) (by decide)) | (exfalso; exact absurd (show (1 : Int) = 3 from h2) (by decide))
    | (exfalso; exact absurd (show (2 : Int) = 1 from h2) (by decide)) | (exfalso; exact absurd (show (2 : Int) = 3 from h2) (by decide))
    | (exfalso; exact absurd (show (3 : Int) = 1 from h2) (by decide)) | (exfalso; exact absurd (show (3 : Int) = 2 from h2) (by decide))
    | exact hn ‹_› ‹_› ‹_›
    | exact hs _ _ _
    | exact hb _ _ _
theorem order_groups {a c d : At} (ha : RA a) (hc : RA c) (hd : RA d) : Ords (orderF a c).1 (orderF a c).2 (orderF c a).1 (orderF c d).1 (orderF c d).2 (orderF a d).1 (orderF a d).2 ∧ (orderF c a).2 = (orderF a c).2 := by
  have v1 := order_vals a c
  have v2 := order_vals c d
  have hneg : (orderF a c).1 = -(orderF c a).1 := by
    have hb : ∀ x y, boolC x y = - boolC y x := by decide
    unfold orderF
    cases ha <;> cases hc <;> first
      | rfl
      | exact cmpF_neg ‹_› ‹_›
      | exact cb_neg _ _
      | exact hb _ _
  have e1 := order_e ha hc
  have e2 := order_e hc hd
  have e3 := order_e ha hd
  have e4 := order_e hc ha
  have tri := order_tri ha hc hd
  generalize (orderF a c).2 = E at *
  generalize (orderF c d).2 = G at *
  generalize (orderF a d).2 = K at *
  have T : E = 0 → G = 0 → Tri (orderF a c).1 (orderF c d).1 (orderF a d).1 := fun p q => by
    rw [p] at e1
    rw [q] at e2
    refine tri ?_ ?_
    · split at e1
      · assumption
      · cases e1
    · split at e2
      · assumption
      · cases e2
  refine ⟨⟨?_, v1, v2, ?_, ?_, fun p q => (T p q).1, fun p q => (T p q).2.1, fun p q => (T p q).2.2⟩, ?_⟩
  · rw [hneg]
    exact IntWalk.i64_in _ (by omega)
  · intro p q
    rw [e3]
    split at e1
    · exact absurd e1 p
    · split at e2
      · rw [if_neg (by omega)]; decide
      · omega
  · intro p q
    rw [e3]
    split at e1
    · split at e2
      · rw [if_pos (by omega)]
      · omega
    · omega
  · rw [e1, e4]
    by_cases h : groupF a = groupF c
    · rw [if_pos h, if_pos h.symm]
    · rw [if_neg h, if_neg (fun h' => h h'.symm)]
end Go.Proofs.YtaoobajokhcimaaGreatDoor

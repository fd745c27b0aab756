/- A drawn region that makes one box and fills it: the worlds' relation, the relation between the box's slot and the store. -/
import Derived.Test.YtaoobajokhcimaaGreatDoorLoC
set_option linter.unusedVariables false
namespace Go.Proofs.YtaoobajokhcimaaGreatDoor
open Go.RowKit

/-- Boxes of the call's own are filled with one thing or another; what lies below them stays. -/
structure RE (B : Nat) (t : TypeId) (F : Array Value) (w w' : World) : Prop where
  bl : Below B w w'
  k : ∀ q cs, Blk w q cs t → cs.size = F.size → ∃ cs', cs'.size = F.size ∧ Blk w' q cs' t
  g : ∀ q, Blk w q F t → Blk w' q F t
section
variable {B : Nat} {t : TypeId} {F : Array Value}
theorem RE.refl (w : World) : RE B t F w w := ⟨Below.refl _ _, fun _ cs h e => ⟨cs, e, h⟩, fun _ h => h⟩
theorem RE.trans : ∀ a b c, RE B t F a b → RE B t F b c → RE B t F a c := fun a b c h1 h2 =>
  ⟨h1.bl.trans h2.bl, fun q cs h e => by obtain ⟨cs', e', h'⟩ := h1.k q cs h e; exact h2.k q _ h' e', fun q h => h2.g q (h1.g q h)⟩
theorem RE.drew (w : World) : RE B t F w { w with drawn := w.drawn + 1 } := ⟨(Below.refl _ _).drew, fun _ cs h e => ⟨cs, e, h⟩, fun _ h => h⟩
theorem RE.ofBelow {w w' : World} (hb : Below w.heap.size w w') (hS : B ≤ w.heap.size) : RE B t F w w' :=
  ⟨hb.mono hS, fun _ cs h e => ⟨cs, e, h.below hb h.lt⟩, fun _ h => h.below hb h.lt⟩
theorem RE.put2 {w : World} {q : Nat} {a b x y : Value} (hf : F = #[x, y]) (h : Blk w q #[a, b] t) (hS : B ≤ q) :
    RE B t F w ((w.setCell ⟨q, 0, none⟩ x).setCell ⟨q, 1, none⟩ y) ∧ Blk ((w.setCell ⟨q, 0, none⟩ x).setCell ⟨q, 1, none⟩ y) q F t := by
  subst hf
  have hB : Blk ((w.setCell ⟨q, 0, none⟩ x).setCell ⟨q, 1, none⟩ y) q #[x, y] t := (h.set 0 _).set 1 _
  refine ⟨⟨((Below.refl _ _).setCell (by simpa using hS) _).setCell (by simpa using hS) _, fun q' cs h' e' => ?_, fun q' h' => ?_⟩, hB⟩
  · by_cases e : q' = q
    · subst e; exact ⟨_, rfl, hB⟩
    · exact ⟨cs, e', (h'.other e _).other e _⟩
  · by_cases e : q' = q
    · subst e; exact hB
    · exact (h'.other e _).other e _
theorem RE.put5 {w : World} {q : Nat} {a b c d e x y z u v : Value} (hf : F = #[x, y, z, u, v]) (h : Blk w q #[a, b, c, d, e] t) (hS : B ≤ q) :
    RE B t F w (((((w.setCell ⟨q, 0, none⟩ x).setCell ⟨q, 1, none⟩ y).setCell ⟨q, 2, none⟩ z).setCell ⟨q, 3, none⟩ u).setCell ⟨q, 4, none⟩ v) ∧ Blk (((((w.setCell ⟨q, 0, none⟩ x).setCell ⟨q, 1, none⟩ y).setCell ⟨q, 2, none⟩ z).setCell ⟨q, 3, none⟩ u).setCell ⟨q, 4, none⟩ v) q F t := by
  subst hf
  have hB : Blk (((((w.setCell ⟨q, 0, none⟩ x).setCell ⟨q, 1, none⟩ y).setCell ⟨q, 2, none⟩ z).setCell ⟨q, 3, none⟩ u).setCell ⟨q, 4, none⟩ v) q #[x, y, z, u, v] t := ((((h.set 0 _).set 1 _).set 2 _).set 3 _).set 4 _
  refine ⟨⟨(((((Below.refl _ _).setCell (by simpa using hS) _).setCell (by simpa using hS) _).setCell (by simpa using hS) _).setCell (by simpa using hS) _).setCell (by simpa using hS) _, fun q' cs h' e' => ?_, fun q' h' => ?_⟩, hB⟩
  · by_cases e : q' = q
    · subst e; exact ⟨_, rfl, hB⟩
    · exact ⟨cs, e', ((((h'.other e _).other e _).other e _).other e _).other e _⟩
  · by_cases e : q' = q
    · subst e; exact hB
    · exact ((((h'.other e _).other e _).other e _).other e _).other e _
/-- A box, whatever lies in it. -/
def MPbo (B : Nat) (t : TypeId) (F : Array Value) : RC.MP (RE B t F) := ⟨fun v w => ∃ q cs, v = .pointer (some ⟨q, 0, none⟩) ∧ B ≤ q ∧ cs.size = F.size ∧ Blk w q cs t, fun _ _ _ ⟨q, cs, h1, h2, e, h3⟩ hr => by obtain ⟨cs', e', h⟩ := hr.k q cs h3 e; exact ⟨q, cs', h1, h2, e', h⟩⟩
/-- The box, filled. -/
def MPfi (B : Nat) (t : TypeId) (F : Array Value) : RC.MP (RE B t F) := ⟨fun v w => ∃ q, v = .pointer (some ⟨q, 0, none⟩) ∧ B ≤ q ∧ Blk w q F t, fun _ _ _ ⟨q, h1, h2, h3⟩ hr => ⟨q, h1, h2, hr.g q h3⟩⟩
end
theorem arr2 {cs : Array Value} (h : cs.size = 2) : ∃ a b, cs = #[a, b] := by
  obtain ⟨l⟩ := cs
  match l, h with
  | [a, b], _ => exact ⟨a, b, rfl⟩
theorem arr5 {cs : Array Value} (h : cs.size = 5) : ∃ a b c d e, cs = #[a, b, c, d, e] := by
  obtain ⟨l⟩ := cs
  match l, h with
  | [a, b, c, d, e], _ => exact ⟨a, b, c, d, e, rfl⟩
/-- The store was into the box that slot i holds. -/
def JE (i s : Nat) (x : Nat → Value) (w : World) : Prop := ∀ q, x s = .pointer (some ⟨q, 0, none⟩) → x i = .pointer (some ⟨q, 0, none⟩)
section
variable {i s : Nat}
theorem JE.step {j : Nat} {R : World → World → Prop} (hj : (j != i && j != s) = true) : ∀ x v w1 w2, JE i s x w1 → R w1 w2 → JE i s (upd x j v) w2 := fun x v w1 w2 h _ q hq => by
  simp only [Bool.and_eq_true, bne_iff_ne] at hj
  have h6 : upd x j v i = x i := by simp [upd]; intro e; exact absurd e.symm hj.1
  have h7 : upd x j v s = x s := by simp [upd]; intro e; exact absurd e.symm hj.2
  rw [h7] at hq
  rw [h6]
  exact h q hq
theorem JE.make {x : Nat → Value} {w' : World} (h0 : ∀ q, x s ≠ .pointer (some ⟨q, 0, none⟩)) (hne : (s != i) = true) (v : Value) : JE i s (upd x i v) w' := fun q hq => by
  have h7 : upd x i v s = x s := by simp at hne; simp [upd, hne]
  rw [h7] at hq
  exact absurd hq (h0 q)
theorem JE.put {x : Nat → Value} {w' : World} {p : Nat} (hp : x i = .pointer (some ⟨p, 0, none⟩)) (hne : (i != s) = true) : JE i s (upd x s (.pointer (some ⟨p, 0, none⟩))) w' := fun q hq => by
  have h6 : upd x s (.pointer (some ⟨p, 0, none⟩)) i = x i := by simp at hne; simp [upd, hne]
  have h8 : upd x s (.pointer (some ⟨p, 0, none⟩)) s = .pointer (some ⟨p, 0, none⟩) := by simp [upd]
  rw [h8] at hq
  rw [h6, hp, hq]
end
end Go.Proofs.YtaoobajokhcimaaGreatDoor

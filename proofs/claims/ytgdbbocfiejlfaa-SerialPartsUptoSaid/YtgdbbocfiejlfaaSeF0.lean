/- What replaces bytes by texts, in memory. -/
import Derived.Test.YtgdbbocfiejlfaaSeE
import Derived.Test.YtgdbbocfiejlfaaShf
set_option linter.unusedSimpArgs false
set_option linter.unusedVariables false
set_option linter.constructorNameAsVariable false
namespace Go.Proofs.Ytgdbbocfiejlfaa
open Go.RowKit

structure BSR (ps : Tab) (ks : List UInt8) (b : Nat) (w : World) : Prop where
  lt : b < w.heap.size
  no : ∀ c : UInt8, lookT ps c = none → w.cell? ⟨b, c.toNat, none⟩ = some (.slice none 0 0)
  yes : ∀ (c : UInt8) r, lookT ps c = some r → ∃ g cap, w.cell? ⟨b, c.toNat, none⟩ = some (.slice (some ⟨g, 0, none⟩) r.length cap) ∧ g < w.heap.size ∧ ∀ j v, (Lib.byteCells r)[j]? = some v → w.cell? ⟨g, j, none⟩ = some v
  key : ∃ g cap, w.cell? ⟨b, 256, none⟩ = some (.slice (some ⟨g, 0, none⟩) ks.length cap) ∧ g < w.heap.size ∧ ∀ j k, ks[j]? = some k → w.cell? ⟨g, j, none⟩ = some (.string ⟨#[k]⟩)
theorem BSR.on {ps : Tab} {ks : List UInt8} {b : Nat} {w w' : World} (h : BSR ps ks b w) (hb : Below w.heap.size w w') : BSR ps ks b w' := by
  refine ⟨Nat.lt_of_lt_of_le h.lt hb.size, fun c hc => (hb.cell (p := ⟨b, c.toNat, none⟩) h.lt).trans (h.no c hc), fun c r hr => ?_, ?_⟩
  · obtain ⟨g, cap, h1, h2, h3⟩ := h.yes c r hr
    exact ⟨g, cap, (hb.cell (p := ⟨b, c.toNat, none⟩) h.lt).trans h1, Nat.lt_of_lt_of_le h2 hb.size, fun j v hv => (hb.cell (p := ⟨g, j, none⟩) h2).trans (h3 j v hv)⟩
  · obtain ⟨g, cap, h1, h2, h3⟩ := h.key
    exact ⟨g, cap, (hb.cell (p := ⟨b, 256, none⟩) h.lt).trans h1, Nat.lt_of_lt_of_le h2 hb.size, fun j k hk => (hb.cell (p := ⟨g, j, none⟩) h2).trans (h3 j k hk)⟩
structure TabOk (ps : Tab) (ks : List UInt8) : Prop where
  nd : ks.Nodup
  mem : ∀ c, c ∈ ks ↔ lookT ps c ≠ none
  len : ∀ c r, lookT ps c = some r → r.length ≤ 100
  ne : ∀ c r, lookT ps c = some r → 1 ≤ r.length
  kl : ks.length ≤ 100
theorem TabOk.more {ps : Tab} {ks : List UInt8} (h : TabOk ps ks) (k : UInt8) : -1 ≤ moreT ps k ∧ moreT ps k ≤ 99 := by
  unfold moreT
  cases e : lookT ps k with
  | none => simp
  | some r => have := h.len k r e; simp; omega
theorem prod_le {c m : Int} (h0 : 0 ≤ c) (h1 : c ≤ 1073741824) (h2 : -1 ≤ m) (h3 : m ≤ 99) : -1073741824 ≤ c * m ∧ c * m ≤ 106300440576 := by
  have a1 : c * m ≤ c * 99 := Int.mul_le_mul_of_nonneg_left h3 h0
  have a2 : c * (-1) ≤ c * m := Int.mul_le_mul_of_nonneg_left h2 h0
  omega
theorem count_le (s : List UInt8) (k : UInt8) : Lib.countByte s k ≤ s.length := List.count_le_length
theorem sumT_le {ps : Tab} {ks : List UInt8} (h : TabOk ps ks) (s : List UInt8) (hs : s.length ≤ 1073741824) : ∀ rs : List UInt8, -(1073741824 * (rs.length : Int)) ≤ sumT ps s rs ∧ sumT ps s rs ≤ 106300440576 * (rs.length : Int)
  | [] => by show _ ≤ (0 : Int) ∧ (0 : Int) ≤ _; simp
  | k :: r => by
    have ih := sumT_le h s hs r
    obtain ⟨m1, m2⟩ := h.more k
    have hc := count_le s k
    have := prod_le (c := (Lib.countByte s k : Int)) (m := moreT ps k) (by omega) (by omega) m1 m2
    have e : sumT ps s (k :: r) = (Lib.countByte s k : Int) * moreT ps k + sumT ps s r := rfl
    rw [e, List.length_cons]
    omega
end Go.Proofs.Ytgdbbocfiejlfaa

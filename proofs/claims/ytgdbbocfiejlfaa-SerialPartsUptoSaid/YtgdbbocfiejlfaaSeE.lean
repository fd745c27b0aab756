/- Escaped texts, plain; a block that is filled from its head. -/
import Derived.Test.YtgdbbocfiejlfaaSeD
import Derived.Lib.Bytealg
set_option linter.unusedSimpArgs false
set_option linter.unusedVariables false
namespace Go.Proofs.Ytgdbbocfiejlfaa
open Go.RowKit

/-- What stands for which byte. -/
abbrev Tab := List (UInt8 × List UInt8)
def lookT (ps : Tab) (c : UInt8) : Option (List UInt8) := (ps.find? fun p => p.1 == c).map (·.2)
def escF (ps : Tab) (s : List UInt8) : List UInt8 := s.flatMap fun c => (lookT ps c).getD [c]
theorem escF_cons (ps : Tab) (c : UInt8) (s : List UInt8) : escF ps (c :: s) = (lookT ps c).getD [c] ++ escF ps s := rfl
theorem escF_app (ps : Tab) (s t : List UInt8) : escF ps (s ++ t) = escF ps s ++ escF ps t := List.flatMap_append
theorem escF_snoc (ps : Tab) (s : List UInt8) (j : Nat) (c : UInt8) (h : s[j]? = some c) : escF ps (s.take (j + 1)) = escF ps (s.take j) ++ (lookT ps c).getD [c] := by
  rw [List.take_add_one, h, escF_app]
  simp [escF]
theorem escF_take (ps : Tab) (s : List UInt8) (j : Nat) : (escF ps (s.take j)).length ≤ (escF ps s).length := by
  conv => rhs; rw [← List.take_append_drop j s]
  rw [escF_app, List.length_append]
  omega
theorem escF_none (ps : Tab) : ∀ s : List UInt8, (∀ c ∈ s, lookT ps c = none) → escF ps s = s
  | [], _ => rfl
  | c :: s, h => by
    rw [escF_cons, h c (by simp), escF_none ps s fun x hx => h x (List.mem_cons_of_mem _ hx)]
    rfl
/-- How much longer a byte gets. -/
def moreT (ps : Tab) (k : UInt8) : Int := (((lookT ps k).getD [k]).length : Int) - 1
def sumT (ps : Tab) (s : List UInt8) : List UInt8 → Int
  | [] => 0
  | k :: r => (Lib.countByte s k : Int) * moreT ps k + sumT ps s r
theorem sumT_nil (ps : Tab) : ∀ ks, sumT ps [] ks = 0
  | [] => rfl
  | k :: r => by
    show ((Lib.countByte [] k : Nat) : Int) * moreT ps k + sumT ps [] r = 0
    rw [sumT_nil ps r]
    simp [Lib.countByte]
theorem sumT_snoc (ps : Tab) (s : List UInt8) (k : UInt8) : ∀ ks, sumT ps s (ks ++ [k]) = sumT ps s ks + (Lib.countByte s k : Int) * moreT ps k
  | [] => by show _ + (0 : Int) = 0 + _; omega
  | a :: r => by
    show _ + sumT ps s (r ++ [k]) = _ + sumT ps s r + _
    rw [sumT_snoc ps s k r]
    omega
theorem count_cons (c k : UInt8) (s : List UInt8) : Lib.countByte (c :: s) k = Lib.countByte s k + (if c = k then 1 else 0) := by
  unfold Lib.countByte
  by_cases h : c = k
  · simp [h]
  · simp [h]
theorem sumT_cons (ps : Tab) (c : UInt8) (s : List UInt8) : ∀ ks : List UInt8, ks.Nodup → sumT ps (c :: s) ks = sumT ps s ks + (if c ∈ ks then moreT ps c else 0)
  | [], _ => by show (0 : Int) = 0 + _; simp
  | k :: r, hnd => by
    have ih := sumT_cons ps c s r (List.nodup_cons.1 hnd).2
    have hk := (List.nodup_cons.1 hnd).1
    show ((Lib.countByte (c :: s) k : Nat) : Int) * moreT ps k + sumT ps (c :: s) r = (Lib.countByte s k : Int) * moreT ps k + sumT ps s r + _
    rw [ih, count_cons]
    by_cases h : c = k
    · subst h
      rw [if_pos rfl, if_neg hk, if_pos (by simp)]
      have : ((Lib.countByte s c + 1 : Nat) : Int) * moreT ps c = (Lib.countByte s c : Int) * moreT ps c + moreT ps c := by
        rw [Int.natCast_add, Int.add_mul]
        simp
      omega
    · rw [if_neg h]
      have : (c ∈ k :: r) = (c ∈ r) := by simp [h]
      simp only [this, Nat.add_zero]
      omega
/-- The escaped text's length, by counting. -/
theorem esc_len (ps : Tab) (ks : List UInt8) (hnd : ks.Nodup) (hk : ∀ c, c ∈ ks ↔ lookT ps c ≠ none) : ∀ s : List UInt8, ((escF ps s).length : Int) = (s.length : Int) + sumT ps s ks
  | [] => by rw [sumT_nil]; rfl
  | c :: s => by
    rw [escF_cons, List.length_append, sumT_cons ps c s ks hnd, List.length_cons]
    have ih := esc_len ps ks hnd hk s
    by_cases h : c ∈ ks
    · rw [if_pos h]
      unfold moreT
      omega
    · rw [if_neg h]
      have : lookT ps c = none := by
        cases e : lookT ps c with
        | none => rfl
        | some r => exact absurd ((hk c).2 (by rw [e]; simp)) h
      rw [this]
      simp
      omega
theorem count_zero (s : List UInt8) (k : UInt8) : Lib.countByte s k = 0 → k ∉ s := by
  induction s with
  | nil => intro _ h; cases h
  | cons c s ih =>
    rw [count_cons]
    intro h hm
    rcases List.mem_cons.1 hm with rfl | hm
    · simp at h
    · exact ih (by omega) hm
/-- None of the keys is there. -/
theorem esc_idle (ps : Tab) (ks : List UInt8) (hk : ∀ c, c ∈ ks ↔ lookT ps c ≠ none) (s : List UInt8) (h : (ks.any fun k => Lib.countByte s k != 0) = false) : escF ps s = s := by
  refine escF_none ps s fun c hc => ?_
  cases e : lookT ps c with
  | none => rfl
  | some r =>
    have hm := (hk c).2 (by rw [e]; simp)
    have := List.any_eq_false.1 h c hm
    exact absurd hc (count_zero s c (by simpa using this))
theorem esc_idle2 (ps : Tab) (s : List UInt8) (h : (s.any fun c => (lookT ps c).isSome) = false) : escF ps s = s := by
  refine escF_none ps s fun c hc => ?_
  have := List.any_eq_false.1 h c hc
  simpa using this
theorem any_snoc {α : Type} (f : α → Bool) (xs : List α) (j : Nat) (x : α) (h : xs[j]? = some x) : (xs.take (j + 1)).any f = ((xs.take j).any f || f x) := by
  rw [List.take_add_one, h, List.any_append]
  simp
theorem byteCells_len (l : List UInt8) : (Lib.byteCells l).length = l.length := by simp [Lib.byteCells]

/-- Cells that are set one by one. -/
def setsL (l : List Value) (o : Nat) : List Value → List Value
  | [] => l
  | v :: r => setsL (l.set o v) (o + 1) r
theorem setsL_len (l : List Value) (o : Nat) (vs : List Value) : (setsL l o vs).length = l.length := by
  induction vs generalizing l o with
  | nil => rfl
  | cons v r ih => show (setsL (l.set o v) (o + 1) r).length = _; rw [ih, List.length_set]
theorem setsL_app (p : List Value) : ∀ (vs z : List Value), vs.length ≤ z.length → setsL (p ++ z) p.length vs = p ++ vs ++ z.drop vs.length := by
  intro vs
  induction vs generalizing p with
  | nil => intro z _; show p ++ z = p ++ [] ++ z.drop 0; simp
  | cons v r ih =>
    intro z hz
    match z, hz with
    | u :: z, hz =>
      show setsL ((p ++ u :: z).set p.length v) (p.length + 1) r = _
      have e : (p ++ u :: z).set p.length v = (p ++ [v]) ++ z := by
        rw [List.set_append_right _ _ (Nat.le_refl _)]
        simp
      rw [e, show p.length + 1 = (p ++ [v]).length by simp, ih (p ++ [v]) z (by simpa using hz)]
      simp
theorem Blk.sets {w : World} {g : Nat} {t : TypeId} : ∀ (vs : List Value) (o : Nat) (w : World) (l : List Value), Blk w g l.toArray t → Blk (w.setCells g o vs) g (setsL l o vs).toArray t
  | [], _, _, _, h => h
  | v :: r, o, w, l, h => by
    have h1 := h.set o v
    have e : l.toArray.setIfInBounds o v = (l.set o v).toArray := by simp
    rw [e] at h1
    exact Blk.sets (w := w) r (o + 1) _ _ h1
/-- The bytes so far, then zeros. -/
def bufL (d : List UInt8) (N : Nat) : List Value := Lib.byteCells d ++ List.replicate (N - d.length) (.int .u8 0)
theorem bufL_len (d : List UInt8) (N : Nat) (h : d.length ≤ N) : (bufL d N).length = N := by
  unfold bufL
  rw [List.length_append, byteCells_len, List.length_replicate]
  omega
theorem bufL_put (d r : List UInt8) (N : Nat) (h : d.length + r.length ≤ N) : setsL (bufL d N) d.length (Lib.byteCells r) = bufL (d ++ r) N := by
  unfold bufL
  have := setsL_app (Lib.byteCells d) (Lib.byteCells r) (List.replicate (N - d.length) (.int .u8 0)) (by rw [byteCells_len, List.length_replicate]; omega)
  rw [byteCells_len] at this
  rw [this, cells_app, List.length_append, byteCells_len]
  congr 1
  rw [List.drop_replicate]
  congr 1
  omega
theorem bufL_again (d r : List UInt8) (N : Nat) (h : d.length + r.length ≤ N) : setsL (bufL (d ++ r) N) d.length (Lib.byteCells r) = bufL (d ++ r) N := by
  unfold bufL
  have := setsL_app (Lib.byteCells d) (Lib.byteCells r) (Lib.byteCells r ++ List.replicate (N - (d ++ r).length) (.int .u8 0)) (by rw [List.length_append]; omega)
  rw [byteCells_len, ← List.append_assoc] at this
  rw [cells_app, this]
  simp
theorem bufL_full (d : List UInt8) : bufL d d.length = Lib.byteCells d := by
  unfold bufL
  rw [Nat.sub_self]
  simp
theorem setsL_one (d : List UInt8) (c : UInt8) (N : Nat) (h : d.length + 1 ≤ N) : (bufL d N).set d.length (.int .u8 c.toNat) = bufL (d ++ [c]) N := bufL_put d [c] N h
end Go.Proofs.Ytgdbbocfiejlfaa

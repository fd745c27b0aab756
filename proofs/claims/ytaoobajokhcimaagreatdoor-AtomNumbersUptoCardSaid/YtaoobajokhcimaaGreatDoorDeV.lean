/- Writing a number, plain: the two ways write the same. -/
import Derived.Test.YtaoobajokhcimaaGreatDoorDeF
import Derived.Lib.ItoaNum
import Derived.Lib.Repeat
set_option linter.unusedSimpArgs false
set_option linter.unusedVariables false
namespace Go.Proofs.YtaoobajokhcimaaGreatDoor

def chr (d : Int) : UInt8 := UInt8.ofNat (48 + d.toNat)
/-- A row of digits, the lowest first, as letters. -/
def chs (l : List Int) : List UInt8 := (l.map chr).reverse
theorem chs_app (a b : List Int) : chs (a ++ b) = chs b ++ chs a := by unfold chs; simp
theorem dec_digs (m : Nat) (h : m ≠ 0) : Lib.decDigits m = chs (digs m) := by
  induction m using Nat.strongRecOn with
  | _ m ih =>
    rw [digs_step h, Lib.decDigits]
    split
    · rename_i h10
      have : m / 10 = 0 := by omega
      rw [this, digs_zero]
      unfold chs chr
      simp
      congr 1
      omega
    · rename_i h10
      rw [ih (m / 10) (by omega) (by omega)]
      unfold chs chr
      simp only [List.map_cons, List.reverse_cons]
      congr 3
/-- So many digits at least. -/
def padD (l : List Int) (s : Nat) : List Int := l ++ List.replicate (s + 1 - l.length) 0
theorem padD_len (l : List Int) (s : Nat) : s < (padD l s).length := by unfold padD; simp; omega
theorem padD_Dg {l : List Int} (h : Dg l) (s : Nat) : Dg (padD l s) := h.app (Dg.zeros _)
/-- The program's way. -/
def padS (l : List UInt8) (s : Nat) : List UInt8 := if l.length ≤ s then Lib.repeatL [48] (s + 1 - l.length) ++ l else l
theorem repeat_one (k : Nat) : Lib.repeatL [48] k = List.replicate k 48 := by
  induction k with
  | zero => rfl
  | succ k ih => rw [Lib.repeatL, ih]; rfl
theorem chs_zeros (k : Nat) : chs (List.replicate k 0) = List.replicate k 48 := by
  unfold chs
  rw [List.map_replicate, List.reverse_replicate]
  rfl
theorem chs_len (l : List Int) : (chs l).length = l.length := by unfold chs; simp
theorem pad_same (m s : Nat) : padS (Lib.decDigits m) s = chs (padD (digs m) s) := by
  unfold padD
  rw [chs_app, chs_zeros]
  rcases Nat.eq_zero_or_pos m with h | h
  · subst h
    have e : Lib.decDigits 0 = [48] := by rw [Lib.decDigits]; rfl
    unfold padS
    rw [e, digs_zero, repeat_one]
    simp only [List.length_cons, List.length_nil, chs, List.map_nil, List.reverse_nil, List.append_nil, Nat.sub_zero]
    split
    · rw [show s + 1 - (0 + 1) = s by omega, List.replicate_succ', ]
    · have : s = 0 := by omega
      subst this
      rfl
  · rw [dec_digs m (by omega)]
    unfold padS
    rw [chs_len, repeat_one]
    split
    · rfl
    · rw [show s + 1 - (digs m).length = 0 by omega]
      rfl
/-- The document's way: letter by letter, ahead of what is there. -/
def fmtL (s : Nat) : List Int → Nat → List UInt8 → List UInt8
  | [], _, acc => acc
  | d :: l, i, acc => fmtL s l (i + 1) (chr d :: (if i == s && decide (0 < s) then 46 :: acc else acc))
theorem fmtL_past (s : Nat) : ∀ (l : List Int) (i : Nat) (acc : List UInt8), s < i → fmtL s l i acc = chs l ++ acc := by
  intro l
  induction l with
  | nil => intro i acc h; rfl
  | cons d l ih =>
    intro i acc h
    have e : (i == s) = false := by simp; omega
    rw [fmtL, e, ih _ _ (by omega)]
    unfold chs
    simp
theorem fmtL_before (s : Nat) : ∀ (l : List Int) (i : Nat) (acc : List UInt8), i ≤ s → 0 < s → s < i + l.length → fmtL s l i acc = chs (l.drop (s - i)) ++ [46] ++ chs (l.take (s - i)) ++ acc := by
  intro l
  induction l with
  | nil => intro i acc h1 h2 h3; simp at h3; omega
  | cons d l ih =>
    intro i acc h1 h2 h3
    rcases Nat.lt_or_ge i s with h | h
    · have e : (i == s) = false := by simp; omega
      rw [fmtL, e, ih _ _ (by omega) h2 (by simp at h3; omega), show s - i = (s - (i + 1)) + 1 by omega]
      unfold chs
      simp
    · have : i = s := by omega
      subst this
      rw [fmtL, fmtL_past _ _ _ _ (by omega)]
      simp [h2, chs]
/-- What is written. -/
def formatF (n : Int) (s : Nat) : List UInt8 :=
  (if n < 0 then [45] else []) ++ (if s = 0 then Lib.decDigits n.natAbs else (padS (Lib.decDigits n.natAbs) s).take ((padS (Lib.decDigits n.natAbs) s).length - s) ++ [46] ++ (padS (Lib.decDigits n.natAbs) s).drop ((padS (Lib.decDigits n.natAbs) s).length - s))
theorem format_doc (n : Int) (s : Nat) : (if n < 0 then [45] else []) ++ fmtL s (padD (digs n.natAbs) s) 0 [] = formatF n s := by
  unfold formatF
  congr 1
  rcases Nat.eq_zero_or_pos s with h | h
  · subst h
    rw [if_pos rfl]
    have : ∀ (l : List Int) (i : Nat) (acc : List UInt8), fmtL 0 l i acc = chs l ++ acc := by
      intro l
      induction l with
      | nil => intro i acc; rfl
      | cons d l ih => intro i acc; rw [fmtL, ih]; unfold chs; simp
    rw [this, ← pad_same, List.append_nil]
    unfold padS
    rw [if_neg]
    intro h
    have : (Lib.decDigits n.natAbs).length = 0 := by omega
    have h0 := List.length_eq_zero_iff.1 this
    rw [Lib.decDigits] at h0
    split at h0 <;> simp at h0
  · rw [if_neg (by omega), fmtL_before _ _ _ _ (by omega) h (by have := padD_len (digs n.natAbs) s; omega), pad_same, chs_len, Nat.sub_zero, List.append_nil]
    have hl := padD_len (digs n.natAbs) s
    generalize padD (digs n.natAbs) s = l at *
    unfold chs
    rw [List.take_reverse, List.drop_reverse, List.length_map, List.map_take, List.map_drop, show l.length - (l.length - s) = s by omega]
end Go.Proofs.YtaoobajokhcimaaGreatDoor

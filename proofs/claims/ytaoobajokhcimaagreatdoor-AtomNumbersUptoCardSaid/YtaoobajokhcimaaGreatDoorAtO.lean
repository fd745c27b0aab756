/- The reference's next, Points, XML, Valid as plain functions. -/
import Derived.Test.YtaoobajokhcimaaGreatDoorBox
set_option linter.unusedSimpArgs false
set_option linter.unusedVariables false
namespace Go.Proofs.YtaoobajokhcimaaGreatDoor

/-- A byte of a text, 0 where there is none. -/
def byteAt (t : ByteArray) (i : Nat) : Int := ((t.data[i]?.getD 0).toNat : Int)
theorem byteAt_bd (t : ByteArray) (i : Nat) : 0 ≤ byteAt t i ∧ byteAt t i ≤ 255 := by
  unfold byteAt
  have := (t.data[i]?.getD 0).toNat_lt
  omega
def finF (p least n : Int) : Int × Int := if p < least ∨ (55296 ≤ p ∧ p ≤ 57343) ∨ 1114111 < p then (0, 0) else (p, n)
/-- What the reference's 'next' answers, of the bytes and how many there are. -/
def nextG (z c d e f : Int) : Int × Int :=
  if c < 128 then (c, 1) else
  if c < 192 then (0, 0) else
  if c < 224 then (if z < 2 then (0, 0) else if d < 128 ∨ 191 < d then (0, 0) else finF (64 * (c - 192) + d - 128) 128 2) else
  if c < 240 then (if z < 3 then (0, 0) else if d < 128 ∨ 191 < d then (0, 0) else if e < 128 ∨ 191 < e then (0, 0) else finF (64 * (64 * (c - 224) + d - 128) + e - 128) 2048 3) else
  if c < 248 then (if z < 4 then (0, 0) else if d < 128 ∨ 191 < d then (0, 0) else if e < 128 ∨ 191 < e then (0, 0) else if f < 128 ∨ 191 < f then (0, 0) else finF (64 * (64 * (64 * (c - 240) + d - 128) + e - 128) + f - 128) 65536 4) else (0, 0)
def nextF (t : ByteArray) : Int × Int := nextG t.size (byteAt t 0) (byteAt t 1) (byteAt t 2) (byteAt t 3)
theorem nextF_bd (t : ByteArray) : 0 ≤ (nextF t).2 ∧ (nextF t).2 ≤ 4 ∧ ((nextF t).2 ≠ 0 → 0 < t.size → (nextF t).2 ≤ t.size ∧ 0 ≤ (nextF t).1 ∧ (nextF t).1 ≤ 1114111) := by
  have h0 := byteAt_bd t 0
  unfold nextF nextG finF
  generalize byteAt t 0 = c at *
  generalize byteAt t 1 = d
  generalize byteAt t 2 = e
  generalize byteAt t 3 = f
  (repeat' split) <;> simp <;> omega

/-- The numbers from a place on; none, if one is wrong. -/
def ptsR (t : ByteArray) : Nat → Nat → Option (List Int)
  | 0, _ => some []
  | k + 1, j => if j < t.size then (if (nextF (t.extract j t.size)).2 = 0 then none else (ptsR t k (j + (nextF (t.extract j t.size)).2.toNat)).map ((nextF (t.extract j t.size)).1 :: ·)) else some []
def pointsF (t : ByteArray) : Option (List Int) := ptsR t (t.size + 1) 0

def xmlF (p : Int) : Bool := (p == 9 || p == 10 || p == 13) || (decide (32 ≤ p ∧ p ≤ 55295) || decide (57344 ≤ p ∧ p ≤ 65533) || decide (65536 ≤ p ∧ p ≤ 1114111))
def validF (t : ByteArray) : Bool := match pointsF t with | none => false | some l => l.all xmlF
end Go.Proofs.YtaoobajokhcimaaGreatDoor

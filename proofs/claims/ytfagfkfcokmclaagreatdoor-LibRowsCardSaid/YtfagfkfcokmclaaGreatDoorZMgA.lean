/- Texts put together: Box, DeP, DeW, DeD, DeE, DeF, DeV, DeR, DeS, DeT, DeX, DeQ. -/
import Derived.Test.YtfagfkfcokmclaaGreatDoorRows
import Derived.WalkKit
import Derived.WalkSpells
import Derived.WalkLawsBesides
import Derived.Deep.LoopGhost
import Derived.Deep.Light
import Derived.Handy
import Derived.Lib.Hide
import Derived.Lib.ItoaNum
import Derived.Lib.Repeat
import Derived.Lib.IndexMore
import Derived.Lib.SlTrimSet
import Derived.Lib.AtoiAll
/- Small facts on blocks of cells that the call itself has made, and on what stays of them below a mark. -/
section
namespace Go.Proofs.YtfagfkfcokmclaaGreatDoor
open Go.RowKit

/-- Block b of the world is these cells, and none of them is frozen. -/
def Blk (w : World) (b : Nat) (cs : Array Value) (t : TypeId) : Prop := w.heap[b]? = some (.cells cs t (0, 0))

theorem Blk.new (w : World) (cs : Array Value) (t : TypeId) : Blk (w.alloc (.cells cs t)) w.heap.size cs t := by
  show (w.heap.push _)[w.heap.size]? = _
  simp
theorem Blk.lt {w : World} {b : Nat} {cs : Array Value} {t : TypeId} (h : Blk w b cs t) : b < w.heap.size := by
  rcases Nat.lt_or_ge b w.heap.size with h' | h'
  · exact h'
  · simp [Blk, Array.getElem?_eq_none h'] at h
theorem Blk.cell {w : World} {b : Nat} {cs : Array Value} {t : TypeId} (h : Blk w b cs t) (i : Nat) : w.cell? ⟨b, i, none⟩ = cs[i]? := by
  unfold Blk at h
  simp [World.cell?, h]
theorem Blk.free {w : World} {b : Nat} {cs : Array Value} {t : TypeId} (h : Blk w b cs t) (i : Nat) : w.frozen? ⟨b, i, none⟩ = false := by
  unfold Blk at h
  simp [World.frozen?, h]
theorem Blk.below {w w' : World} {b n : Nat} {cs : Array Value} {t : TypeId} (h : Blk w b cs t) (hb : Below n w w') (hn : b < n) : Blk w' b cs t := by
  unfold Blk at *
  rw [hb.block b hn, h]
theorem Blk.alloc {w : World} {b : Nat} {cs : Array Value} {t : TypeId} (h : Blk w b cs t) (o : Obj) : Blk (w.alloc o) b cs t := by
  have hl := h.lt
  unfold Blk at *
  rw [Below.heap_alloc _ _ _ hl, h]
theorem Blk.other {w : World} {b : Nat} {cs : Array Value} {t : TypeId} (h : Blk w b cs t) {a : Addr} (ha : b ≠ a.block) (v : Value) : Blk (w.setCell a v) b cs t := by
  unfold Blk at *
  rw [Below.heap_setCell _ _ _ _ ha, h]
theorem Blk.set {w : World} {b : Nat} {cs : Array Value} {t : TypeId} (h : Blk w b cs t) (i : Nat) (v : Value) : Blk (w.setCell ⟨b, i, none⟩ v) b (cs.setIfInBounds i v) t := by
  have hl := h.lt
  unfold Blk at *
  have h' : w.heap[b] = .cells cs t (0, 0) := by simpa [Array.getElem?_eq_getElem hl] using h
  show (w.heap.modify b _)[b]? = _
  rw [Array.getElem?_eq_getElem (by simpa using hl), Array.getElem_modify_self, h']
  rfl
theorem Blk.drew {w : World} {b : Nat} {cs : Array Value} {t : TypeId} (h : Blk w b cs t) : Blk w.drew b cs t := h

/-- A block of three cells: its cells, and that they may be written. -/
theorem Blk.three {w : World} {b : Nat} {x y z : Value} {t : TypeId} (h : Blk w b #[x, y, z] t) :
    w.cell? ⟨b, 0, none⟩ = some x ∧ w.cell? ⟨b, 1, none⟩ = some y ∧ w.cell? ⟨b, 2, none⟩ = some z ∧ w.frozen? ⟨b, 0, none⟩ = false ∧ w.frozen? ⟨b, 1, none⟩ = false ∧ w.frozen? ⟨b, 2, none⟩ = false :=
  ⟨h.cell 0, h.cell 1, h.cell 2, h.free 0, h.free 1, h.free 2⟩

/-- What was there reads as it did: two rules for the walk. -/
theorem bcell {W w1 : World} (hb : Below W.heap.size W w1) : (∀ b o, b < W.heap.size → w1.cell? ⟨b, o, none⟩ = W.cell? ⟨b, o, none⟩) ∧ (∀ b o, b < W.heap.size → w1.frozen? ⟨b, o, none⟩ = W.frozen? ⟨b, o, none⟩) :=
  ⟨fun b o h => hb.cell (p := ⟨b, o, none⟩) h, fun b o h => hb.frozen (p := ⟨b, o, none⟩) h⟩

/-- A row of ints that lies in memory: n of them, from the cell ⟨b, o⟩ on (where there is one). -/
def IRow (w : World) (a : Option Addr) (n : Nat) (xs : List Int) : Prop :=
  xs.length = n ∧ n ≤ 1152921504606846976 ∧ (0 < n → ∃ b o, a = some ⟨b, o, none⟩ ∧ b < w.heap.size ∧ ∀ j x, xs[j]? = some x → w.cell? ⟨b, o + j, none⟩ = some (.int .i64 x))
/-- A call that answers such a row and leaves what was there. -/
def Row (xs : List Int) (w : World) (e : Ending) (w' : World) : Prop := ∃ a n cap, e = .returned (.slice a n cap) ∧ IRow w' a n xs ∧ Below w.heap.size w w' ∧ n ≤ cap ∧ cap ≤ 1152921504606846976

theorem IRow.below {w w' : World} {a : Option Addr} {n m : Nat} {xs : List Int} (h : IRow w a n xs) (hb : Below m w w') (hm : w.heap.size ≤ m) : IRow w' a n xs := by
  refine ⟨h.1, h.2.1, fun hn => ?_⟩
  obtain ⟨b, o, rfl, hl, hc⟩ := h.2.2 hn
  exact ⟨b, o, rfl, Nat.lt_of_lt_of_le hl hb.size, fun j x hx => by rw [hb.cell (p := ⟨b, o + j, none⟩) (Nat.lt_of_lt_of_le hl hm)]; exact hc j x hx⟩
theorem IRow.nil (w : World) (a : Option Addr) : IRow w a 0 [] := ⟨rfl, by omega, fun h => by omega⟩
theorem IRow.new (w : World) (xs : List Int) (t : TypeId) (h : xs.length ≤ 1152921504606846976) : IRow (w.alloc (.cells (xs.map (Value.int .i64)).toArray t)) (some ⟨w.heap.size, 0, none⟩) xs.length xs := by
  refine ⟨rfl, h, fun hn => ⟨_, 0, rfl, by simp, fun j x hx => ?_⟩⟩
  rw [World.cell?_alloc_at _ _ _ _ rfl]
  simp [hx]
theorem Row.new {w : World} {xs : List Int} {t : TypeId} {n : Nat} {v : Value} (hv : v = .slice (some ⟨w.heap.size, 0, none⟩) n n) {cs : Array Value} (hcs : cs = (xs.map (Value.int .i64)).toArray) (h : xs.length ≤ 1152921504606846976) (hn : xs.length = n) :
    Row xs w (.returned v) (w.alloc (.cells cs t)) := by
  subst hv hcs hn
  exact ⟨_, _, _, rfl, IRow.new w xs t h, (Below.refl _ _).alloc (Nat.le_refl _) _, Nat.le_refl _, h⟩

end Go.Proofs.YtfagfkfcokmclaaGreatDoor
end

/- Decimal numbers, plain: whole numbers beside their scale; no program in sight. -/
section
set_option linter.unusedSimpArgs false
set_option linter.unusedVariables false
namespace Go.Proofs.YtfagfkfcokmclaaGreatDoor

/-- A number without noughts at the end, of s digits behind the point. -/
def normN : Nat → Nat → Nat × Nat
  | m, 0 => (m, 0)
  | m, s + 1 => if m % 10 == 0 then normN (m / 10) s else (m, s + 1)

theorem normN_spec : ∀ (s m : Nat), (normN m s).2 ≤ s ∧ (normN m s).1 * 10 ^ (s - (normN m s).2) = m ∧ (0 < (normN m s).2 → (normN m s).1 % 10 ≠ 0) ∧ (normN m s).1 ≤ m := by
  intro s
  induction s with
  | zero => intro m; simp [normN]
  | succ s ih =>
    intro m
    rw [normN]
    cases h : (m % 10 == 0)
    · simp at h
      simp [h]
    · simp at h
      simp only [if_true]
      obtain ⟨h1, h2, h3, h4⟩ := ih (m / 10)
      refine ⟨by omega, ?_, h3, by omega⟩
      rw [show s + 1 - (normN (m / 10) s).2 = (s - (normN (m / 10) s).2) + 1 by omega, Nat.pow_succ, ← Nat.mul_assoc, h2]
      omega

/-- A number that is right. -/
structure Rt (n s : Int) : Prop where
  lo : -999999999999999999 ≤ n
  hi : n ≤ 999999999999999999
  s0 : 0 ≤ s
  s9 : s ≤ 9
  nz : 0 < s → n % 10 ≠ 0

def rightF (n s : Int) : Bool := !(decide (n < -999999999999999999) || decide (999999999999999999 < n) || decide (s < 0) || decide (9 < s) || decide (0 < s) && n.tmod 10 == 0)
theorem tmod10 (n : Int) : (n.tmod 10 == 0) = (n % 10 == 0) := by
  have h : (n.tmod 10 = 0) ↔ (n % 10 = 0) := by
    constructor
    · intro h; have := Int.dvd_of_tmod_eq_zero h; omega
    · intro h; exact Int.tmod_eq_zero_of_dvd (Int.dvd_of_emod_eq_zero h)
  cases e : (n % 10 == 0) <;> simp at e ⊢ <;> omega
theorem rightF_iff (n s : Int) : rightF n s = true ↔ Rt n s := by
  unfold rightF
  rw [tmod10]
  simp only [Bool.not_eq_true', Bool.or_eq_false_iff, Bool.and_eq_false_iff, decide_eq_false_iff_not, beq_eq_false_iff_ne]
  constructor
  · rintro ⟨⟨⟨⟨h1, h2⟩, h3⟩, h4⟩, h5⟩
    exact ⟨by omega, by omega, by omega, by omega, fun h => by omega⟩
  · rintro ⟨h1, h2, h3, h4, h5⟩
    exact ⟨⟨⟨⟨by omega, by omega⟩, by omega⟩, by omega⟩, by omega⟩
theorem Rt.zero : Rt 0 0 := ⟨by omega, by omega, by omega, by omega, by omega⟩
theorem Rt.whole {n : Int} (h1 : -999999999999999999 ≤ n) (h2 : n ≤ 999999999999999999) : Rt n 0 := ⟨h1, h2, by omega, by omega, by omega⟩

theorem pow10_pos (n : Nat) : 0 < (10 : Int) ^ n := Int.pow_pos (by omega)
/-- One form for each value. -/
theorem uniq0 (n k : Int) (s d : Nat) (h : n * 10 ^ d = k) (hk : 0 < d → k % 10 ≠ 0) : d = 0 := by
  rcases Nat.eq_zero_or_pos d with h0 | h0
  · exact h0
  · exfalso
    apply hk h0
    obtain ⟨d', rfl⟩ : ∃ d', d = d' + 1 := ⟨d - 1, by omega⟩
    rw [← h, Int.pow_succ, ← Int.mul_assoc]
    exact Int.mul_emod_left _ _
theorem uniq1 (n k : Int) (s t : Nat) (h : n * 10 ^ t = k * 10 ^ s) (hst : s ≤ t) (hk : 0 < t → k % 10 ≠ 0) : s = t ∧ n = k := by
  obtain ⟨d, rfl⟩ : ∃ d, t = s + d := ⟨t - s, by omega⟩
  have h' : n * 10 ^ d = k := by
    have : n * 10 ^ d * 10 ^ s = k * 10 ^ s := by
      rw [← h, Int.mul_assoc, ← Int.pow_add, Nat.add_comm d s]
    exact Int.eq_of_mul_eq_mul_right (by have := pow10_pos s; omega) this
  have h0 := uniq0 n k s d h' (fun h => hk (by omega))
  subst h0
  simp at h'
  exact ⟨rfl, h'⟩
theorem uniq (n k : Int) (s t : Nat) (h : n * 10 ^ t = k * 10 ^ s) (hn : 0 < s → n % 10 ≠ 0) (hk : 0 < t → k % 10 ≠ 0) : s = t ∧ n = k := by
  rcases Nat.le_total s t with h1 | h1
  · exact uniq1 n k s t h h1 hk
  · have := uniq1 k n t s h.symm h1 hn
    exact ⟨this.1.symm, this.2.symm⟩

/-- A number's value, in thousand millionths. -/
def val9 (n s : Int) : Int := n * 10 ^ (9 - s).toNat
theorem val9_up (n : Int) (s t : Nat) (h1 : s ≤ t) (h2 : t ≤ 9) : val9 n s = n * 10 ^ (t - s) * 10 ^ (9 - t) := by
  unfold val9
  rw [Int.mul_assoc, ← Int.pow_add]
  congr 2
  omega
theorem uniq9 (n k s t : Int) (h : val9 n s = val9 k t) (s0 : 0 ≤ s) (s9 : s ≤ 9) (t0 : 0 ≤ t) (t9 : t ≤ 9) (hn : 0 < s → n % 10 ≠ 0) (hk : 0 < t → k % 10 ≠ 0) : n = k ∧ s = t := by
  obtain ⟨a, rfl⟩ : ∃ a : Nat, s = (a : Int) := ⟨s.toNat, by omega⟩
  obtain ⟨b, rfl⟩ : ∃ b : Nat, t = (b : Int) := ⟨t.toNat, by omega⟩
  have h1 : n * 10 ^ b = k * 10 ^ a := by
    unfold val9 at h
    have ha : ((9 : Int) - (a : Int)).toNat = 9 - a := by omega
    have hb : ((9 : Int) - (b : Int)).toNat = 9 - b := by omega
    rw [ha, hb] at h
    have e1 : n * 10 ^ b * 10 ^ 9 = n * 10 ^ (9 - a) * (10 ^ a * 10 ^ b) := by
      rw [Int.mul_assoc n, Int.mul_assoc n, ← Int.pow_add, ← Int.pow_add, ← Int.pow_add]
      congr 2
      omega
    have e2 : k * 10 ^ a * 10 ^ 9 = k * 10 ^ (9 - b) * (10 ^ a * 10 ^ b) := by
      rw [Int.mul_assoc k, Int.mul_assoc k, ← Int.pow_add, ← Int.pow_add, ← Int.pow_add]
      congr 2
      omega
    exact Int.eq_of_mul_eq_mul_right (by have := pow10_pos 9; omega) (e1.trans ((by rw [h] : _ = _).trans e2.symm))
  have := uniq n k a b h1 (fun h => hn (by omega)) (fun h => hk (by omega))
  omega
theorem Rt.uniq {n s k t : Int} (h1 : Rt n s) (h2 : Rt k t) (h : val9 n s = val9 k t) : n = k ∧ s = t := uniq9 n k s t h h1.s0 h1.s9 h2.s0 h2.s9 h1.nz h2.nz

/-- A sign and bits. -/
def sgn (neg : Bool) (m : Nat) : Int := if neg then -(m : Int) else m
/-- What a value fits to: number, scale, error. -/
def fitW (neg : Bool) (m s : Nat) : Int × Int × Int :=
  if decide (999999999999999999 < (normN (m / 10 ^ (s - 9)) (min s 9)).1) then (0, 0, 53) else if (normN (m / 10 ^ (s - 9)) (min s 9)).1 == 0 then (0, 0, 0) else
    (sgn neg (normN (m / 10 ^ (s - 9)) (min s 9)).1, ((normN (m / 10 ^ (s - 9)) (min s 9)).2 : Int), 0)
def fitZ (z : Int) (s : Nat) : Int × Int × Int := fitW (decide (z < 0)) z.natAbs s
theorem fitW_zero (neg : Bool) (s : Nat) : fitW neg 0 s = (0, 0, 0) := by
  unfold fitW
  have h := (normN_spec (min s 9) (0 / 10 ^ (s - 9))).2.2.2
  rw [Nat.zero_div] at h ⊢
  have h' : (normN 0 (min s 9)).1 = 0 := by omega
  simp [h']
theorem fitW_Z (neg : Bool) (m s : Nat) : fitW neg m s = fitZ (sgn neg m) s := by
  rcases Nat.eq_zero_or_pos m with h | h
  · subst h
    have : sgn neg 0 = 0 := by cases neg <;> rfl
    unfold fitZ
    rw [this, fitW_zero, Int.natAbs_zero, fitW_zero]
  · unfold fitZ sgn
    cases neg
    · have : decide ((m : Int) < 0) = false := by simp
      simp [this]
    · have : decide (-(m : Int) < 0) = true := by simp; omega
      rw [if_pos rfl, this, Int.natAbs_neg, Int.natAbs_natCast]
theorem sgn_mul (neg : Bool) (m k : Nat) : sgn neg (m * k) = sgn neg m * k := by
  unfold sgn
  cases neg <;> simp [Int.neg_mul]
theorem sgn_emod (neg : Bool) (m : Nat) (h : m % 10 ≠ 0) : sgn neg m % 10 ≠ 0 := by
  unfold sgn
  cases neg <;> simp <;> omega
theorem pow_cast (k : Nat) : ((10 ^ k : Nat) : Int) = (10 : Int) ^ k := by simp
theorem norm_val (neg : Bool) (m s : Nat) (hs : s ≤ 9) : val9 (sgn neg (normN m s).1) ((normN m s).2 : Int) = sgn neg m * 10 ^ (9 - s) := by
  obtain ⟨h1, h2, h3, h4⟩ := normN_spec s m
  rw [val9_up _ _ s h1 hs]
  congr 1
  conv => rhs; rw [← h2]
  rw [sgn_mul, pow_cast]
theorem fitW_exact (neg : Bool) (m s : Nat) (hs : s ≤ 9) (n k : Int) (h : Rt n k) (hv : sgn neg m * 10 ^ (9 - s) = val9 n k) : fitW neg m s = (n, k, 0) := by
  obtain ⟨h1, h2, h3, h4⟩ := normN_spec s m
  have hu := uniq9 (sgn neg (normN m s).1) n ((normN m s).2 : Int) k (by rw [norm_val neg m s hs, hv]) (by omega) (by omega) h.s0 h.s9 (fun h => sgn_emod _ _ (h3 (by omega))) h.nz
  unfold fitW
  rw [show s - 9 = 0 by omega, show min s 9 = s by omega, Nat.pow_zero, Nat.div_one]
  obtain ⟨u1, u2⟩ := hu
  have hlo := h.lo
  have hhi := h.hi
  have hle : (normN m s).1 ≤ 999999999999999999 := by
    rw [← u1] at hlo hhi
    unfold sgn at hlo hhi
    cases neg <;> simp at hlo hhi <;> omega
  rw [decide_eq_false (by omega)]
  cases e : ((normN m s).1 == 0)
  · simp [u1, u2]
  · simp at e
    have hn : n = 0 := by rw [← u1, e]; unfold sgn; cases neg <;> rfl
    have hk : k = 0 := by
      have := h.nz
      have := h.s0
      subst hn
      rcases Int.lt_or_le 0 k with h' | h'
      · exact absurd rfl (h.nz h')
      · omega
    simp [hn, hk]
theorem fitW_cases (neg : Bool) (m s : Nat) : (fitW neg m s = (0, 0, 53)) ∨ (∃ n k, fitW neg m s = (n, k, 0) ∧ Rt n k ∧ (s ≤ 9 → val9 n k = sgn neg m * 10 ^ (9 - s)) ∧ val9 n k = sgn neg (m / 10 ^ (s - 9)) * 10 ^ (9 - min s 9)) := by
  obtain ⟨h1, h2, h3, h4⟩ := normN_spec (min s 9) (m / 10 ^ (s - 9))
  have hv := norm_val neg (m / 10 ^ (s - 9)) (min s 9) (by omega)
  unfold fitW
  cases e1 : decide (999999999999999999 < (normN (m / 10 ^ (s - 9)) (min s 9)).1)
  · right
    simp at e1
    have hv2 : s ≤ 9 → sgn neg (m / 10 ^ (s - 9)) * 10 ^ (9 - min s 9) = sgn neg m * 10 ^ (9 - s) := fun h => by
      rw [show s - 9 = 0 by omega, show min s 9 = s by omega, Nat.pow_zero, Nat.div_one]
    cases e2 : ((normN (m / 10 ^ (s - 9)) (min s 9)).1 == 0)
    · simp at e2
      refine ⟨_, _, rfl, ⟨?_, ?_, by omega, by omega, fun h => sgn_emod _ _ (h3 (by omega))⟩, fun h => hv.trans (hv2 h), hv⟩
      · unfold sgn; cases neg <;> simp <;> omega
      · unfold sgn; cases neg <;> simp <;> omega
    · simp at e2
      have : m / 10 ^ (s - 9) = 0 := by rw [← h2, e2]; simp
      have h0 : val9 0 0 = sgn neg (m / 10 ^ (s - 9)) * 10 ^ (9 - min s 9) := by
        rw [this]
        cases neg <;> simp [val9, sgn]
      exact ⟨0, 0, rfl, Rt.zero, fun h => h0.trans (hv2 h), h0⟩
  · left; rfl
theorem fitW_small (neg : Bool) (m s : Nat) (hs : s ≤ 9) (hm : m ≤ 999999999999999999) : ∃ n k, fitW neg m s = (n, k, 0) ∧ Rt n k ∧ val9 n k = sgn neg m * 10 ^ (9 - s) := by
  rcases fitW_cases neg m s with h | ⟨n, k, h, h1, h2, -⟩
  · exfalso
    obtain ⟨-, -, -, h4⟩ := normN_spec (min s 9) (m / 10 ^ (s - 9))
    unfold fitW at h
    rw [show s - 9 = 0 by omega, show min s 9 = s by omega, Nat.pow_zero, Nat.div_one] at h h4
    rw [decide_eq_false (by omega)] at h
    simp at h
    split at h <;> simp at h
  · exact ⟨n, k, h, h1, h2 hs⟩

theorem sgn_Z (z : Int) : sgn (decide (z < 0)) z.natAbs = z := by
  unfold sgn
  cases e : decide (z < 0) <;> simp at e ⊢ <;> omega
theorem fitZ_exact (z : Int) (s : Nat) (hs : s ≤ 9) (n k : Int) (h : Rt n k) (hv : z * 10 ^ (9 - s) = val9 n k) : fitZ z s = (n, k, 0) := fitW_exact _ _ _ hs n k h (by rw [sgn_Z]; exact hv)
theorem fitZ_cases (z : Int) (s : Nat) : (fitZ z s = (0, 0, 53)) ∨ (∃ n k, fitZ z s = (n, k, 0) ∧ Rt n k ∧ (s ≤ 9 → val9 n k = z * 10 ^ (9 - s))) := by
  rcases fitW_cases (decide (z < 0)) z.natAbs s with h | ⟨n, k, h, h1, h2, -⟩
  · exact .inl h
  · exact .inr ⟨n, k, h, h1, fun hs => by rw [h2 hs, sgn_Z]⟩
theorem fitZ_small (z : Int) (s : Nat) (hs : s ≤ 9) (hm : z.natAbs ≤ 999999999999999999) : ∃ n k, fitZ z s = (n, k, 0) ∧ Rt n k ∧ val9 n k = z * 10 ^ (9 - s) := by
  obtain ⟨n, k, h, h1, h2⟩ := fitW_small (decide (z < 0)) z.natAbs s hs hm
  exact ⟨n, k, h, h1, by rw [h2, sgn_Z]⟩

/-- One number brought to another's scale. -/
def lvl (n s t : Int) : Int := n * 10 ^ (max s t - s).toNat
theorem lvl_val (n s t : Int) (s0 : 0 ≤ s) (s9 : s ≤ 9) (t9 : t ≤ 9) : lvl n s t * 10 ^ (9 - (max s t).toNat) = val9 n s := by
  unfold lvl val9
  rw [Int.mul_assoc, ← Int.pow_add]
  congr 2
  omega
def addF (n s k t : Int) : Int × Int × Int := fitZ (lvl n s t + lvl k t s) (max s t).toNat
def subF (n s k t : Int) : Int × Int × Int := fitZ (lvl n s t - lvl k t s) (max s t).toNat
def mulF (n s k t : Int) : Int × Int × Int := fitZ (n * k) (s + t).toNat
def divF (n s k t : Int) : Int × Int × Int := if k == 0 then (0, 0, 52) else fitZ ((n * 10 ^ (9 + t - s).toNat).tdiv k) 9
def idivF (n s k t : Int) : Int × Int × Int := if k == 0 then (0, 0, 52) else fitZ ((lvl n s t).tdiv (lvl k t s)) 0
def modF (n s k t : Int) : Int × Int × Int := if k == 0 then (0, 0, 52) else fitZ ((lvl n s t).tmod (lvl k t s)) (max s t).toNat
def cmpF (n s k t : Int) : Int := if lvl n s t - lvl k t s == 0 then 0 else if decide (lvl n s t - lvl k t s < 0) then -1 else 1

section
variable {n s k t : Int} (ha : Rt n s) (hb : Rt k t)
include ha hb
theorem add_val : (lvl n s t + lvl k t s) * 10 ^ (9 - (max s t).toNat) = val9 n s + val9 k t := by
  have h1 := lvl_val n s t ha.s0 ha.s9 hb.s9
  have h2 := lvl_val k t s hb.s0 hb.s9 ha.s9
  rw [Int.max_comm t s] at h2
  rw [Int.add_mul, h1, h2]
theorem sub_val : (lvl n s t - lvl k t s) * 10 ^ (9 - (max s t).toNat) = val9 n s - val9 k t := by
  have h1 := lvl_val n s t ha.s0 ha.s9 hb.s9
  have h2 := lvl_val k t s hb.s0 hb.s9 ha.s9
  rw [Int.max_comm t s] at h2
  rw [Int.sub_mul, h1, h2]
theorem max9 : (max s t).toNat ≤ 9 := by have := ha.s9; have := hb.s9; omega
theorem addF_cases : (addF n s k t = (0, 0, 53)) ∨ (∃ u v, addF n s k t = (u, v, 0) ∧ Rt u v ∧ val9 u v = val9 n s + val9 k t) := by
  rcases fitZ_cases (lvl n s t + lvl k t s) (max s t).toNat with h | ⟨u, v, h, h1, h2⟩
  · exact .inl h
  · exact .inr ⟨u, v, h, h1, by rw [h2 (max9 ha hb), add_val ha hb]⟩
theorem addF_exact (u v : Int) (h : Rt u v) (hv : val9 u v = val9 n s + val9 k t) : addF n s k t = (u, v, 0) :=
  fitZ_exact _ _ (max9 ha hb) u v h (by rw [add_val ha hb, hv])
theorem subF_cases : (subF n s k t = (0, 0, 53)) ∨ (∃ u v, subF n s k t = (u, v, 0) ∧ Rt u v ∧ val9 u v = val9 n s - val9 k t) := by
  rcases fitZ_cases (lvl n s t - lvl k t s) (max s t).toNat with h | ⟨u, v, h, h1, h2⟩
  · exact .inl h
  · exact .inr ⟨u, v, h, h1, by rw [h2 (max9 ha hb), sub_val ha hb]⟩
theorem cmpF_val : cmpF n s k t = if val9 n s = val9 k t then 0 else if val9 n s < val9 k t then -1 else 1 := by
  have h := sub_val ha hb
  have hp := pow10_pos (9 - (max s t).toNat)
  unfold cmpF
  generalize lvl n s t - lvl k t s = z at *
  generalize (10 : Int) ^ (9 - (max s t).toNat) = p at *
  rcases Int.lt_trichotomy z 0 with hz | hz | hz
  · have h1 : z * p < 0 := Int.mul_neg_of_neg_of_pos hz hp
    have e1 : (z == 0) = false := by simp; omega
    have e2 : decide (z < 0) = true := by simp; omega
    rw [e1, e2, if_neg (by simp), if_pos rfl, if_neg (by omega), if_pos (by omega)]
  · subst hz
    rw [Int.zero_mul] at h
    simp
    intro h'
    omega
  · have h1 : 0 < z * p := Int.mul_pos hz hp
    have e1 : (z == 0) = false := by simp; omega
    have e2 : decide (z < 0) = false := by simp; omega
    rw [e1, e2, if_neg (by simp), if_neg (by simp), if_neg (by omega), if_neg (by omega)]
end
end Go.Proofs.YtfagfkfcokmclaaGreatDoor
end

/- Numbers of 128 bits, plain: in two halves. -/
section
set_option linter.unusedSimpArgs false
set_option linter.unusedVariables false
namespace Go.Proofs.YtfagfkfcokmclaaGreatDoor

/-- The upper half, the lower. -/
def hiN (m : Nat) : Nat := m / 18446744073709551616
def loN (m : Nat) : Nat := m % 18446744073709551616
theorem hilo (m : Nat) : hiN m * 18446744073709551616 + loN m = m := by unfold hiN loN; omega
theorem lo_lt (m : Nat) : loN m < 18446744073709551616 := by unfold loN; omega
theorem hi_lt {m : Nat} (h : m < 340282366920938463463374607431768211456) : hiN m < 18446744073709551616 := by unfold hiN; omega
theorem below_iff (m x : Nat) : (decide (hiN m < hiN x) || (hiN m == hiN x && decide (loN m < loN x))) = decide (m < x) := by
  have h1 := hilo m
  have h2 := hilo x
  have h3 := lo_lt m
  have h4 := lo_lt x
  generalize hiN m = a at *
  generalize hiN x = b at *
  generalize loN m = c at *
  generalize loN x = d at *
  rcases Nat.lt_trichotomy a b with h | h | h
  · rw [decide_eq_true h, decide_eq_true (show m < x by omega)]
    rfl
  · subst h
    rw [decide_eq_false (Nat.lt_irrefl _), beq_self_eq_true]
    simp only [Bool.false_or, Bool.true_and]
    congr 1
    apply propext
    omega
  · rw [decide_eq_false (by omega), decide_eq_false (show ¬ m < x by omega)]
    have : (a == b) = false := by simp; omega
    rw [this]
    rfl
theorem nought_iff (m : Nat) : (hiN m == 0 && loN m == 0) = (m == 0) := by
  have h1 := hilo m
  cases e : (m == 0) <;> simp at e
  · have : ¬ (hiN m = 0 ∧ loN m = 0) := fun h => by omega
    cases e1 : (hiN m == 0) <;> cases e2 : (loN m == 0) <;> simp at e1 e2 ⊢
    omega
  · subst e
    rfl
theorem minus_parts {m x : Nat} (h : x ≤ m) (hm : m < 340282366920938463463374607431768211456) :
    (loN m + 18446744073709551616 - loN x - 0) % 18446744073709551616 = loN (m - x) ∧ (hiN m + 18446744073709551616 - hiN x - (if loN m < loN x + 0 then 1 else 0)) % 18446744073709551616 = hiN (m - x) := by
  unfold hiN loN
  split <;> omega
theorem plus_parts {m x : Nat} (h : m + x < 340282366920938463463374607431768211456) :
    (loN m + loN x + 0) % 18446744073709551616 = loN (m + x) ∧ (hiN m + hiN x + (loN m + loN x + 0) / 18446744073709551616) % 18446744073709551616 = hiN (m + x) := by
  unfold hiN loN
  omega
theorem small_parts {m : Nat} (h : m < 340282366920938463463374607431768211456) :
    hiN m / 10 = hiN (m / 10) ∧ (hiN m % 10 * 18446744073709551616 + loN m) / 10 = loN (m / 10) ∧ (hiN m % 10 * 18446744073709551616 + loN m) % 10 = m % 10 := by
  unfold hiN loN
  omega
theorem twice_parts {r b : Nat} (hb : b < 2) (h : 2 * r + b < 340282366920938463463374607431768211456) :
    (hiN r * 2) % 18446744073709551616 + loN r / 9223372036854775808 = hiN (2 * r + b) ∧ loN r * 2 % 18446744073709551616 + b = loN (2 * r + b) ∧ (hiN r * 2) % 18446744073709551616 % 2 = 0 ∧ loN r / 9223372036854775808 < 2 := by
  unfold hiN loN
  omega
/-- One step of the long division. -/
theorem div_step {M d X b : Nat} (hd : 0 < d) (hb : b < 2) (hX : M = 2 * X + b) :
    (2 * (X % d) + b < d → M % d = 2 * (X % d) + b ∧ M / d = 2 * (X / d)) ∧ (¬ 2 * (X % d) + b < d → M % d = 2 * (X % d) + b - d ∧ M / d = 2 * (X / d) + 1) := by
  have h1 := Nat.div_add_mod X d
  have h2 := Nat.mod_lt X hd
  subst hX
  generalize X / d = q at *
  generalize X % d = r at *
  subst h1
  constructor
  · intro h
    have e : 2 * (d * q + r) + b = (2 * r + b) + d * (2 * q) := by rw [Nat.mul_left_comm d 2 q]; omega
    rw [e, Nat.add_mul_mod_self_left, Nat.mod_eq_of_lt h, Nat.add_mul_div_left _ _ hd, Nat.div_eq_of_lt h]
    omega
  · intro h
    have e : 2 * (d * q + r) + b = (2 * r + b - d) + d * (2 * q + 1) := by rw [Nat.mul_add d, Nat.mul_left_comm d 2 q]; omega
    have h3 : 2 * r + b - d < d := by omega
    rw [e, Nat.add_mul_mod_self_left, Nat.mod_eq_of_lt h3, Nat.add_mul_div_left _ _ hd, Nat.div_eq_of_lt h3]
    omega
/-- The sum of two signed numbers: sign, bits. -/
def plusF (n1 : Bool) (m1 : Nat) (n2 : Bool) (m2 : Nat) : Bool × Nat := if n1 == n2 then (n1, m1 + m2) else if decide (m1 < m2) then (n2, m2 - m1) else (n1, m1 - m2)
theorem plusF_sgn (n1 : Bool) (m1 : Nat) (n2 : Bool) (m2 : Nat) : sgn (plusF n1 m1 n2 m2).1 (plusF n1 m1 n2 m2).2 = sgn n1 m1 + sgn n2 m2 ∧ (plusF n1 m1 n2 m2).2 ≤ m1 + m2 := by
  unfold plusF
  cases n1 <;> cases n2 <;> simp [sgn]
  · split <;> simp <;> omega
  · split <;> simp <;> omega
  · omega
end Go.Proofs.YtfagfkfcokmclaaGreatDoor
end

/- The document's digits, plain: rows of decimal digits, the lowest first, and the whole numbers that they are. -/
section
set_option linter.unusedSimpArgs false
set_option linter.unusedVariables false
namespace Go.Proofs.YtfagfkfcokmclaaGreatDoor

def dval : List Int → Int
  | [] => 0
  | d :: l => d + 10 * dval l
def Dg (l : List Int) : Prop := ∀ d ∈ l, 0 ≤ d ∧ d ≤ 9
/-- No nought at the end. -/
def Nr (l : List Int) : Prop := l.getLast? ≠ some 0
theorem Dg.nil : Dg [] := fun d h => by cases h
theorem Nr.nil : Nr [] := by simp [Nr]
theorem Dg.cons {d : Int} {l : List Int} (h : 0 ≤ d ∧ d ≤ 9) (hl : Dg l) : Dg (d :: l) := fun x hx => by
  rcases List.mem_cons.1 hx with rfl | hx
  · exact h
  · exact hl x hx
theorem Dg.head {d : Int} {l : List Int} (h : Dg (d :: l)) : 0 ≤ d ∧ d ≤ 9 := h d (by simp)
theorem Dg.tail {d : Int} {l : List Int} (h : Dg (d :: l)) : Dg l := fun x hx => h x (by simp [hx])
theorem Dg.app {a b : List Int} (ha : Dg a) (hb : Dg b) : Dg (a ++ b) := fun x hx => by
  rcases List.mem_append.1 hx with hx | hx
  · exact ha x hx
  · exact hb x hx
theorem Dg.left {a b : List Int} (h : Dg (a ++ b)) : Dg a := fun x hx => h x (by simp [hx])
theorem Dg.right {a b : List Int} (h : Dg (a ++ b)) : Dg b := fun x hx => h x (by simp [hx])
theorem Dg.drop {a : List Int} (h : Dg a) (k : Nat) : Dg (a.drop k) := fun x hx => h x (List.mem_of_mem_drop hx)
theorem Dg.at {a : List Int} (h : Dg a) {k : Nat} {x : Int} (hx : a[k]? = some x) : 0 ≤ x ∧ x ≤ 9 := h x (List.mem_of_getElem? hx)
theorem Nr.tail {d : Int} {l : List Int} (h : Nr (d :: l)) : Nr l := by
  cases l with
  | nil => exact Nr.nil
  | cons e l => simpa [Nr] using h
theorem Nr.drop {a : List Int} (h : Nr a) : ∀ k, Nr (a.drop k) := by
  induction a with
  | nil => intro k; simp [Nr]
  | cons x a ih =>
    intro k
    cases k with
    | zero => exact h
    | succ k => exact ih h.tail k
theorem dval_app (a b : List Int) : dval (a ++ b) = dval a + 10 ^ a.length * dval b := by
  induction a with
  | nil => simp [dval]
  | cons d a ih =>
    simp only [List.cons_append, dval, ih, List.length_cons, Int.pow_succ, Int.mul_add]
    rw [Int.mul_comm (10 ^ a.length) 10, Int.mul_assoc]
    omega
theorem dval_nonneg {l : List Int} (h : Dg l) : 0 ≤ dval l := by
  induction l with
  | nil => simp [dval]
  | cons d l ih =>
    have := ih h.tail
    have := h.head
    simp only [dval]
    omega
theorem dval_lt {l : List Int} (h : Dg l) : dval l < 10 ^ l.length := by
  induction l with
  | nil => simp [dval]
  | cons d l ih =>
    have := ih h.tail
    have := h.head
    simp only [dval, List.length_cons, Int.pow_succ]
    omega
theorem dval_pos {l : List Int} (h : Dg l) (hn : Nr l) (h0 : l ≠ []) : 0 < dval l := by
  induction l with
  | nil => exact absurd rfl h0
  | cons d l ih =>
    have hd := h.head
    simp only [dval]
    cases l with
    | nil =>
      have : d ≠ 0 := fun e => hn (by simp [e])
      simp [dval]
      omega
    | cons e l =>
      have := ih h.tail hn.tail (by simp)
      omega
theorem dval_zero {l : List Int} (h : Dg l) (hn : Nr l) : dval l = 0 ↔ l = [] := by
  constructor
  · intro h0
    cases l with
    | nil => rfl
    | cons d l => have := dval_pos h hn (by simp); omega
  · rintro rfl; rfl
theorem dval_ge {l : List Int} (h : Dg l) (hn : Nr l) (h0 : l ≠ []) : 10 ^ (l.length - 1) ≤ dval l := by
  induction l with
  | nil => exact absurd rfl h0
  | cons d l ih =>
    have hd := h.head
    cases l with
    | nil =>
      have := dval_pos h hn h0
      simp only [List.length_cons, List.length_nil]
      show (10 : Int) ^ 0 ≤ _
      rw [Int.pow_zero]
      omega
    | cons e l =>
      have := ih h.tail hn.tail (by simp)
      simp only [dval, List.length_cons] at *
      rw [show l.length + 1 + 1 - 1 = (l.length + 1 - 1) + 1 by omega, Int.pow_succ]
      omega
theorem pow_mono {a b : Nat} (h : a ≤ b) : (10 : Int) ^ a ≤ 10 ^ b := by
  obtain ⟨c, rfl⟩ : ∃ c, b = a + c := ⟨b - a, by omega⟩
  rw [Int.pow_add]
  have h1 := pow10_pos a
  have h2 := pow10_pos c
  have := Int.mul_le_mul_of_nonneg_left (show (1 : Int) ≤ 10 ^ c by omega) (show (0 : Int) ≤ 10 ^ a by omega)
  omega
theorem len_lt {a b : List Int} (ha : Dg a) (hb : Dg b) (hn : Nr b) (h : a.length < b.length) : dval a < dval b := by
  have h1 := dval_lt ha
  have h2 := dval_ge hb hn (by intro e; rw [e] at h; simp at h)
  have h3 := pow_mono (show a.length ≤ b.length - 1 by omega)
  omega
/-- A number below a power of ten has so few digits. -/
theorem len_le {a : List Int} (ha : Dg a) (hn : Nr a) (k : Nat) (h : dval a < 10 ^ k) : a.length ≤ k := by
  rcases Nat.lt_or_ge k a.length with h1 | h1
  · have h2 := dval_ge ha hn (by intro e; rw [e] at h1; simp at h1)
    have h3 := pow_mono (show k ≤ a.length - 1 by omega)
    omega
  · exact h1
/-- Rows of digits that are one number are one row. -/
theorem dval_inj : ∀ {a b : List Int}, Dg a → Dg b → Nr a → Nr b → dval a = dval b → a = b := by
  intro a
  induction a with
  | nil =>
    intro b ha hb na nb h
    exact ((dval_zero hb nb).1 h.symm).symm
  | cons x a ih =>
    intro b ha hb na nb h
    cases b with
    | nil => exact (dval_zero ha na).1 h
    | cons y b =>
      simp only [dval] at h
      have h1 := ha.head
      have h2 := hb.head
      have : x = y := by omega
      subst this
      rw [ih ha.tail hb.tail na.tail nb.tail (by omega)]

/-- The digits of a number. -/
def digs (n : Nat) : List Int := if h : n = 0 then [] else ((n % 10 : Nat) : Int) :: digs (n / 10)
termination_by n
decreasing_by omega
theorem digs_zero : digs 0 = [] := by rw [digs]; simp
theorem digs_step {n : Nat} (h : n ≠ 0) : digs n = ((n % 10 : Nat) : Int) :: digs (n / 10) := by rw [digs]; simp [h]
theorem digs_spec (n : Nat) : dval (digs n) = n ∧ Dg (digs n) ∧ Nr (digs n) ∧ (digs n = [] ↔ n = 0) := by
  induction n using Nat.strongRecOn with
  | _ n ih =>
    rcases Nat.eq_zero_or_pos n with h | h
    · subst h
      rw [digs_zero]
      exact ⟨rfl, Dg.nil, Nr.nil, by simp⟩
    · have h0 : n ≠ 0 := by omega
      obtain ⟨h1, h2, h3, h4⟩ := ih (n / 10) (by omega)
      rw [digs_step h0]
      refine ⟨?_, Dg.cons ⟨by omega, by omega⟩ h2, ?_, by simp; omega⟩
      · simp only [dval, h1]; omega
      · cases e : digs (n / 10) with
        | nil =>
          have := h4.1 e
          simp [Nr]
          omega
        | cons x l =>
          rw [e] at h3
          simpa [Nr] using h3
theorem digs_dval {l : List Int} (h : Dg l) (hn : Nr l) : digs (dval l).toNat = l := by
  obtain ⟨h1, h2, h3, -⟩ := digs_spec (dval l).toNat
  have := dval_nonneg h
  exact dval_inj h2 h h3 hn (by omega)

/-- Without noughts at the end. -/
def trimL (l : List Int) : List Int := (l.reverse.dropWhile (· == 0)).reverse
theorem trimL_snoc (l : List Int) (d : Int) : trimL (l ++ [d]) = if d == 0 then trimL l else l ++ [d] := by
  unfold trimL
  rw [List.reverse_append]
  simp only [List.reverse_singleton, List.singleton_append, List.dropWhile_cons]
  split <;> simp
theorem trimL_nil : trimL [] = [] := rfl
theorem snoc_ind {p : List Int → Prop} (h0 : p []) (h1 : ∀ l d, p l → p (l ++ [d])) (l : List Int) : p l := by
  have : ∀ l : List Int, p l.reverse := by
    intro l
    induction l with
    | nil => exact h0
    | cons d l ih => rw [List.reverse_cons]; exact h1 _ _ ih
  rw [← List.reverse_reverse l]
  exact this _
theorem trimL_spec (l : List Int) : dval (trimL l) = dval l ∧ (Dg l → Dg (trimL l)) ∧ Nr (trimL l) ∧ ∃ k, trimL l = l.take k ∧ k ≤ l.length := by
  induction l using snoc_ind with
  | h0 => exact ⟨rfl, id, Nr.nil, 0, rfl, by simp⟩
  | h1 l d ih =>
    rw [trimL_snoc]
    cases e : (d == 0)
    · refine ⟨rfl, id, ?_, l.length + 1, ?_, by simp⟩
      · simp [Nr] at e ⊢
        exact e
      · rw [List.take_of_length_le (by simp)]
        rfl
    · simp at e
      subst e
      obtain ⟨h1, h2, h3, k, h4, h5⟩ := ih
      refine ⟨?_, fun h => h2 h.left, h3, k, ?_, by simp; omega⟩
      · simp [h1, dval_app, dval]
      · simp [h4, List.take_append, Nat.sub_eq_zero_of_le h5]
theorem trimL_id {l : List Int} (h : Dg l) (hn : Nr l) : trimL l = l := by
  obtain ⟨h1, h2, h3, -⟩ := trimL_spec l
  exact dval_inj (h2 h) h h3 hn h1

/-- Sums. -/
def plusL : List Int → List Int → Int → List Int
  | [], [], c => if decide (0 < c) then [c] else []
  | x :: a, [], c => (x + c) % 10 :: plusL a [] ((x + c) / 10)
  | [], y :: b, c => (y + c) % 10 :: plusL [] b ((y + c) / 10)
  | x :: a, y :: b, c => (x + y + c) % 10 :: plusL a b ((x + y + c) / 10)
theorem plusL_b (b : List Int) : ∀ (c : Int), Dg b → 0 ≤ c → c ≤ 1 → dval (plusL [] b c) = dval b + c ∧ Dg (plusL [] b c) := by
  induction b with
  | nil =>
    intro c _ h0 h1
    unfold plusL
    cases e : decide (0 < c) <;> simp at e
    · simp [dval, Dg.nil]; omega
    · simp [dval]
      exact Dg.cons ⟨h0, by omega⟩ Dg.nil
  | cons y b ih =>
    intro c hb h0 h1
    have hx := hb.head
    obtain ⟨i1, i2⟩ := ih ((y + c) / 10) hb.tail (by omega) (by omega)
    unfold plusL
    refine ⟨?_, Dg.cons ⟨by omega, by omega⟩ i2⟩
    simp only [dval, i1]
    omega
theorem plusL_spec (a : List Int) : ∀ (b : List Int) (c : Int), Dg a → Dg b → 0 ≤ c → c ≤ 1 → dval (plusL a b c) = dval a + dval b + c ∧ Dg (plusL a b c) := by
  induction a with
  | nil =>
    intro b c _ hb h0 h1
    have := plusL_b b c hb h0 h1
    simp only [dval]
    exact ⟨by omega, this.2⟩
  | cons x a ih =>
    intro b c ha hb h0 h1
    have hx := ha.head
    cases b with
    | nil =>
      obtain ⟨i1, i2⟩ := ih [] ((x + c) / 10) ha.tail hb (by omega) (by omega)
      unfold plusL
      refine ⟨?_, Dg.cons ⟨by omega, by omega⟩ i2⟩
      simp only [dval, i1]
      omega
    | cons y b =>
      have hy := hb.head
      obtain ⟨i1, i2⟩ := ih b ((x + y + c) / 10) ha.tail hb.tail (by omega) (by omega)
      unfold plusL
      refine ⟨?_, Dg.cons ⟨by omega, by omega⟩ i2⟩
      simp only [dval, i1]
      omega

/-- Differences, the greater first. -/
def minusL : List Int → List Int → Int → List Int
  | [], _, _ => []
  | x :: a, [], c => (if decide (x - c < 0) then x - c + 10 else x - c) :: minusL a [] (if decide (x - c < 0) then 1 else 0)
  | x :: a, y :: b, c => (if decide (x - c - y < 0) then x - c - y + 10 else x - c - y) :: minusL a b (if decide (x - c - y < 0) then 1 else 0)
theorem minusL_spec (a : List Int) : ∀ (b : List Int) (c : Int), Dg a → Dg b → 0 ≤ c → c ≤ 1 → b.length ≤ a.length → (∃ k : Int, dval (minusL a b c) = dval a - dval b - c + 10 ^ a.length * k ∧ (k = 0 ∨ k = 1)) ∧ Dg (minusL a b c) ∧ (minusL a b c).length = a.length := by
  induction a with
  | nil =>
    intro b c _ hb h0 h1 hl
    have : b = [] := List.length_eq_zero_iff.1 (by simpa using hl)
    subst this
    unfold minusL
    refine ⟨⟨c, ?_, by omega⟩, Dg.nil, rfl⟩
    simp [dval]
    omega
  | cons x a ih =>
    intro b c ha hb h0 h1 hl
    have hx := ha.head
    cases b with
    | nil =>
      unfold minusL
      rcases Int.lt_or_le (x - c) 0 with e | e
      · rw [decide_eq_true e, if_pos rfl, if_pos rfl]
        obtain ⟨⟨k, i1, i2⟩, i3, i4⟩ := ih [] 1 ha.tail hb (by omega) (by omega) (by simp)
        refine ⟨⟨k, ?_, i2⟩, Dg.cons ⟨by omega, by omega⟩ i3, by simp [i4]⟩
        simp only [dval, i1, List.length_cons, Int.pow_succ]
        rcases i2 with rfl | rfl <;> omega
      · rw [decide_eq_false (by omega), if_neg (by simp), if_neg (by simp)]
        obtain ⟨⟨k, i1, i2⟩, i3, i4⟩ := ih [] 0 ha.tail hb (by omega) (by omega) (by simp)
        refine ⟨⟨k, ?_, i2⟩, Dg.cons ⟨by omega, by omega⟩ i3, by simp [i4]⟩
        simp only [dval, i1, List.length_cons, Int.pow_succ]
        rcases i2 with rfl | rfl <;> omega
    | cons y b =>
      have hy := hb.head
      have hl' : b.length ≤ a.length := by simpa using hl
      unfold minusL
      rcases Int.lt_or_le (x - c - y) 0 with e | e
      · rw [decide_eq_true e, if_pos rfl, if_pos rfl]
        obtain ⟨⟨k, i1, i2⟩, i3, i4⟩ := ih b 1 ha.tail hb.tail (by omega) (by omega) hl'
        refine ⟨⟨k, ?_, i2⟩, Dg.cons ⟨by omega, by omega⟩ i3, by simp [i4]⟩
        simp only [dval, i1, List.length_cons, Int.pow_succ]
        rcases i2 with rfl | rfl <;> omega
      · rw [decide_eq_false (by omega), if_neg (by simp), if_neg (by simp)]
        obtain ⟨⟨k, i1, i2⟩, i3, i4⟩ := ih b 0 ha.tail hb.tail (by omega) (by omega) hl'
        refine ⟨⟨k, ?_, i2⟩, Dg.cons ⟨by omega, by omega⟩ i3, by simp [i4]⟩
        simp only [dval, i1, List.length_cons, Int.pow_succ]
        rcases i2 with rfl | rfl <;> omega
theorem minus_val {a b : List Int} (ha : Dg a) (hb : Dg b) (hl : b.length ≤ a.length) (h : dval b ≤ dval a) : dval (trimL (minusL a b 0)) = dval a - dval b ∧ Dg (trimL (minusL a b 0)) ∧ Nr (trimL (minusL a b 0)) := by
  obtain ⟨⟨k, h1, h2⟩, h3, h4⟩ := minusL_spec a b 0 ha hb (by omega) (by omega) hl
  obtain ⟨t1, t2, t3, -⟩ := trimL_spec (minusL a b 0)
  refine ⟨?_, t2 h3, t3⟩
  rw [t1]
  have g1 := dval_lt h3
  have g2 := dval_lt ha
  have g3 := dval_nonneg hb
  rw [h4] at g1
  rcases h2 with rfl | rfl <;> omega
end Go.Proofs.YtfagfkfcokmclaaGreatDoor
end

/- The document's digits, plain: the order, and that sums and products keep their form. -/
section
set_option linter.unusedSimpArgs false
set_option linter.unusedVariables false
namespace Go.Proofs.YtfagfkfcokmclaaGreatDoor

theorem Nr.cons {d : Int} {l : List Int} (h : l = [] → d ≠ 0) (hl : Nr l) : Nr (d :: l) := by
  cases l with
  | nil => simp [Nr]; exact h rfl
  | cons e l => simpa [Nr] using hl
theorem Nr.last {d : Int} (h : Nr [d]) : d ≠ 0 := fun e => h (by simp [e])
theorem plusL_nrb (b : List Int) : ∀ (c : Int), Dg b → Nr b → 0 ≤ c → c ≤ 1 → Nr (plusL [] b c) ∧ (plusL [] b c = [] → b = [] ∧ c = 0) := by
  induction b with
  | nil =>
    intro c _ _ h0 h1
    unfold plusL
    cases e : decide (0 < c) <;> simp at e
    · simp [Nr.nil]; omega
    · refine ⟨?_, by simp⟩
      rw [if_pos rfl]
      exact Nr.cons (fun _ => by omega) Nr.nil
  | cons y b ih =>
    intro c hb hn h0 h1
    have hx := hb.head
    obtain ⟨i1, i2⟩ := ih ((y + c) / 10) hb.tail hn.tail (by omega) (by omega)
    unfold plusL
    refine ⟨Nr.cons (fun e => ?_) i1, by simp⟩
    obtain ⟨rfl, h3⟩ := i2 e
    have := hn.last
    omega
theorem plusL_nr (a : List Int) : ∀ (b : List Int) (c : Int), Dg a → Dg b → Nr a → Nr b → 0 ≤ c → c ≤ 1 → Nr (plusL a b c) ∧ (plusL a b c = [] → a = [] ∧ b = [] ∧ c = 0) := by
  induction a with
  | nil =>
    intro b c _ hb _ hn h0 h1
    have := plusL_nrb b c hb hn h0 h1
    exact ⟨this.1, fun h => ⟨rfl, this.2 h⟩⟩
  | cons x a ih =>
    intro b c ha hb na nb h0 h1
    have hx := ha.head
    cases b with
    | nil =>
      obtain ⟨i1, i2⟩ := ih [] ((x + c) / 10) ha.tail hb na.tail nb (by omega) (by omega)
      unfold plusL
      refine ⟨Nr.cons (fun e => ?_) i1, by simp⟩
      obtain ⟨rfl, -, h3⟩ := i2 e
      have := na.last
      omega
    | cons y b =>
      have hy := hb.head
      obtain ⟨i1, i2⟩ := ih b ((x + y + c) / 10) ha.tail hb.tail na.tail nb.tail (by omega) (by omega)
      unfold plusL
      refine ⟨Nr.cons (fun e => ?_) i1, by simp⟩
      obtain ⟨rfl, rfl, h3⟩ := i2 e
      have := na.last
      omega
theorem plusL_len (a : List Int) : ∀ (b : List Int) (c : Int), (plusL a b c).length ≤ max a.length b.length + 1 := by
  induction a with
  | nil =>
    intro b
    induction b with
    | nil => intro c; unfold plusL; split <;> simp
    | cons y b ih => intro c; unfold plusL; have := ih ((y + c) / 10); simp at this ⊢; omega
  | cons x a ih =>
    intro b c
    cases b with
    | nil => unfold plusL; have := ih [] ((x + c) / 10); simp at this ⊢; omega
    | cons y b => unfold plusL; have := ih b ((x + y + c) / 10); simp at this ⊢; omega

/-- The order, looked for from the highest digit on. -/
def cmpI (a b : List Int) : Nat → Int
  | 0 => 0
  | i + 1 => if a.getD i 0 == b.getD i 0 then cmpI a b i else if decide (a.getD i 0 < b.getD i 0) then -1 else 1
def cmpL (a b : List Int) : Int := if a.length == b.length then cmpI a b a.length else if decide (a.length < b.length) then -1 else 1
def sgnI (x y : Int) : Int := if x = y then 0 else if x < y then -1 else 1
theorem dval_take (a : List Int) (i : Nat) (h : i < a.length) : dval (a.take (i + 1)) = dval (a.take i) + 10 ^ i * a.getD i 0 := by
  rw [List.take_add_one, dval_app, List.length_take, show min i a.length = i by omega]
  congr 2
  rw [List.getD, List.getElem?_eq_getElem h]
  simp [dval]
theorem dval_drop (a : List Int) (i : Nat) (h : i < a.length) : dval (a.drop i) = a.getD i 0 + 10 * dval (a.drop (i + 1)) := by
  rw [List.drop_eq_getElem_cons h, List.getD, List.getElem?_eq_getElem h]
  rfl
theorem Dg.getD {a : List Int} (h : Dg a) (i : Nat) : 0 ≤ a.getD i 0 ∧ a.getD i 0 ≤ 9 := by
  rw [List.getD]
  cases e : a[i]? with
  | none => simp
  | some x => exact h.at e
theorem Dg.take {a : List Int} (h : Dg a) (k : Nat) : Dg (a.take k) := fun x hx => h x (List.mem_of_mem_take hx)
theorem cmpI_val {a b : List Int} (ha : Dg a) (hb : Dg b) : ∀ i, i ≤ a.length → i ≤ b.length → cmpI a b i = sgnI (dval (a.take i)) (dval (b.take i)) := by
  intro i
  induction i with
  | zero => intro _ _; simp [cmpI, sgnI]
  | succ i ih =>
    intro h1 h2
    have i1 := ih (by omega) (by omega)
    have ga := dval_lt (ha.take i)
    have gb := dval_lt (hb.take i)
    have na := dval_nonneg (ha.take i)
    have nb := dval_nonneg (hb.take i)
    rw [List.length_take, show min i a.length = i by omega] at ga
    rw [List.length_take, show min i b.length = i by omega] at gb
    rw [cmpI, i1, dval_take a i (by omega), dval_take b i (by omega)]
    have hx := ha.getD i
    have hy := hb.getD i
    generalize a.getD i 0 = x at *
    generalize b.getD i 0 = y at *
    generalize dval (a.take i) = A at *
    generalize dval (b.take i) = B at *
    generalize (10 : Int) ^ i = p at *
    rcases Int.lt_trichotomy x y with h | h | h
    · have : p * (x + 1) ≤ p * y := Int.mul_le_mul_of_nonneg_left (by omega) (by omega)
      rw [Int.mul_add] at this
      have e : (x == y) = false := by simp; omega
      rw [e, decide_eq_true h]
      unfold sgnI
      simp
      rw [if_neg (by omega), if_pos (by omega)]
    · subst h
      unfold sgnI
      simp
    · have : p * (y + 1) ≤ p * x := Int.mul_le_mul_of_nonneg_left (by omega) (by omega)
      rw [Int.mul_add] at this
      have e : (x == y) = false := by simp; omega
      rw [e, decide_eq_false (by omega)]
      unfold sgnI
      simp
      rw [if_neg (by omega), if_neg (by omega)]
theorem cmpL_val {a b : List Int} (ha : Dg a) (hb : Dg b) (na : Nr a) (nb : Nr b) : cmpL a b = sgnI (dval a) (dval b) := by
  unfold cmpL
  rcases Nat.lt_trichotomy a.length b.length with h | h | h
  · have := len_lt ha hb nb h
    have e : (a.length == b.length) = false := by simp; omega
    rw [e, decide_eq_true h]
    unfold sgnI
    simp
    rw [if_neg (by omega), if_pos (by omega)]
  · have := cmpI_val ha hb a.length (by omega) (by omega)
    rw [List.take_length, h, List.take_length] at this
    rw [h]
    simp
    exact this
  · have := len_lt hb ha na h
    have e : (a.length == b.length) = false := by simp; omega
    rw [e, decide_eq_false (by omega)]
    unfold sgnI
    simp
    rw [if_neg (by omega), if_neg (by omega)]
/-- Where the order says so, the lengths go with it. -/
theorem cmp_len {a b : List Int} (ha : Dg a) (hb : Dg b) (nb : Nr b) (h : dval b ≤ dval a) : b.length ≤ a.length := by
  rcases Nat.lt_or_ge a.length b.length with h1 | h1
  · have := len_lt ha hb nb h1
    omega
  · exact h1
theorem dval_zeros (n : Nat) : dval (List.replicate n 0) = 0 := by
  induction n with
  | zero => rfl
  | succ n ih => simp [List.replicate_succ, dval, ih]
theorem Dg.zeros (n : Nat) : Dg (List.replicate n 0) := fun d h => by
  have := List.eq_of_mem_replicate h
  omega
def upL (l : List Int) (n : Nat) : List Int := if l.length == 0 then l else List.replicate n 0 ++ l
theorem upL_spec {l : List Int} (h : Dg l) (hn : Nr l) (n : Nat) : dval (upL l n) = dval l * 10 ^ n ∧ Dg (upL l n) ∧ Nr (upL l n) ∧ (upL l n).length ≤ n + l.length := by
  unfold upL
  cases l with
  | nil => simp [dval, Dg.nil, Nr.nil]
  | cons d l =>
    simp only [List.length_cons, Nat.add_one_ne_zero, beq_iff_eq, if_false]
    rw [dval_app, dval_zeros, List.length_replicate]
    refine ⟨by rw [Int.zero_add, Int.mul_comm], (Dg.zeros n).app h, ?_, by simp⟩
    unfold Nr at *
    rw [List.getLast?_append]
    cases e : (d :: l).getLast? with
    | none => simp at e
    | some x => rw [e] at hn; simpa using hn
end Go.Proofs.YtfagfkfcokmclaaGreatDoor
end

/- The document's digits, plain: what a row of digits fits to. -/
section
set_option linter.unusedSimpArgs false
set_option linter.unusedVariables false
namespace Go.Proofs.YtfagfkfcokmclaaGreatDoor

def normL : List Int → Nat → List Int × Nat
  | l, 0 => (l, 0)
  | [], s + 1 => normL [] s
  | d :: l, s + 1 => if d == 0 then normL l s else (d :: l, s + 1)
theorem normL_spec : ∀ (s : Nat) (l : List Int), Dg l → (dval (normL l s).1).toNat = (normN (dval l).toNat s).1 ∧ (normL l s).2 = (normN (dval l).toNat s).2 ∧ Dg (normL l s).1 ∧ (Nr l → Nr (normL l s).1) ∧ (normL l s).1.length ≤ l.length := by
  intro s
  induction s with
  | zero => intro l h; simp [normL, normN, h]
  | succ s ih =>
    intro l h
    cases l with
    | nil =>
      have := ih [] Dg.nil
      simp only [normL, normN, dval] at this ⊢
      simpa using this
    | cons d l =>
      have hd := h.head
      have h0 := dval_nonneg h.tail
      have hv : dval (d :: l) = d + 10 * dval l := rfl
      rw [normL, normN]
      cases e : (d == 0)
      · simp at e
        have : ((dval (d :: l)).toNat % 10 == 0) = false := by rw [hv]; simp; omega
        simp only [this, Bool.false_eq_true, if_false]
        exact ⟨trivial, trivial, h, id, Nat.le_refl _⟩
      · simp at e
        have e1 : ((dval (d :: l)).toNat % 10 == 0) = true := by rw [hv]; simp; omega
        have e2 : (dval (d :: l)).toNat / 10 = (dval l).toNat := by rw [hv]; omega
        simp only [e1, e2, if_true]
        obtain ⟨i1, i2, i3, i4, i5⟩ := ih l h.tail
        exact ⟨i1, i2, i3, fun hn => i4 hn.tail, by simp; omega⟩
theorem dval_dropN {l : List Int} (h : Dg l) : ∀ k, (dval (l.drop k)).toNat = (dval l).toNat / 10 ^ k := by
  induction l with
  | nil => intro k; simp [dval]
  | cons d l ih =>
    intro k
    cases k with
    | zero => simp
    | succ k =>
      have hd := h.head
      have h0 := dval_nonneg h.tail
      rw [List.drop_succ_cons, ih h.tail k, Nat.pow_succ, Nat.mul_comm, ← Nat.div_div_eq_div_mul]
      congr 1
      simp only [dval]
      omega
/-- What a row fits to: the number, the scale, whether it fits. -/
def fitD (neg : Bool) (l : List Int) (s : Nat) : Int × Int × Bool :=
  if decide (18 < (trimL (normL (l.drop (s - 9)) (min s 9)).1).length) then (0, 0, false) else
    (if neg then -dval (trimL (normL (l.drop (s - 9)) (min s 9)).1) else dval (trimL (normL (l.drop (s - 9)) (min s 9)).1), ((normL (l.drop (s - 9)) (min s 9)).2 : Int), true)
theorem fitD_val (neg : Bool) {l : List Int} (h : Dg l) (s : Nat) : fitD neg l s = if (fitW neg (dval l).toNat s).2.2 == 0 then ((fitW neg (dval l).toNat s).1, (fitW neg (dval l).toNat s).2.1, true) else (0, 0, false) := by
  obtain ⟨n1, n2, n3, -, -⟩ := normL_spec (min s 9) (l.drop (s - 9)) (h.drop _)
  rw [dval_dropN h] at n1 n2
  obtain ⟨t1, t2, t3, -⟩ := trimL_spec (normL (l.drop (s - 9)) (min s 9)).1
  have t2' := t2 n3
  obtain ⟨-, h2, h3, h4⟩ := normN_spec (min s 9) ((dval l).toNat / 10 ^ (s - 9))
  have h0 := dval_nonneg n3
  unfold fitD fitW
  rw [← n1, ← n2] at *
  have hz : (dval (normL (l.drop (s - 9)) (min s 9)).1).toNat = 0 → (normL (l.drop (s - 9)) (min s 9)).2 = 0 := fun hz => by
    rcases Nat.eq_zero_or_pos (normL (l.drop (s - 9)) (min s 9)).2 with h' | h'
    · exact h'
    · exact absurd (by rw [hz]) (h3 h')
  generalize (normL (l.drop (s - 9)) (min s 9)).2 = k at *
  generalize (normL (l.drop (s - 9)) (min s 9)).1 = m at *
  have e18 : decide (18 < (trimL m).length) = decide (999999999999999999 < (dval m).toNat) := by
    rcases Nat.lt_or_ge 18 (trimL m).length with hl | hl
    · have g := dval_ge t2' t3 (by intro e; rw [e] at hl; simp at hl)
      have g2 := pow_mono (show 18 ≤ (trimL m).length - 1 by omega)
      have g3 : (10 : Int) ^ 18 = 1000000000000000000 := by decide
      rw [decide_eq_true hl, decide_eq_true (by omega)]
    · have g := dval_lt t2'
      have g2 := pow_mono hl
      have g3 : (10 : Int) ^ 18 = 1000000000000000000 := by decide
      rw [decide_eq_false (by omega), decide_eq_false (by omega)]
  rw [e18, t1]
  cases e : decide (999999999999999999 < (dval m).toNat)
  · simp only [Bool.false_eq_true, if_false]
    cases e0 : ((dval m).toNat == 0)
    · simp only [Bool.false_eq_true, if_false]
      simp
      unfold sgn
      cases neg <;> simp <;> omega
    · simp at e0
      have e1 : dval m = 0 := by omega
      rw [hz (by omega), e1]
      simp
  · simp

/-- A number read from its digits, the highest first. -/
def horn : List Int → Int → Int
  | [], n => n
  | d :: l, n => horn l (10 * n + d)
theorem horn_rev (l : List Int) (n : Int) : horn l.reverse n = n * 10 ^ l.length + dval l := by
  induction l generalizing n with
  | nil => simp [horn, dval]
  | cons d l ih =>
    have hs : ∀ (a b : List Int) (n : Int), horn (a ++ b) n = horn b (horn a n) := by
      intro a
      induction a with
      | nil => intro b n; rfl
      | cons x a ih => intro b n; exact ih b _
    rw [List.reverse_cons, hs, ih]
    simp only [horn, dval, List.length_cons, Int.pow_succ]
    rw [Int.mul_add, ← Int.mul_assoc, ← Int.mul_assoc, Int.mul_comm 10 n, Int.mul_assoc n 10, Int.mul_comm 10 (10 ^ l.length), Int.mul_assoc]
    omega
end Go.Proofs.YtfagfkfcokmclaaGreatDoor
end

/- Writing a number, plain: the two ways write the same. -/
section
set_option linter.unusedSimpArgs false
set_option linter.unusedVariables false
namespace Go.Proofs.YtfagfkfcokmclaaGreatDoor

def chr (d : Int) : UInt8 := UInt8.ofNat (48 + d.toNat)
/-- A row of digits, the lowest first, as letters. -/
def chs (l : List Int) : List UInt8 := (l.map chr).reverse
theorem chs_app (a b : List Int) : chs (a ++ b) = chs b ++ chs a := by unfold chs; simp
theorem dec_digs (m : Nat) (h : m ≠ 0) : Lib.decDigits m = chs (digs m) := by
  induction m using Nat.strongRecOn with
  | _ m ih =>
    rw [digs_step h, Lib.decDigits]
    split
    · rename_i h10
      have : m / 10 = 0 := by omega
      rw [this, digs_zero]
      unfold chs chr
      simp
      congr 1
      omega
    · rename_i h10
      rw [ih (m / 10) (by omega) (by omega)]
      unfold chs chr
      simp only [List.map_cons, List.reverse_cons]
      congr 3
/-- So many digits at least. -/
def padD (l : List Int) (s : Nat) : List Int := l ++ List.replicate (s + 1 - l.length) 0
theorem padD_len (l : List Int) (s : Nat) : s < (padD l s).length := by unfold padD; simp; omega
theorem padD_Dg {l : List Int} (h : Dg l) (s : Nat) : Dg (padD l s) := h.app (Dg.zeros _)
/-- The program's way. -/
def padS (l : List UInt8) (s : Nat) : List UInt8 := if l.length ≤ s then Lib.repeatL [48] (s + 1 - l.length) ++ l else l
theorem repeat_one (k : Nat) : Lib.repeatL [48] k = List.replicate k 48 := by
  induction k with
  | zero => rfl
  | succ k ih => rw [Lib.repeatL, ih]; rfl
theorem chs_zeros (k : Nat) : chs (List.replicate k 0) = List.replicate k 48 := by
  unfold chs
  rw [List.map_replicate, List.reverse_replicate]
  rfl
theorem chs_len (l : List Int) : (chs l).length = l.length := by unfold chs; simp
theorem pad_same (m s : Nat) : padS (Lib.decDigits m) s = chs (padD (digs m) s) := by
  unfold padD
  rw [chs_app, chs_zeros]
  rcases Nat.eq_zero_or_pos m with h | h
  · subst h
    have e : Lib.decDigits 0 = [48] := by rw [Lib.decDigits]; rfl
    unfold padS
    rw [e, digs_zero, repeat_one]
    simp only [List.length_cons, List.length_nil, chs, List.map_nil, List.reverse_nil, List.append_nil, Nat.sub_zero]
    split
    · rw [show s + 1 - (0 + 1) = s by omega, List.replicate_succ', ]
    · have : s = 0 := by omega
      subst this
      rfl
  · rw [dec_digs m (by omega)]
    unfold padS
    rw [chs_len, repeat_one]
    split
    · rfl
    · rw [show s + 1 - (digs m).length = 0 by omega]
      rfl
/-- The document's way: letter by letter, ahead of what is there. -/
def fmtL (s : Nat) : List Int → Nat → List UInt8 → List UInt8
  | [], _, acc => acc
  | d :: l, i, acc => fmtL s l (i + 1) (chr d :: (if i == s && decide (0 < s) then 46 :: acc else acc))
theorem fmtL_past (s : Nat) : ∀ (l : List Int) (i : Nat) (acc : List UInt8), s < i → fmtL s l i acc = chs l ++ acc := by
  intro l
  induction l with
  | nil => intro i acc h; rfl
  | cons d l ih =>
    intro i acc h
    have e : (i == s) = false := by simp; omega
    rw [fmtL, e, ih _ _ (by omega)]
    unfold chs
    simp
theorem fmtL_before (s : Nat) : ∀ (l : List Int) (i : Nat) (acc : List UInt8), i ≤ s → 0 < s → s < i + l.length → fmtL s l i acc = chs (l.drop (s - i)) ++ [46] ++ chs (l.take (s - i)) ++ acc := by
  intro l
  induction l with
  | nil => intro i acc h1 h2 h3; simp at h3; omega
  | cons d l ih =>
    intro i acc h1 h2 h3
    rcases Nat.lt_or_ge i s with h | h
    · have e : (i == s) = false := by simp; omega
      rw [fmtL, e, ih _ _ (by omega) h2 (by simp at h3; omega), show s - i = (s - (i + 1)) + 1 by omega]
      unfold chs
      simp
    · have : i = s := by omega
      subst this
      rw [fmtL, fmtL_past _ _ _ _ (by omega)]
      simp [h2, chs]
/-- What is written. -/
def formatF (n : Int) (s : Nat) : List UInt8 :=
  (if n < 0 then [45] else []) ++ (if s = 0 then Lib.decDigits n.natAbs else (padS (Lib.decDigits n.natAbs) s).take ((padS (Lib.decDigits n.natAbs) s).length - s) ++ [46] ++ (padS (Lib.decDigits n.natAbs) s).drop ((padS (Lib.decDigits n.natAbs) s).length - s))
theorem format_doc (n : Int) (s : Nat) : (if n < 0 then [45] else []) ++ fmtL s (padD (digs n.natAbs) s) 0 [] = formatF n s := by
  unfold formatF
  congr 1
  rcases Nat.eq_zero_or_pos s with h | h
  · subst h
    rw [if_pos rfl]
    have : ∀ (l : List Int) (i : Nat) (acc : List UInt8), fmtL 0 l i acc = chs l ++ acc := by
      intro l
      induction l with
      | nil => intro i acc; rfl
      | cons d l ih => intro i acc; rw [fmtL, ih]; unfold chs; simp
    rw [this, ← pad_same, List.append_nil]
    unfold padS
    rw [if_neg]
    intro h
    have : (Lib.decDigits n.natAbs).length = 0 := by omega
    have h0 := List.length_eq_zero_iff.1 this
    rw [Lib.decDigits] at h0
    split at h0 <;> simp at h0
  · rw [if_neg (by omega), fmtL_before _ _ _ _ (by omega) h (by have := padD_len (digs n.natAbs) s; omega), pad_same, chs_len, Nat.sub_zero, List.append_nil]
    have hl := padD_len (digs n.natAbs) s
    generalize padD (digs n.natAbs) s = l at *
    unfold chs
    rw [List.take_reverse, List.drop_reverse, List.length_map, List.map_take, List.map_drop, show l.length - (l.length - s) = s by omega]
end Go.Proofs.YtfagfkfcokmclaaGreatDoor
end

/- Reading a number, plain: by the first point, and character by character. -/
section
set_option linter.unusedSimpArgs false
set_option linter.unusedVariables false
namespace Go.Proofs.YtfagfkfcokmclaaGreatDoor

def tenS : List UInt8 := [48, 49, 50, 51, 52, 53, 54, 55, 56, 57]
def isD (b : UInt8) : Bool := decide (48 ≤ b.toNat) && decide (b.toNat ≤ 57)
theorem tenS_isD (b : UInt8) : tenS.contains b = isD b := by
  have : ∀ n : Fin 256, tenS.contains (UInt8.ofNat n.val) = isD (UInt8.ofNat n.val) := by decide +kernel
  have h := this ⟨b.toNat, b.toNat_lt⟩
  simpa using h
theorem dropWhile_nil {α : Type} (p : α → Bool) (l : List α) : l.dropWhile p = [] ↔ l.all p = true := by
  induction l with
  | nil => simp
  | cons a l ih =>
    rw [List.dropWhile_cons]
    cases e : p a <;> simp [e, ih]
theorem dropWhile_all {α : Type} (p : α → Bool) (l : List α) : (l.dropWhile p).all p = l.all p := by
  induction l with
  | nil => rfl
  | cons a l ih =>
    rw [List.dropWhile_cons]
    cases e : p a <;> simp [e, ih]
theorem trimS_nil (l : List UInt8) : (Lib.trimS l tenS = []) ↔ l.all isD = true := by
  unfold Lib.trimS Lib.trimLeftS Lib.trimRightS
  have e : (fun x => tenS.contains x) = isD := funext tenS_isD
  rw [e, dropWhile_nil, List.all_reverse, dropWhile_all, List.all_reverse]
def dig (b : UInt8) : Int := (b.toNat : Int) - 48
def dsOf (l : List UInt8) : List Int := l.map dig
theorem dsOf_Dg {l : List UInt8} (h : l.all isD = true) : Dg (dsOf l) := fun d hd => by
  obtain ⟨b, hb, rfl⟩ := List.mem_map.1 hd
  have := List.all_eq_true.1 h b hb
  simp [isD] at this
  unfold dig
  omega
/-- What the letters behind the sign are: digits, and where the point stands. -/
def scanF : List UInt8 → List Int → Int → Option (List Int × Int)
  | [], d, pt => some (d, pt)
  | c :: r, d, pt => if c.toNat == 46 && decide (pt < 0) then scanF r d d.length else if decide (c.toNat < 48) || decide (57 < c.toNat) then none else scanF r (d ++ [dig c]) pt
theorem scan_within (l : List UInt8) (d : List Int) (pt : Int) (hp : 0 ≤ pt) : scanF l d pt = if l.all isD then some (d ++ dsOf l, pt) else none := by
  induction l generalizing d with
  | nil => simp [scanF, dsOf]
  | cons c r ih =>
    rw [scanF, decide_eq_false (show ¬ pt < 0 by omega), Bool.and_false, if_neg (by simp)]
    cases e : isD c
    · have : (decide (c.toNat < 48) || decide (57 < c.toNat)) = true := by
        simp [isD] at e ⊢; omega
      rw [this]
      simp [e]
    · have : (decide (c.toNat < 48) || decide (57 < c.toNat)) = false := by
        simp [isD] at e ⊢; omega
      rw [this, if_neg (by simp), ih]
      simp [e, dsOf, dig]
theorem cut_point (l : List UInt8) : Lib.cut l [46] = (l.takeWhile (fun b => b.toNat != 46), (l.dropWhile (fun b => b.toNat != 46)).drop 1, l.any (fun b => b.toNat == 46)) := by
  have hi : Lib.index l [46] = if l.any (fun b => b.toNat == 46) then ((l.takeWhile (fun b => b.toNat != 46)).length : Int) else -1 := by
    induction l with
    | nil => rfl
    | cons c r ih =>
      rw [Lib.index]
      have hc : (List.isPrefixOf [46] (c :: r)) = (c.toNat == 46) := by
        have : ∀ n : Fin 256, ((46 : UInt8) == UInt8.ofNat n.val) = ((UInt8.ofNat n.val).toNat == 46) := by decide +kernel
        have h := this ⟨c.toNat, c.toNat_lt⟩
        simpa [List.isPrefixOf] using h
      rw [hc, ih]
      cases e : (c.toNat == 46)
      · have e' : (c.toNat != 46) = true := by simp [bne, e]
        simp only [Bool.false_eq_true, if_false, List.any_cons, e, Bool.false_or, List.takeWhile_cons, e', if_true, List.length_cons]
        cases e2 : r.any (fun b => b.toNat == 46)
        · simp
        · simp only [if_true]
          have : (((List.takeWhile (fun b => b.toNat != 46) r).length : Int) == -1) = false := by simp
          rw [this]
          simp
      · have e' : (c.toNat != 46) = false := by simp [bne, e]
        simp [e, e']
  unfold Lib.cut
  rw [hi]
  cases e : l.any (fun b => b.toNat == 46)
  · simp only [Bool.false_eq_true, if_false]
    rw [if_neg (by omega)]
    have : ∀ l : List UInt8, l.any (fun b => b.toNat == 46) = false → l.takeWhile (fun b => b.toNat != 46) = l ∧ l.dropWhile (fun b => b.toNat != 46) = [] := by
      intro l
      induction l with
      | nil => intro _; exact ⟨rfl, rfl⟩
      | cons c r ih =>
        intro h
        simp only [List.any_cons, Bool.or_eq_false_iff] at h
        obtain ⟨i1, i2⟩ := ih h.2
        have e' : (c.toNat != 46) = true := by simp [bne, h.1]
        simp only [List.takeWhile_cons, List.dropWhile_cons, e', if_true, i1, i2]
        exact ⟨trivial, trivial⟩
    obtain ⟨i1, i2⟩ := this l e
    rw [i1, i2]
    rfl
  · simp only [if_true]
    rw [if_pos (by omega)]
    have : ∀ l : List UInt8, l.take (l.takeWhile (fun b => b.toNat != 46)).length = l.takeWhile (fun b => b.toNat != 46) ∧ ∀ k, l.drop ((l.takeWhile (fun b => b.toNat != 46)).length + k) = (l.dropWhile (fun b => b.toNat != 46)).drop k := by
      intro l
      induction l with
      | nil => simp
      | cons c r ih =>
        simp only [List.takeWhile_cons, List.dropWhile_cons]
        cases e' : (c.toNat != 46)
        · simp
        · simp only [if_true, List.length_cons, List.take_succ_cons, ih.1, true_and]
          intro k
          rw [show (List.takeWhile (fun b => b.toNat != 46) r).length + 1 + k = ((List.takeWhile (fun b => b.toNat != 46) r).length + k) + 1 by omega, List.drop_succ_cons, ih.2]
    rw [Int.toNat_natCast, (this l).1, (this l).2]
    rfl
/-- Letter by letter it is what the first point cuts. -/
theorem scan_cut (l : List UInt8) (d : List Int) : scanF l d (-1) = if (Lib.cut l [46]).1.all isD && (Lib.cut l [46]).2.1.all isD then some (d ++ dsOf ((Lib.cut l [46]).1 ++ (Lib.cut l [46]).2.1), if (Lib.cut l [46]).2.2 then ((d.length + (Lib.cut l [46]).1.length : Nat) : Int) else -1) else none := by
  rw [cut_point]
  simp only
  induction l generalizing d with
  | nil => simp [scanF, dsOf]
  | cons c r ih =>
    rw [scanF]
    cases e : (c.toNat == 46)
    · have e' : (c.toNat != 46) = true := by simp [bne, e]
      simp only [Bool.false_and, Bool.false_eq_true, if_false, List.takeWhile_cons, List.dropWhile_cons, e', if_true, List.any_cons, e, Bool.false_or, List.all_cons]
      cases e2 : isD c
      · have : (decide (c.toNat < 48) || decide (57 < c.toNat)) = true := by
          simp [isD] at e2 ⊢; omega
        rw [this]
        simp
      · have : (decide (c.toNat < 48) || decide (57 < c.toNat)) = false := by
          simp [isD] at e2 ⊢; omega
        rw [this, if_neg (by simp), ih]
        simp only [Bool.true_and, List.length_append, List.length_cons, List.length_nil, List.append_assoc, List.singleton_append, List.cons_append, dsOf, List.map_cons]
        split
        · split
          · simp
            omega
          · simp
        · rfl
    · have e' : (c.toNat != 46) = false := by simp [bne, e]
      simp only [decide_eq_true (show (-1 : Int) < 0 by decide), Bool.and_true, if_true, List.takeWhile_cons, List.dropWhile_cons, e', Bool.false_eq_true, if_false, List.any_cons, e, Bool.true_or, List.all_nil, Bool.true_and, List.length_nil, Nat.add_zero, List.nil_append, List.drop_succ_cons, List.drop_zero]
      rw [scan_within _ _ _ (by omega)]
end Go.Proofs.YtfagfkfcokmclaaGreatDoor
end

/- Reading a number, plain: the two ways answer the same. -/
section
set_option linter.unusedSimpArgs false
set_option linter.unusedVariables false
namespace Go.Proofs.YtfagfkfcokmclaaGreatDoor

theorem norm_pow (m k : Nat) : ∀ j, normN (m * 10 ^ j) (k + j) = normN m k := by
  intro j
  induction j with
  | zero => simp
  | succ j ih =>
    rw [show k + (j + 1) = (k + j) + 1 by omega, normN, Nat.pow_succ, ← Nat.mul_assoc]
    have e1 : (m * 10 ^ j * 10 % 10 == 0) = true := by simp
    have e2 : m * 10 ^ j * 10 / 10 = m * 10 ^ j := by omega
    rw [e2]
    simp only [e1, if_true]
    exact ih
theorem norm_done (m k : Nat) (h : k = 0 ∨ m % 10 ≠ 0) : normN m k = (m, k) := by
  cases k with
  | zero => rfl
  | succ k =>
    rw [normN]
    have : (m % 10 == 0) = false := by simp; omega
    simp [this]
/-- The number that letters spell. -/
def rv (l : List UInt8) : Int := dval (dsOf l).reverse
theorem rv_snoc (l : List UInt8) (c : UInt8) : rv (l ++ [c]) = dig c + 10 * rv l := by
  unfold rv dsOf
  simp [dval]
theorem rv_zeros (l : List UInt8) (j : Nat) : rv (l ++ List.replicate j 48) = rv l * 10 ^ j := by
  induction j with
  | zero => simp
  | succ j ih =>
    have : dig 48 = 0 := rfl
    rw [List.replicate_succ', ← List.append_assoc, rv_snoc, ih, Int.pow_succ, this, Int.zero_add, Int.mul_comm 10, Int.mul_assoc]
theorem rv_lead (j : Nat) (l : List UInt8) : rv (List.replicate j 48 ++ l) = rv l := by
  unfold rv dsOf
  rw [List.map_append, List.reverse_append, dval_app, List.map_replicate, List.reverse_replicate]
  have : dig 48 = 0 := rfl
  rw [this, dval_zeros]
  omega
theorem rv_Dg {l : List UInt8} (h : l.all isD = true) : Dg (dsOf l).reverse := fun d hd => dsOf_Dg h d (by simpa using hd)
theorem rv_nonneg {l : List UInt8} (h : l.all isD = true) : 0 ≤ rv l := dval_nonneg (rv_Dg h)
theorem rv_take {l : List UInt8} (h : l.all isD = true) (k : Nat) : (rv l).toNat / 10 ^ k = (rv (l.take (l.length - k))).toNat := by
  unfold rv
  rw [← dval_dropN (rv_Dg h)]
  congr 2
  unfold dsOf
  rw [List.drop_reverse, List.length_map, List.map_take]
theorem contains48 (b : UInt8) : [48].contains b = (b == 48) := by simp; rfl
theorem trimR_spec (l : List UInt8) : ∃ j, l = Lib.trimRightS l [48] ++ List.replicate j 48 ∧ (∀ m c, Lib.trimRightS l [48] = m ++ [c] → c ≠ 48) := by
  unfold Lib.trimRightS
  have e : (fun x => [48].contains x) = (fun x : UInt8 => x == 48) := funext contains48
  rw [e]
  have : ∀ l : List UInt8, ∃ j, l = List.replicate j 48 ++ l.dropWhile (fun x => x == 48) ∧ ∀ c m, l.dropWhile (fun x => x == 48) = c :: m → c ≠ 48 := by
    intro l
    induction l with
    | nil => exact ⟨0, rfl, by simp⟩
    | cons c r ih =>
      rw [List.dropWhile_cons]
      cases e : (c == 48)
      · refine ⟨0, by simp, fun c' m h => ?_⟩
        simp at h e
        rw [← h.1]
        exact e
      · obtain ⟨j, h1, h2⟩ := ih
        simp at e
        refine ⟨j + 1, ?_, by simpa using h2⟩
        simp only [if_true, List.replicate_succ, List.cons_append]
        rw [← h1, e]
  obtain ⟨j, h1, h2⟩ := this l.reverse
  refine ⟨j, ?_, fun m c h => h2 c m.reverse ?_⟩
  · have := congrArg List.reverse h1
    rw [List.reverse_reverse, List.reverse_append, List.reverse_replicate] at this
    exact this
  · have := congrArg List.reverse h
    rw [List.reverse_reverse, List.reverse_append] at this
    simpa using this
theorem trimL_lead (l : List UInt8) : ∃ j, l = List.replicate j 48 ++ Lib.trimLeftS l [48] ∧ (∀ m c, Lib.trimLeftS l [48] = c :: m → c ≠ 48) := by
  obtain ⟨j, h1, h2⟩ := trimR_spec l.reverse
  unfold Lib.trimRightS at h1 h2
  unfold Lib.trimLeftS
  rw [List.reverse_reverse] at h1 h2
  refine ⟨j, ?_, fun m c h => h2 m.reverse c ?_⟩
  · have := congrArg List.reverse h1
    rw [List.reverse_reverse, List.reverse_append, List.reverse_replicate, List.reverse_reverse] at this
    exact this
  · rw [h]; simp
theorem all_app {a b : List UInt8} {p : UInt8 → Bool} (h : (a ++ b).all p = true) : a.all p = true ∧ b.all p = true := by simpa using h
/-- Digits ahead of the point and behind it: what they fit to. -/
theorem fit_parts (neg : Bool) (w p : List UInt8) (hw : w.all isD = true) (hp : p.all isD = true) :
    fitW neg (rv (w ++ p)).toNat p.length = if decide (18 < (Lib.trimLeftS (w ++ Lib.trimRightS (p.take 9) [48]) [48]).length) then (0, 0, 53)
      else fitW neg (rv (Lib.trimLeftS (w ++ Lib.trimRightS (p.take 9) [48]) [48])).toNat (Lib.trimRightS (p.take 9) [48]).length := by
  obtain ⟨j, h1, h2⟩ := trimR_spec (p.take 9)
  have hp9 : (p.take 9).all isD = true := List.all_eq_true.2 fun x hx => List.all_eq_true.1 hp x (List.mem_of_mem_take hx)
  have hlen := congrArg List.length h1
  rw [h1] at hp9
  obtain ⟨hp', -⟩ := all_app hp9
  have hk9 : (Lib.trimRightS (p.take 9) [48]).length ≤ 9 := by
    rw [List.length_append, List.length_take] at hlen
    omega
  have hm9 : (rv (w ++ p)).toNat / 10 ^ (p.length - 9) = (rv (w ++ p.take 9)).toNat := by
    rw [rv_take (by rw [List.all_append, hw, hp]; rfl)]
    congr 2
    rw [List.take_append, List.length_append, List.take_of_length_le (by omega)]
    congr 1
    rw [show w.length + p.length - (p.length - 9) - w.length = p.length - (p.length - 9) by omega]
    rcases Nat.le_total p.length 9 with h | h
    · rw [List.take_of_length_le (by omega), List.take_of_length_le h]
    · congr 1
      all_goals omega
  have hmin : min p.length 9 = (Lib.trimRightS (p.take 9) [48]).length + j := by
    rw [List.length_append, List.length_replicate, List.length_take] at hlen
    omega
  have hm' : (rv (w ++ p.take 9)).toNat = (rv (w ++ Lib.trimRightS (p.take 9) [48])).toNat * 10 ^ j := by
    conv => lhs; rw [h1]
    rw [← List.append_assoc, rv_zeros, Int.toNat_mul (rv_nonneg (by rw [List.all_append, hw, hp']; rfl)) (Int.le_of_lt (pow10_pos j))]
    congr 1
  generalize hP : Lib.trimRightS (p.take 9) [48] = p' at *
  have hwp : (w ++ p').all isD = true := by rw [List.all_append, hw, hp']; rfl
  have hdone : normN (rv (w ++ p')).toNat p'.length = ((rv (w ++ p')).toNat, p'.length) := by
    apply norm_done
    rcases List.eq_nil_or_concat p' with h | ⟨m, c, h⟩
    · left; rw [h]; rfl
    · right
      rw [List.concat_eq_append] at h
      have hc := h2 m c h
      rw [h] at hwp ⊢
      rw [← List.append_assoc] at hwp ⊢
      obtain ⟨ha, hb⟩ := all_app hwp
      have hn := rv_nonneg ha
      rw [rv_snoc]
      have hcd : isD c = true := by simpa using hb
      simp [isD] at hcd
      have hc2 : c.toNat ≠ 48 := fun e => hc (by
        have := UInt8.ofNat_toNat (x := c)
        rw [e] at this
        exact this.symm)
      unfold dig
      omega
  have hall : rv (Lib.trimLeftS (w ++ p') [48]) = rv (w ++ p') := by
    obtain ⟨i, g1, -⟩ := trimL_lead (w ++ p')
    conv => rhs; rw [g1]
    rw [rv_lead]
  have hlen18 : decide (18 < (Lib.trimLeftS (w ++ p') [48]).length) = decide (999999999999999999 < (rv (w ++ p')).toNat) := by
    obtain ⟨i, g1, g2⟩ := trimL_lead (w ++ p')
    rw [← hall]
    generalize Lib.trimLeftS (w ++ p') [48] = al at *
    have hal : al.all isD = true := by rw [g1] at hwp; exact (all_app hwp).2
    have hd := rv_Dg hal
    have hnr : Nr (dsOf al).reverse := by
      cases al with
      | nil => exact Nr.nil
      | cons c m =>
        have hc := g2 m c rfl
        have hcd : isD c = true := by simp at hal; exact hal.1
        simp [isD] at hcd
        have hc2 : c.toNat ≠ 48 := fun e => hc (by
          have := UInt8.ofNat_toNat (x := c)
          rw [e] at this
          exact this.symm)
        unfold Nr dsOf
        simp [dig]
        omega
    have hl : (dsOf al).reverse.length = al.length := by simp [dsOf]
    have h0 := rv_nonneg hal
    have p18 : (10 : Int) ^ 18 = 1000000000000000000 := by decide
    rcases Nat.lt_or_ge 18 al.length with h | h
    · have g := dval_ge hd hnr (by intro e; rw [e] at hl; simp at hl; omega)
      have gm := pow_mono (show 18 ≤ (dsOf al).reverse.length - 1 by omega)
      rw [decide_eq_true h, decide_eq_true]
      unfold rv at *
      omega
    · have g := dval_lt hd
      have gm := pow_mono (show (dsOf al).reverse.length ≤ 18 by omega)
      rw [decide_eq_false (by omega), decide_eq_false]
      unfold rv at *
      omega
  rw [hall, hlen18]
  have hL : fitW neg (rv (w ++ p)).toNat p.length = fitW neg (rv (w ++ p')).toNat p'.length := by
    unfold fitW
    rw [hm9, hm', hmin, norm_pow, show p'.length - 9 = 0 by omega, show min p'.length 9 = p'.length by omega, Nat.pow_zero, Nat.div_one]
  rw [hL]
  cases e : decide (999999999999999999 < (rv (w ++ p')).toNat)
  · simp
  · unfold fitW
    rw [show p'.length - 9 = 0 by omega, show min p'.length 9 = p'.length by omega, Nat.pow_zero, Nat.div_one, hdone, e]
    simp
end Go.Proofs.YtfagfkfcokmclaaGreatDoor
end

/- Reading a number, plain: what it answers, in one function; the library's reading of digits. -/
section
set_option linter.unusedSimpArgs false
set_option linter.unusedVariables false
namespace Go.Proofs.YtfagfkfcokmclaaGreatDoor

theorem rv_cons (c : UInt8) (l : List UInt8) : rv (c :: l) = rv l + 10 ^ l.length * dig c := by
  unfold rv dsOf
  rw [List.map_cons, List.reverse_cons, dval_app]
  simp [dval]
theorem rv_lt {l : List UInt8} (h : l.all isD = true) : rv l < 10 ^ l.length := by
  have := dval_lt (rv_Dg h)
  unfold rv
  simpa [dsOf] using this
theorem isD_dig {c : UInt8} (h : isD c = true) : 48 ≤ c.toNat ∧ c.toNat ≤ 57 ∧ dig c = ((c.toNat - 48 : Nat) : Int) := by
  simp [isD] at h
  unfold dig
  omega
theorem parse_digits : ∀ (l : List UInt8) (acc : Nat), l.all isD = true → (acc + 1) * 10 ^ l.length ≤ 1000000000000000000 → Lib.parseUint10 acc l = .ok (acc * 10 ^ l.length + (rv l).toNat) := by
  intro l
  induction l with
  | nil => intro acc _ _; simp [Lib.parseUint10, rv, dsOf, dval]
  | cons c r ih =>
    intro acc h hb
    simp only [List.all_cons, Bool.and_eq_true] at h
    obtain ⟨h1, h2, h3⟩ := isD_dig h.1
    have hr := rv_nonneg h.2
    have hp : 1 ≤ 10 ^ r.length := Nat.one_le_pow _ _ (by decide)
    rw [List.length_cons, Nat.pow_succ, Nat.mul_comm (10 ^ r.length) 10, ← Nat.mul_assoc] at hb
    have hle : (acc + 1) * 10 ≤ (acc + 1) * 10 * 10 ^ r.length := Nat.le_mul_of_pos_right _ (by omega)
    rw [Lib.parseUint10, if_pos ⟨h1, h2⟩, if_neg (by omega), if_neg (by omega), ih _ h.2 (Nat.le_trans (Nat.mul_le_mul_right _ (by omega)) hb)]
    congr 1
    rw [rv_cons, h3, Int.toNat_add hr (Int.mul_nonneg (Int.le_of_lt (pow10_pos _)) (by omega)), Int.toNat_mul (Int.le_of_lt (pow10_pos _)) (by omega), Int.toNat_natCast, List.length_cons, Nat.pow_succ, Nat.add_mul]
    have e : ((10 : Int) ^ r.length).toNat = 10 ^ r.length := by rw [← pow_cast, Int.toNat_natCast]
    rw [e, Nat.mul_comm (10 ^ r.length) 10, ← Nat.mul_assoc, Nat.mul_comm (10 ^ r.length) (c.toNat - 48)]
    omega
/-- '"0" + digits', read by the library. -/
theorem atoi_digits (l : List UInt8) (h : l.all isD = true) (hl : l.length ≤ 18) : Lib.atoiAll (48 :: l) = .ok (rv l) := by
  have h0 := rv_nonneg h
  have hlt := rv_lt h
  have hm := pow_mono hl
  have p18 : (10 : Int) ^ 18 = 1000000000000000000 := by decide
  have hp := parse_digits l 0 h (by
    have := Nat.pow_le_pow_right (show 0 < 10 by omega) hl
    omega)
  have e48 : (48 : UInt8).toNat = 48 := rfl
  have hm2 : Lib.parseMag (48 :: l) = .ok (rv l).toNat := by
    unfold Lib.parseMag
    rw [if_neg (by simp), Lib.parseUint10, if_pos (by rw [e48]; omega), if_neg (by omega), if_neg (by rw [e48]; omega)]
    rw [e48]
    simpa using hp
  unfold Lib.atoiAll
  simp only [e48]
  simp only [show ¬ ((48 : Nat) = 43 ∨ (48 : Nat) = 45) by omega, if_false, hm2]
  simp
  rw [if_neg (by omega)]
  congr 1
  omega
/-- The sign, and what stands behind it. -/
def signF : List UInt8 → Bool × List UInt8
  | [] => (false, [])
  | c :: r => if c.toNat == 45 then (true, r) else if c.toNat == 43 then (false, r) else (false, c :: r)
theorem u8_eq (c : UInt8) (k : Nat) (hk : k < 256) : (UInt8.ofNat k == c) = (c.toNat == k) := by
  cases e : (c.toNat == k)
  · simp at e ⊢
    intro h
    apply e
    rw [← h]
    simp [Nat.mod_eq_of_lt hk]
  · simp at e ⊢
    rw [← e]
    exact UInt8.ofNat_toNat
theorem trim_sign (l : List UInt8) : ((Lib.trimPrefix l [45] != l) = (signF l).1) ∧ ((signF l).1 = true → Lib.trimPrefix l [45] = (signF l).2) ∧ ((signF l).1 = false → Lib.trimPrefix l [43] = (signF l).2) := by
  unfold Lib.trimPrefix Lib.hasPrefix
  cases l with
  | nil => simp [signF]
  | cons c r =>
    have e45 : List.isPrefixOf [45] (c :: r) = (c.toNat == 45) := by
      have := u8_eq c 45 (by omega)
      simpa [List.isPrefixOf] using this
    have e43 : List.isPrefixOf [43] (c :: r) = (c.toNat == 43) := by
      have := u8_eq c 43 (by omega)
      simpa [List.isPrefixOf] using this
    rw [e45, e43]
    unfold signF
    have hne : (r == c :: r) = false := by
      cases e : (r == c :: r)
      · rfl
      · simp at e
    cases h1 : (c.toNat == 45) <;> cases h2 : (c.toNat == 43) <;> simp only [h1, h2, bne, hne, if_true, if_false, Bool.false_eq_true, List.length_cons, List.length_nil, List.drop_succ_cons, List.drop_zero, Bool.not_false, beq_self_eq_true, Bool.not_true] <;> simp
/-- What reading answers: number, scale, error. -/
def parseF (l : List UInt8) : Int × Int × Int :=
  if !((Lib.cut (signF l).2 [46]).1.all isD && (Lib.cut (signF l).2 [46]).2.1.all isD) || ((Lib.cut (signF l).2 [46]).1 ++ (Lib.cut (signF l).2 [46]).2.1) == [] then (0, 0, 12)
  else fitW (signF l).1 (rv ((Lib.cut (signF l).2 [46]).1 ++ (Lib.cut (signF l).2 [46]).2.1)).toNat (Lib.cut (signF l).2 [46]).2.1.length
/-- The document's way. -/
def docF (neg : Bool) (o : Option (List Int × Int)) : Int × Int × Int :=
  match o with
  | none => (0, 0, 12)
  | some (d, pt) => if d.length == 0 then (0, 0, 12) else if (fitD neg d.reverse (if decide (0 ≤ pt) then d.length - pt.toNat else 0)).2.2 then ((fitD neg d.reverse (if decide (0 ≤ pt) then d.length - pt.toNat else 0)).1, (fitD neg d.reverse (if decide (0 ≤ pt) then d.length - pt.toNat else 0)).2.1, 0) else (0, 0, 53)
theorem fitW_err (neg : Bool) (m s : Nat) : (if (fitW neg m s).2.2 == 0 then ((fitW neg m s).1, (fitW neg m s).2.1, (0 : Int)) else (0, 0, 53)) = fitW neg m s := by
  rcases fitW_cases neg m s with h | ⟨n, k, h, -⟩
  · rw [h]; rfl
  · rw [h]; rfl
theorem fitD_W (neg : Bool) {l : List Int} (h : Dg l) (s : Nat) : (if (fitD neg l s).2.2 then ((fitD neg l s).1, (fitD neg l s).2.1, (0 : Int)) else (0, 0, 53)) = fitW neg (dval l).toNat s := by
  rw [fitD_val neg h]
  conv => rhs; rw [← fitW_err]
  split <;> simp
theorem parse_doc (l : List UInt8) : docF (signF l).1 (scanF (signF l).2 [] (-1)) = parseF l := by
  rw [scan_cut]
  unfold parseF docF
  have hf : (Lib.cut (signF l).2 [46]).2.2 = false → (Lib.cut (signF l).2 [46]).2.1 = [] := by
    unfold Lib.cut
    split <;> simp
  generalize (signF l).1 = neg
  generalize Lib.cut (signF l).2 [46] = c at *
  obtain ⟨w, p, f⟩ := c
  simp only at hf ⊢
  cases e : (w.all isD && p.all isD)
  · simp
  · simp only [Bool.and_eq_true] at e
    have hall : (w ++ p).all isD = true := by rw [List.all_append, e.1, e.2]; rfl
    simp only [if_true, List.nil_append, Bool.not_true, Bool.false_or, List.length_nil, Nat.zero_add]
    have hl : (dsOf (w ++ p)).length = w.length + p.length := by simp [dsOf]
    have hs : (if decide (0 ≤ (if f then ((w.length : Nat) : Int) else -1)) then (dsOf (w ++ p)).length - (if f then ((w.length : Nat) : Int) else -1).toNat else 0) = p.length := by
      cases f
      · rw [hf rfl]; rfl
      · rw [hl]
        simp
    rw [hs, fitD_W neg (rv_Dg hall)]
    have h0 : ((dsOf (w ++ p)).length == 0) = (w ++ p == []) := by
      rw [hl]
      cases w <;> cases p <;> simp
    rw [h0]
    rfl
end Go.Proofs.YtfagfkfcokmclaaGreatDoor
end

/- What is written is read back: plain. -/
section
set_option linter.unusedSimpArgs false
set_option linter.unusedVariables false
namespace Go.Proofs.YtfagfkfcokmclaaGreatDoor

theorem chr_nat {d : Int} (h : 0 ≤ d ∧ d ≤ 9) : (chr d).toNat = 48 + d.toNat := by
  unfold chr
  simp
  omega
theorem dig_chr {d : Int} (h : 0 ≤ d ∧ d ≤ 9) : dig (chr d) = d := by
  unfold dig
  rw [chr_nat h]
  omega
theorem isD_chr {d : Int} (h : 0 ≤ d ∧ d ≤ 9) : isD (chr d) = true := by
  unfold isD
  rw [chr_nat h]
  simp
  omega
theorem chs_all {L : List Int} (h : Dg L) : (chs L).all isD = true := by
  unfold chs
  rw [List.all_reverse, List.all_map, List.all_eq_true]
  intro d hd
  exact isD_chr (h d hd)
theorem rv_chs {L : List Int} (h : Dg L) : rv (chs L) = dval L := by
  unfold rv dsOf chs
  rw [List.map_reverse, List.reverse_reverse, List.map_map]
  congr 1
  have : ∀ l : List Int, Dg l → l.map (dig ∘ chr) = l := by
    intro l
    induction l with
    | nil => intro _; rfl
    | cons d l ih =>
      intro hl
      rw [List.map_cons, ih hl.tail]
      simp [dig_chr hl.head]
  exact this L h
theorem isD_ne {c : UInt8} (h : isD c = true) : c.toNat ≠ 46 ∧ c.toNat ≠ 45 ∧ c.toNat ≠ 43 := by
  simp [isD] at h
  omega
theorem tw_all {l r : List UInt8} (h : l.all isD = true) : (l ++ 46 :: r).takeWhile (fun b => b.toNat != 46) = l ∧ (l ++ 46 :: r).dropWhile (fun b => b.toNat != 46) = 46 :: r := by
  induction l with
  | nil => simp
  | cons c l ih =>
    simp only [List.all_cons, Bool.and_eq_true] at h
    have hc : (c.toNat != 46) = true := by simpa using (isD_ne h.1).1
    obtain ⟨h1, h2⟩ := ih h.2
    simp only [List.cons_append, List.takeWhile_cons, List.dropWhile_cons, hc, if_true, h1, h2]
    first | exact ⟨trivial, trivial⟩ | simp
theorem tw_none {l : List UInt8} (h : l.all isD = true) : l.takeWhile (fun b => b.toNat != 46) = l ∧ l.dropWhile (fun b => b.toNat != 46) = [] ∧ l.any (fun b => b.toNat == 46) = false := by
  induction l with
  | nil => simp
  | cons c l ih =>
    simp only [List.all_cons, Bool.and_eq_true] at h
    have hc : (c.toNat != 46) = true := by simpa using (isD_ne h.1).1
    have hc' : (c.toNat == 46) = false := by simpa using (isD_ne h.1).1
    obtain ⟨h1, h2, h3⟩ := ih h.2
    simp only [List.takeWhile_cons, List.dropWhile_cons, List.any_cons, hc, hc', if_true, h1, h2, h3]
    first | exact ⟨trivial, trivial, trivial⟩ | simp
theorem sign_digits {l : List UInt8} (h : l.all isD = true) (h0 : l ≠ []) (r : List UInt8) : signF (l ++ r) = (false, l ++ r) := by
  cases l with
  | nil => exact absurd rfl h0
  | cons c l =>
    simp only [List.all_cons, Bool.and_eq_true] at h
    obtain ⟨-, h1, h2⟩ := isD_ne h.1
    simp [signF, h1, h2]
theorem decDigits_pos (m : Nat) : 1 ≤ (Lib.decDigits m).length := by
  rw [Lib.decDigits]
  split <;> simp
/-- What is printed is read back. -/
theorem parse_format {n : Int} {s : Nat} (h : Rt n s) : parseF (formatF n s) = (n, (s : Int), 0) := by
  have hs9 : s ≤ 9 := by have := h.s9; omega
  have hX := digs_spec n.natAbs
  have gD := padD_Dg hX.2.1 s
  have hT := pad_same n.natAbs s
  have hDv : dval (padD (digs n.natAbs) s) = n.natAbs := by
    unfold padD
    rw [dval_app, dval_zeros, hX.1]
    simp
  have hDl := padD_len (digs n.natAbs) s
  obtain ⟨D, hD⟩ : ∃ D, D = padD (digs n.natAbs) s := ⟨_, rfl⟩
  rw [← hD] at gD hT hDv hDl
  have hall := chs_all gD
  have hrv := rv_chs gD
  have hcl := chs_len D
  have hfit : fitW (decide (n < 0)) n.natAbs s = (n, (s : Int), 0) := by
    refine fitW_exact _ _ _ hs9 n s h ?_
    rw [sgn_Z]
    unfold val9
    congr 2
    omega
  rw [hDv] at hrv
  obtain ⟨C, hC⟩ : ∃ C, C = chs D := ⟨_, rfl⟩
  rw [← hC] at hall hrv hcl hT
  -- the body
  have hbody : ∃ W P, (if s = 0 then Lib.decDigits n.natAbs else C.take (C.length - s) ++ [46] ++ C.drop (C.length - s)) = (if s = 0 then W else W ++ 46 :: P) ∧ W ++ P = C ∧ P.length = s ∧ W ≠ [] := by
    by_cases h0 : s = 0
    · subst h0
      have : padS (Lib.decDigits n.natAbs) 0 = Lib.decDigits n.natAbs := by
        have h1 := decDigits_pos n.natAbs
        unfold padS
        rw [if_neg (by omega)]
      rw [this] at hT
      exact ⟨C, [], by simp [hT], by simp, rfl, fun e => by rw [e] at hcl; simp at hcl; omega⟩
    · refine ⟨C.take (C.length - s), C.drop (C.length - s), by simp [h0], List.take_append_drop _ _, by rw [List.length_drop]; omega, fun e => ?_⟩
      have := congrArg List.length e
      simp at this
      omega
  obtain ⟨W, P, hb, hWP, hPs, hW0⟩ := hbody
  have hWa : W.all isD = true ∧ P.all isD = true := by rw [← hWP] at hall; exact all_app hall
  have hcut : Lib.cut (if s = 0 then W else W ++ 46 :: P) [46] = (W, P, decide (s ≠ 0)) := by
    rw [cut_point]
    by_cases h0 : s = 0
    · obtain ⟨t1, t2, t3⟩ := tw_none hWa.1
      have hP : P = [] := List.length_eq_zero_iff.1 (by omega)
      simp [h0, t1, t2, hP]
      simpa using t3
    · obtain ⟨t1, t2⟩ := tw_all (r := P) hWa.1
      simp only [h0, if_false, t1, t2]
      simp [h0]
  have hsign : signF (formatF n s) = (decide (n < 0), if s = 0 then W else W ++ 46 :: P) := by
    unfold formatF
    rw [hT, hb]
    by_cases hn : n < 0
    · simp [hn, signF]
    · simp only [hn, if_false, List.nil_append, decide_false]
      by_cases h0 : s = 0
      · simp only [h0, if_true]
        have := sign_digits hWa.1 hW0 []
        simpa using this
      · simp only [h0, if_false]
        exact sign_digits hWa.1 hW0 _
  unfold parseF
  rw [hsign]
  simp only [hcut, hWa.1, hWa.2, hWP, hPs, hrv]
  have hC0 : (C == []) = false := by
    cases hc : C with
    | nil => rw [hc] at hcl; simp at hcl; omega
    | cons a b => rfl
  rw [hC0]
  simp only [Bool.and_self, Bool.not_true, Bool.or_self, Bool.false_eq_true, if_false]
  rw [← hfit]
  congr 1
end Go.Proofs.YtfagfkfcokmclaaGreatDoor
end

/- The plain laws of the numbers: the order, sums, quotients, whole numbers next to one. -/
section
set_option linter.unusedSimpArgs false
set_option linter.unusedVariables false
namespace Go.Proofs.YtfagfkfcokmclaaGreatDoor

theorem addF_comm (n s k t : Int) : addF n s k t = addF k t n s := by
  unfold addF
  rw [Int.max_comm t s, Int.add_comm]
theorem mulF_comm (n s k t : Int) : mulF n s k t = mulF k t n s := by
  unfold mulF
  rw [Int.mul_comm, Int.add_comm]
section
variable {n s k t : Int} (ha : Rt n s) (hb : Rt k t)
include ha hb
theorem cmpF_neg : cmpF n s k t = - cmpF k t n s := by
  rw [cmpF_val ha hb, cmpF_val hb ha]
  generalize val9 n s = x
  generalize val9 k t = y
  rcases Int.lt_trichotomy x y with h | h | h
  · rw [if_neg (by omega), if_pos h, if_neg (by omega), if_neg (by omega)]
  · subst h; simp
  · rw [if_neg (by omega), if_neg (by omega), if_neg (by omega), if_pos h]
    rfl
theorem cmpF_zero : cmpF n s k t = 0 ↔ n = k ∧ s = t := by
  rw [cmpF_val ha hb]
  constructor
  · intro h
    split at h
    · rename_i h1
      exact Rt.uniq ha hb h1
    · split at h <;> omega
  · rintro ⟨rfl, rfl⟩
    rw [if_pos rfl]
theorem sub_back {u v : Int} (h : subF n s k t = (u, v, 0)) : addF u v k t = (n, s, 0) := by
  rcases subF_cases ha hb with h1 | ⟨u', v', h1, h2, h3⟩
  · rw [h1] at h; simp at h
  · rw [h1] at h
    simp at h
    obtain ⟨rfl, rfl⟩ := h
    exact addF_exact h2 hb n s ha (by omega)
theorem lvl_small : (lvl n s t).natAbs ≤ 999999999999999999 ∨ (lvl k t s).natAbs ≤ 999999999999999999 := by
  have h1 := ha.lo; have h2 := ha.hi; have h3 := hb.lo; have h4 := hb.hi
  rcases Int.le_total s t with h | h
  · right
    unfold lvl
    rw [show (max t s - t).toNat = 0 by omega, Int.pow_zero, Int.mul_one]
    omega
  · left
    unfold lvl
    rw [show (max s t - s).toNat = 0 by omega, Int.pow_zero, Int.mul_one]
    omega
omit ha in
theorem lvl_zero : lvl k t s = 0 ↔ k = 0 := by
  unfold lvl
  have := pow10_pos (max t s - t).toNat
  constructor
  · intro h
    rcases Int.mul_eq_zero.1 h with h | h
    · exact h
    · omega
  · rintro rfl
    exact Int.zero_mul _
theorem mod_small (hk : k ≠ 0) : ((lvl n s t).tmod (lvl k t s)).natAbs ≤ 999999999999999999 := by
  have hz : (lvl k t s).natAbs ≠ 0 := fun h => hk ((lvl_zero hb).1 (Int.natAbs_eq_zero.1 h))
  have e : ((lvl n s t).tmod (lvl k t s)).natAbs = (lvl n s t).natAbs % (lvl k t s).natAbs := Int.natAbs_tmod _ _
  have h1 := Nat.mod_lt (lvl n s t).natAbs (by omega : (lvl k t s).natAbs > 0)
  have h2 := Nat.mod_le (lvl n s t).natAbs (lvl k t s).natAbs
  rcases lvl_small ha hb with h | h <;> omega
/-- The rest: it is there, right, and has the first number's sign. -/
theorem modF_ok (hk : k ≠ 0) : ∃ u v, modF n s k t = (u, v, 0) ∧ Rt u v ∧ val9 u v = (lvl n s t).tmod (lvl k t s) * 10 ^ (9 - (max s t).toNat) ∧ (u ≠ 0 → (decide (u < 0) = decide (n < 0))) := by
  obtain ⟨u, v, h, h1, h2⟩ := fitZ_small ((lvl n s t).tmod (lvl k t s)) (max s t).toNat (max9 ha hb) (mod_small ha hb hk)
  refine ⟨u, v, by unfold modF; rw [if_neg (by simpa using hk)]; exact h, h1, h2, fun hu => ?_⟩
  unfold val9 at h2
  have p1 := pow10_pos (9 - v).toNat
  have p2 := pow10_pos (9 - (max s t).toNat)
  have p3 := pow10_pos (max s t - s).toNat
  generalize (10 : Int) ^ (9 - v).toNat = a1 at *
  generalize (10 : Int) ^ (9 - (max s t).toNat) = a2 at *
  have hx : (lvl n s t < 0 ↔ n < 0) ∧ (0 ≤ lvl n s t ↔ 0 ≤ n) := by
    unfold lvl
    generalize (10 : Int) ^ (max s t - s).toNat = a3 at *
    rcases Int.lt_or_le n 0 with h | h
    · have := Int.mul_neg_of_neg_of_pos h p3
      omega
    · have := Int.mul_nonneg h (Int.le_of_lt p3)
      omega
  generalize lvl n s t = X at *
  generalize lvl k t s = Y at *
  rcases Int.lt_or_le n 0 with hn | hn
  · have h4 : X.tmod Y ≤ 0 := (by have := Int.tmod_nonneg (a := -X) Y (by omega); rw [Int.neg_tmod] at this; omega)
    have h5 : X.tmod Y * a2 ≤ 0 := Int.mul_nonpos_of_nonpos_of_nonneg h4 (by omega)
    have h6 : u < 0 := by
      rcases Int.lt_or_le u 0 with h | h
      · exact h
      · have : 0 < u * a1 := Int.mul_pos (by omega) p1
        omega
    simp [h6, hn]
  · have h4 : 0 ≤ X.tmod Y := Int.tmod_nonneg Y (by omega)
    have h5 : 0 ≤ X.tmod Y * a2 := Int.mul_nonneg h4 (by omega)
    have h6 : ¬ u < 0 := by
      intro h
      have : u * a1 < 0 := Int.mul_neg_of_neg_of_pos h p1
      omega
    have h7 : ¬ n < 0 := by omega
    simp [h6, h7]
omit ha hb in
/-- The whole quotient. -/
theorem idivF_cases (hk : k ≠ 0) : idivF n s k t = (0, 0, 53) ∨ ∃ q, idivF n s k t = (q, 0, 0) ∧ q = (lvl n s t).tdiv (lvl k t s) ∧ Rt q 0 := by
  unfold idivF
  rw [if_neg (by simpa using hk)]
  rcases fitZ_cases ((lvl n s t).tdiv (lvl k t s)) 0 with h | ⟨u, v, h, h1, h2⟩
  · exact .inl h
  · right
    have e := h2 (by omega)
    have hv : v = 0 := by
      have : ((fitZ ((lvl n s t).tdiv (lvl k t s)) 0).2.1) = 0 := by
        unfold fitZ fitW normN
        simp
        split
        · rfl
        · split <;> rfl
      rw [h] at this
      exact this
    subst hv
    have : u = (lvl n s t).tdiv (lvl k t s) := by
      unfold val9 at e
      exact Int.eq_of_mul_eq_mul_right (by decide) e
    exact ⟨u, h, this, h1⟩
theorem mul_back {q u v : Int} (hk : k ≠ 0) (hq : idivF n s k t = (q, 0, 0)) (hr : modF n s k t = (u, v, 0)) {c d : Int} (hp : mulF q 0 k t = (c, d, 0)) : addF c d u v = (n, s, 0) := by
  rcases idivF_cases hk with h | ⟨q', h, h1, h2⟩
  · rw [h] at hq; simp at hq
  rw [h] at hq
  simp at hq
  subst hq
  obtain ⟨u', v', m1, m2, m3, -⟩ := modF_ok ha hb hk
  rw [m1] at hr
  simp at hr
  obtain ⟨rfl, rfl⟩ := hr
  have t0 := hb.s0
  have t9 := hb.s9
  unfold mulF at hp
  rcases fitZ_cases (q' * k) (0 + t).toNat with h3 | ⟨c', d', h3, h4, h5⟩
  · rw [h3] at hp; simp at hp
  rw [h3] at hp
  simp at hp
  obtain ⟨rfl, rfl⟩ := hp
  refine addF_exact h4 m2 n s ha ?_
  rw [h5 (by omega), m3]
  have e1 := lvl_val n s t ha.s0 ha.s9 hb.s9
  have e2 := lvl_val k t s hb.s0 hb.s9 ha.s9
  rw [Int.max_comm t s] at e2
  have e3 : val9 k t = k * 10 ^ (9 - (0 + t).toNat) := by
    unfold val9
    congr 2
    omega
  rw [Int.mul_assoc, ← e3, ← e1, ← e2, ← Int.mul_assoc, ← Int.add_mul]
  congr 1
  rw [h1]
  have := Int.tdiv_mul_add_tmod (lvl n s t) (lvl k t s)
  omega
end
theorem orders1 {n s k t c d : Int} (ha : Rt n s) (hb : Rt k t) (hc : Rt c d) (h1 : cmpF n s k t ≤ 0) (h2 : cmpF k t c d ≤ 0) : cmpF n s c d ≤ 0 ∧ (cmpF n s k t < 0 → cmpF n s c d < 0) := by
  rw [cmpF_val ha hb] at *
  rw [cmpF_val hb hc] at *
  rw [cmpF_val ha hc]
  generalize val9 n s = x at *
  generalize val9 k t = y at *
  generalize val9 c d = z at *
  repeat' split at h1
  all_goals repeat' split at h2
  all_goals repeat' split
  all_goals omega
theorem orders2 {n s k t c d u v x y : Int} (ha : Rt n s) (hb : Rt k t) (hc : Rt c d) (h1 : addF n s c d = (u, v, 0)) (h2 : addF k t c d = (x, y, 0)) : cmpF u v x y = cmpF n s k t := by
  rcases addF_cases ha hc with h | ⟨u', v', h, g1, g2⟩
  · rw [h] at h1; simp at h1
  rcases addF_cases hb hc with h' | ⟨x', y', h', g3, g4⟩
  · rw [h'] at h2; simp at h2
  rw [h] at h1
  rw [h'] at h2
  simp at h1 h2
  obtain ⟨rfl, rfl⟩ := h1
  obtain ⟨rfl, rfl⟩ := h2
  rw [cmpF_val g1 g3, cmpF_val ha hb, g2, g4]
  generalize val9 n s = x at *
  generalize val9 k t = y at *
  generalize val9 c d = z at *
  repeat' split
  all_goals omega

/-- Whole numbers next to one. -/
def floorF (n s : Int) : Int := if decide (n.tmod (10 ^ s.toNat) < 0) then n.tdiv (10 ^ s.toNat) - 1 else n.tdiv (10 ^ s.toNat)
def ceilF (n s : Int) : Int := if decide (0 < n.tmod (10 ^ s.toNat)) then n.tdiv (10 ^ s.toNat) + 1 else n.tdiv (10 ^ s.toNat)
def roundF (n s : Int) : Int := if s == 0 then n else if decide (0 ≤ cmpF (subF n s (floorF n s) 0).1 (subF n s (floorF n s) 0).2.1 5 1) then floorF n s + 1 else floorF n s
section
variable {n s : Int} (ha : Rt n s)
include ha
theorem ten_le (hs : 0 < s) : ∃ P : Int, (10 : Int) ^ s.toNat = P * 10 ∧ 0 < P ∧ P * 10 * 10 ^ (9 - s).toNat = 1000000000 := by
  refine ⟨10 ^ (s.toNat - 1), ?_, pow10_pos _, ?_⟩
  · rw [← Int.pow_succ]
    congr 1
    omega
  · rw [← Int.pow_succ, ← Int.pow_add]
    have h := ha.s9
    rw [show s.toNat - 1 + 1 + (9 - s).toNat = 9 by omega]
    rfl
/-- Where it is no whole number: the one below, the one above. -/
theorem floor_in (hs : 0 < s) : floorF n s * 1000000000 < val9 n s ∧ val9 n s < floorF n s * 1000000000 + 1000000000 ∧ ceilF n s = floorF n s + 1 ∧ -999999999999999998 ≤ floorF n s ∧ floorF n s ≤ 999999999999999997 := by
  obtain ⟨P, h1, h2, h3⟩ := ten_le ha hs
  have hz := ha.nz hs
  have hlo := ha.lo
  have hhi := ha.hi
  have hd := Int.tdiv_mul_add_tmod n (P * 10)
  have hb1 : (n.tmod (P * 10)).natAbs < P.natAbs * 10 := by
    rw [Int.natAbs_tmod, Int.natAbs_mul]
    refine Nat.mod_lt _ ?_
    show 0 < P.natAbs * 10
    omega
  have hne : n.tmod (P * 10) ≠ 0 := by
    intro h0
    rw [h0, Int.add_zero, ← Int.mul_assoc] at hd
    apply hz
    rw [← hd]
    exact Int.mul_emod_left _ _
  have hsz : (n.tdiv (P * 10)).natAbs * 10 ≤ n.natAbs := by
    rw [Int.natAbs_tdiv, Int.natAbs_mul]
    show n.natAbs / (P.natAbs * 10) * 10 ≤ n.natAbs
    have h5 : n.natAbs / (P.natAbs * 10) ≤ n.natAbs / 10 := by
      refine Nat.div_le_div_left ?_ (by omega)
      omega
    have : n.natAbs / 10 * 10 ≤ n.natAbs := Nat.div_mul_le_self _ _
    omega
  unfold floorF ceilF val9
  rw [h1]
  have hp := pow10_pos (9 - s).toNat
  generalize (10 : Int) ^ (9 - s).toNat = A at *
  generalize n.tdiv (P * 10) = q at *
  generalize n.tmod (P * 10) = r at *
  have e : n * A = q * 1000000000 + r * A := by
    rw [← hd, Int.add_mul, Int.mul_assoc q, h3]
  have h8 : -(P * 10) < r ∧ r < P * 10 := by omega
  have h9 : r * A < 1000000000 := by
    rw [← h3]
    exact Int.mul_lt_mul_of_pos_right h8.2 hp
  have h10 : -1000000000 < r * A := by
    have := Int.mul_lt_mul_of_pos_right h8.1 hp
    rw [Int.neg_mul, h3] at this
    omega
  rcases Int.lt_or_le r 0 with hr | hr
  · have h11 : r * A < 0 := Int.mul_neg_of_neg_of_pos hr hp
    rw [decide_eq_true hr, decide_eq_false (by omega), if_pos rfl, if_neg (by simp)]
    omega
  · have h11 : 0 < r * A := Int.mul_pos (by omega) hp
    rw [decide_eq_false (by omega), decide_eq_true (by omega), if_pos rfl, if_neg (by simp)]
    omega
omit ha in
theorem floor0 (n : Int) : floorF n 0 = n ∧ ceilF n 0 = n ∧ roundF n 0 = n := by
  simp [floorF, ceilF, roundF]
theorem floor_Rt : Rt (floorF n s) 0 ∧ Rt (ceilF n s) 0 := by
  have h0 := ha.s0
  rcases Int.lt_or_le 0 s with h | h
  · obtain ⟨h1, h2, h3, h4, h5⟩ := floor_in ha h
    rw [h3]
    exact ⟨Rt.whole (by omega) (by omega), Rt.whole (by omega) (by omega)⟩
  · have : s = 0 := by omega
    subst this
    obtain ⟨h1, h2, h3⟩ := floor0 n
    rw [h1, h2]
    exact ⟨ha, ha⟩
omit ha in
theorem val9_0 (n : Int) : val9 n 0 = n * 1000000000 := rfl
omit ha in
/-- A difference of less than one is there. -/
theorem sub_near {n s k t : Int} (ha : Rt n s) (hb : Rt k t) (h1 : (val9 n s - val9 k t).natAbs ≤ 1000000000) : ∃ u v, subF n s k t = (u, v, 0) ∧ Rt u v ∧ val9 u v = val9 n s - val9 k t := by
  have h := sub_val ha hb
  have hp := pow10_pos (9 - (max s t).toNat)
  have hsm : (lvl n s t - lvl k t s).natAbs ≤ 999999999999999999 := by
    have h2 : (lvl n s t - lvl k t s).natAbs * ((10 : Int) ^ (9 - (max s t).toNat)).natAbs = (val9 n s - val9 k t).natAbs := by
      rw [← h, Int.natAbs_mul]
    have h3 : (lvl n s t - lvl k t s).natAbs ≤ (lvl n s t - lvl k t s).natAbs * ((10 : Int) ^ (9 - (max s t).toNat)).natAbs := Nat.le_mul_of_pos_right _ (by omega)
    omega
  obtain ⟨u, v, g, g1, g2⟩ := fitZ_small _ _ (max9 ha hb) hsm
  exact ⟨u, v, g, g1, by rw [g2, h]⟩
theorem low_high : ∃ u v x y, subF n s (floorF n s) 0 = (u, v, 0) ∧ subF (ceilF n s) 0 n s = (x, y, 0) ∧ Rt u v ∧ Rt x y ∧ roundF n s = (if decide (0 ≤ cmpF u v x y) then ceilF n s else floorF n s) := by
  have h0 := ha.s0
  obtain ⟨f1, f2⟩ := floor_Rt ha
  rcases Int.lt_or_le 0 s with h | h
  · obtain ⟨h1, h2, h3, h4, h5⟩ := floor_in ha h
    obtain ⟨u, v, g, g1, g2⟩ := sub_near ha f1 (by rw [val9_0]; omega)
    obtain ⟨x, y, k, k1, k2⟩ := sub_near f2 ha (by rw [val9_0, h3]; omega)
    refine ⟨u, v, x, y, g, k, g1, k1, ?_⟩
    unfold roundF
    have e0 : (s == 0) = false := by simp; omega
    rw [e0, g, h3, if_neg (by simp)]
    have r5 : Rt 5 1 := ⟨by omega, by omega, by omega, by omega, by omega⟩
    have v5 : val9 5 1 = 500000000 := rfl
    have e : decide (0 ≤ cmpF u v 5 1) = decide (0 ≤ cmpF u v x y) := by
      rw [cmpF_val g1 r5, cmpF_val g1 k1, v5, g2, k2, val9_0, val9_0, h3]
      generalize val9 n s = X at *
      generalize floorF n s = F at *
      repeat' split
      all_goals first | rfl | omega
    rw [e]
  · have : s = 0 := by omega
    subst this
    obtain ⟨h1, h2, h3⟩ := floor0 n
    rw [h1, h2, h3]
    obtain ⟨u, v, g, g1, g2⟩ := sub_near ha ha (by omega)
    refine ⟨u, v, u, v, g, g, g1, g1, ?_⟩
    split <;> rfl
theorem floor_cmp : cmpF (floorF n s) 0 n s ≤ 0 ∧ 0 ≤ cmpF (ceilF n s) 0 n s ∧ ceilF n s - floorF n s ≤ 1 ∧ floorF n s ≤ ceilF n s ∧ ((ceilF n s == floorF n s) = (s == 0)) := by
  have h0 := ha.s0
  obtain ⟨f1, f2⟩ := floor_Rt ha
  rw [cmpF_val f1 ha, cmpF_val f2 ha, val9_0, val9_0]
  rcases Int.lt_or_le 0 s with h | h
  · obtain ⟨h1, h2, h3, h4, h5⟩ := floor_in ha h
    have e0 : (s == 0) = false := by simp; omega
    have e1 : (ceilF n s == floorF n s) = false := by simp; omega
    rw [e0, e1, h3]
    refine ⟨?_, ?_, by omega, by omega, rfl⟩
    · rw [if_neg (by omega), if_pos (by omega)]
      omega
    · rw [if_neg (by omega), if_neg (by omega)]
      omega
  · have : s = 0 := by omega
    subst this
    obtain ⟨h1, h2, h3⟩ := floor0 n
    rw [h1, h2, val9_0]
    simp
end
end Go.Proofs.YtfagfkfcokmclaaGreatDoor
end

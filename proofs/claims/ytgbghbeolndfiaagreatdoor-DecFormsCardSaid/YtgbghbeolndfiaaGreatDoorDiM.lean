/- The document's operations: their walks. -/
import Derived.Test.YtgbghbeolndfiaaGreatDoorDiL
import Derived.Test.YtgbghbeolndfiaaGreatDoorDiK
set_option linter.unusedSimpArgs false
set_option linter.unusedVariables false
set_option linter.constructorNameAsVariable false
namespace Go.Proofs.YtgbghbeolndfiaaGreatDoor
open Go.RowKit

/-- A number of the document's is answered. -/
def BigOut (neg : Bool) (L : List Int) (w : World) (e : Ending) (w' : World) : Prop := ∃ g c, e = .returned (.agg #[.bool neg, .slice g L.length c]) ∧ IRow w' g L.length L ∧ L.length ≤ c ∧ (g = none → c = 0) ∧ (0 < L.length → ∀ b o, g = some ⟨b, o, none⟩ → w.heap.size ≤ b) ∧ Below w.heap.size w w'
theorem of_big (n : Int) (h0 : -9223372036854775808 ≤ n) (h1 : n ≤ 9223372036854775807) (w : World) : Calls Tryz.prog 15 #[.int .i64 n] w (BigOut (decide (n < 0)) (digs n.natAbs) w) := by
  refine (of_any n h0 h1 w).mono ?_
  rintro e w' ⟨v, rfl, hO, hb⟩
  have hl := digs_len n.natAbs (by omega)
  obtain ⟨g, c, rfl, hI, hc, hg, hgb⟩ := hO.drow (by omega)
  exact ⟨g, c, rfl, hI, hc, hg, hgb, hb⟩
theorem up_big (neg : Bool) (a : Option Addr) (c : Nat) (xs : List Int) (k : Nat) (w : World) (hI : IRow w a xs.length xs) (hck : xs.length ≤ c) (h0 : a = none → c = 0) (hl : xs.length ≤ 1000000) (hk : k ≤ 1000000) : Calls Tryz.prog 50 #[.agg #[.bool neg, .slice a xs.length c], .int .i64 (k : Int)] w (BigOut neg (upL xs k) w) := by
  refine (up_any neg a c xs k w hI hck h0 hl hk).mono ?_
  rintro e w' ⟨v, rfl, hD, hb⟩
  obtain ⟨g, c, rfl, hI, hc, hg, hgb⟩ := hD
  exact ⟨g, c, rfl, hI, hc, hg, hgb, hb⟩
theorem add_big (n1 n2 : Bool) (a b : Option Addr) (c d : Nat) (xs ys : List Int) (w : World) (hI : IRow w a xs.length xs) (hJ : IRow w b ys.length ys) (gx : Dg xs) (gy : Dg ys) (hl : xs.length ≤ 1000000) (hm : ys.length ≤ 1000000) : Calls Tryz.prog 51 #[.agg #[.bool n1, .slice a xs.length c], .agg #[.bool n2, .slice b ys.length d]] w (BigOut (addD n1 xs n2 ys).1 (addD n1 xs n2 ys).2 w) := by
  refine (radd_any n1 n2 a b c d xs ys w hI hJ gx gy hl hm).mono ?_
  rintro e w' ⟨v, rfl, hD, hb⟩
  obtain ⟨g, c, rfl, hI, hc, hg, hgb⟩ := hD
  exact ⟨g, c, rfl, hI, hc, hg, hgb, hb⟩
theorem mul_big (n1 n2 : Bool) (a b : Option Addr) (c d : Nat) (xs ys : List Int) (w : World) (hI : IRow w a xs.length xs) (hJ : IRow w b ys.length ys) (hd : ys.length ≤ d) (hb0 : b = none → d = 0) (gx : Dg xs) (gy : Dg ys) (ny : Nr ys) (hl : xs.length ≤ 1000) (hm : ys.length ≤ 1000) : Calls Tryz.prog 52 #[.agg #[.bool n1, .slice a xs.length c], .agg #[.bool n2, .slice b ys.length d]] w (BigOut (!(n1 == n2)) (digs ((dval xs).toNat * (dval ys).toNat)) w) := by
  refine (rmul_any n1 n2 a b c d xs ys w hI hJ hd hb0 gx gy ny hl hm).mono ?_
  rintro e w' ⟨v, L, rfl, hD, hg, hn, hv, hb⟩
  have e1 : digs ((dval xs).toNat * (dval ys).toNat) = L := by
    have h1 := dval_nonneg gx
    have h2 := dval_nonneg gy
    have : (dval L).toNat = (dval xs).toNat * (dval ys).toNat := by
      have h3 := dval_nonneg hg
      have : ((dval L).toNat : Int) = (((dval xs).toNat * (dval ys).toNat : Nat) : Int) := by
        rw [Int.natCast_mul, Int.toNat_of_nonneg h1, Int.toNat_of_nonneg h2, Int.toNat_of_nonneg h3, hv]
      omega
    rw [← this, digs_dval hg hn]
  rw [e1]
  obtain ⟨g, c, rfl, hI, hc, hg, hgb⟩ := hD
  exact ⟨g, c, rfl, hI, hc, hg, hgb, hb⟩
/-- .. two. -/
def BigOut2 (n1 : Bool) (L : List Int) (n2 : Bool) (K : List Int) (w : World) (e : Ending) (w' : World) : Prop := ∃ g c p d, e = .returned (.tuple #[.agg #[.bool n1, .slice g L.length c], .agg #[.bool n2, .slice p K.length d]]) ∧ IRow w' g L.length L ∧ L.length ≤ c ∧ (g = none → c = 0) ∧ (0 < L.length → ∀ b o, g = some ⟨b, o, none⟩ → w.heap.size ≤ b) ∧ IRow w' p K.length K ∧ K.length ≤ d ∧ (p = none → d = 0) ∧ (0 < K.length → ∀ b o, p = some ⟨b, o, none⟩ → w.heap.size ≤ b) ∧ Below w.heap.size w w'
theorem div_big (n1 n2 : Bool) (a b : Option Addr) (c d : Nat) (xs ys : List Int) (w : World) (hI : IRow w a xs.length xs) (hJ : IRow w b ys.length ys) (gx : Dg xs) (gy : Dg ys) (ny : Nr ys) (y0 : ys ≠ []) (hl : xs.length ≤ 1000) (hm : ys.length ≤ 1000) : Calls Tryz.prog 53 #[.agg #[.bool n1, .slice a xs.length c], .agg #[.bool n2, .slice b ys.length d]] w (BigOut2 (!(n1 == n2)) (digs ((dval xs).toNat / (dval ys).toNat)) n1 (digs ((dval xs).toNat % (dval ys).toNat)) w) := by
  refine (rdiv_any n1 n2 a b c d xs ys w hI hJ gx gy ny y0 hl hm).mono ?_
  rintro e w' ⟨v, u, Q, R, rfl, hQ, gq, nq, hqv, hR, gr, nr, hrv, hb⟩
  have hx := dval_nonneg gx
  have hy := dval_nonneg gy
  have hQ0 := dval_nonneg gq
  have hR0 := dval_nonneg gr
  have e1 : digs ((dval xs).toNat / (dval ys).toNat) = Q := by
    have : (dval Q).toNat = (dval xs).toNat / (dval ys).toNat := by
      have : ((dval Q).toNat : Int) = ((dval xs).toNat / (dval ys).toNat : Nat) := by
        rw [Int.natCast_ediv, Int.toNat_of_nonneg hQ0, Int.toNat_of_nonneg hx, Int.toNat_of_nonneg hy, hqv]
      omega
    rw [← this, digs_dval gq nq]
  have e2 : digs ((dval xs).toNat % (dval ys).toNat) = R := by
    have : (dval R).toNat = (dval xs).toNat % (dval ys).toNat := by
      have : ((dval R).toNat : Int) = ((dval xs).toNat % (dval ys).toNat : Nat) := by
        rw [Int.natCast_emod, Int.toNat_of_nonneg hR0, Int.toNat_of_nonneg hx, Int.toNat_of_nonneg hy, hrv]
      omega
    rw [← this, digs_dval gr nr]
  rw [e1, e2]
  obtain ⟨g, c, rfl, hI1, hc1, hg1, hgb1⟩ := hQ
  obtain ⟨p, d, rfl, hI2, hc2, hg2, hgb2⟩ := hR
  exact ⟨g, c, p, d, rfl, hI1, hc1, hg1, hgb1, hI2, hc2, hg2, hgb2, hb⟩
theorem fit_big (neg : Bool) (a : Option Addr) (c : Nat) (L : List Int) (s : Nat) (w : World) (hI : IRow w a L.length L) (hck : L.length ≤ c) (h0 : a = none → c = 0) (gx : Dg L) (hl : L.length ≤ 1000000) (hs : s ≤ 1000000) {f1 f2 : Int} {f3 : Bool} (hf : fitD neg L s = (f1, f2, f3)) : Calls Tryz.prog 14 #[.agg #[.bool neg, .slice a L.length c], .int .i64 (s : Int)] w fun e w' =>
    e = .returned (.tuple #[.int .i64 f1, .int .i64 f2, .bool f3]) ∧ Below w.heap.size w w' := by
  have := rfit_any neg a c L s w hI hck h0 gx hl hs
  rw [hf] at this
  exact this
/-- A right number's digits. -/
theorem rt_digs {n s : Int} (h : Rt n s) : -9223372036854775808 ≤ n ∧ n ≤ 9223372036854775807 ∧ Dg (digs n.natAbs) ∧ Nr (digs n.natAbs) ∧ (digs n.natAbs).length ≤ 19 := by
  have h1 := h.lo
  have h2 := h.hi
  exact ⟨by omega, by omega, (digs_spec _).2.1, (digs_spec _).2.2.1, digs_len _ (by omega)⟩
theorem upL_len {L : List Int} (h : Dg L) (hn : Nr L) (k : Nat) : (upL L k).length ≤ k + L.length := (upL_spec h hn k).2.2.2
end Go.Proofs.YtgbghbeolndfiaaGreatDoor

/- Times: what it returns, for every argument. -/
import Derived.Test.YtpnlhkpibgngbaaTyG
import Derived.BigQuiet
import Derived.Deep.QuietTactic
namespace Go.Proofs.Ytpnlhkpibgngbaa
open Go.RowKit

def timesF (a b : T3) : T3 := spannedF b (min (spanL a.i a.o * spanL b.i b.o) 2) (min (spanM a.i a.o * spanM b.i b.o) 2)

set_option maxHeartbeats 400000 in
theorem times_any (i : Int) (s : ByteArray) (o i' : Int) (s' : ByteArray) (o' : Int) (w : World) :
    Calls Try.prog 16 #[.agg #[.int .i64 i, .string s, .int .i64 o], .agg #[.int .i64 i', .string s', .int .i64 o']] w fun e w' =>
      e = .returned (.agg #[.int .i64 (timesF ⟨i, s, o⟩ ⟨i', s', o'⟩).i, .string (timesF ⟨i, s, o⟩ ⟨i', s', o'⟩).n, .int .i64 (timesF ⟨i, s, o⟩ ⟨i', s', o'⟩).o]) ∧ Below w.heap.size w w' := by
  unfold timesF
  simp only
  obtain ⟨p1, p2, p3, p4⟩ := span_bd i o
  obtain ⟨q1, q2, q3, q4⟩ := span_bd i' o'
  have S1 := Lib.hid (span_any i s o)
  have S2 := Lib.hid (span_any i' s' o')
  generalize spanL i o = l at *
  generalize spanM i o = m at *
  generalize spanL i' o' = l' at *
  generalize spanM i' o' = m' at *
  obtain ⟨pl, hpl⟩ : ∃ pl, l * l' = pl := ⟨_, rfl⟩
  obtain ⟨pm, hpm⟩ : ∃ pm, m * m' = pm := ⟨_, rfl⟩
  have b1 : 0 ≤ l * l' ∧ l * l' ≤ 4 := ⟨Int.mul_nonneg p1 q1, by have := Int.mul_le_mul p2 q2 q1 (by omega : (0:Int) ≤ 2); omega⟩
  have b2 : 0 ≤ m * m' ∧ m * m' ≤ 4 := ⟨Int.mul_nonneg p3 q3, by have := Int.mul_le_mul p4 q4 q3 (by omega : (0:Int) ≤ 2); omega⟩
  obtain ⟨b1, b1'⟩ := b1
  obtain ⟨b2, b2'⟩ := b2
  clear hpl hpm
  go_enter Try.func16, Try.ntmps16
  go_wp2_with fail
  refine (S1.out _).mono ?_
  rintro e w1 ⟨rfl, hb1⟩
  obtain ⟨hc1, hf1⟩ := bcell hb1
  have hz1 : w.heap.size < w1.heap.size ∧ w.heap.size + 1 < w1.heap.size ∧ w.heap.size + 1 + 1 < w1.heap.size := by (have := hb1.size; simp at this; omega)
  obtain ⟨lz1, lz1', lz1''⟩ := hz1
  go_wp2_with fail
  refine (S2.out _).mono ?_
  rintro e w2 ⟨rfl, hb2⟩
  obtain ⟨hc2, hf2⟩ := bcell hb2
  have hz2 : w.heap.size < w2.heap.size ∧ w.heap.size + 1 < w2.heap.size ∧ w.heap.size + 1 + 1 < w2.heap.size := by (have := hb2.size; omega)
  obtain ⟨lz2, lz2', lz2''⟩ := hz2
  go_wp2_with fail
  all_goals refine (spanned_any _ _ _ _ _ _).mono ?_
  all_goals rintro e w3 ⟨rfl, hb3⟩
  all_goals obtain ⟨hc3, hf3⟩ := bcell hb3
  all_goals go_wp2_with fail
  all_goals go_light
  all_goals refine bodyPost_ret (v := .agg #[.int .i64 (spannedF ⟨i', s', o'⟩ (min (l * l') 2) (min (m * m') 2)).i, .string (spannedF ⟨i', s', o'⟩ (min (l * l') 2) (min (m * m') 2)).n, .int .i64 (spannedF ⟨i', s', o'⟩ (min (l * l') 2) (min (m * m') 2)).o]) ?_ rfl ⟨rfl, ?_⟩
  all_goals first
    | (have e1 : min (l * l') 2 = l * l' := by omega
       have e2 : min (m * m') 2 = m * m' := by omega
       rw [e1, e2]; simp [results, Try.results16, go_sem, hc1, hc2, hc3, lz1'', lz2'']; done)
    | (have e1 : min (l * l') 2 = l * l' := by omega
       have e2 : min (m * m') 2 = 2 := by omega
       rw [e1, e2]; simp [results, Try.results16, go_sem, hc1, hc2, hc3, lz1'', lz2'']; done)
    | (have e1 : min (l * l') 2 = 2 := by omega
       have e2 : min (m * m') 2 = m * m' := by omega
       rw [e1, e2]; simp [results, Try.results16, go_sem, hc1, hc2, hc3, lz1'', lz2'']; done)
    | (have e1 : min (l * l') 2 = 2 := by omega
       have e2 : min (m * m') 2 = 2 := by omega
       rw [e1, e2]; simp [results, Try.results16, go_sem, hc1, hc2, hc3, lz1'', lz2'']; done)
    | exact ((((((Below.refl w.heap.size w).alloc (Nat.le_refl _) _).alloc (by simp) _).alloc (by simp; omega) _).trans ((hb1.mono (by simp; omega)).trans ((hb2.mono (by omega)).trans (hb3.mono (by omega))))).setCell (by simp; omega) _ |>.setCell (by simp; omega) _).setCell (by simp; omega) _
end Go.Proofs.Ytpnlhkpibgngbaa

/- Sub: what it returns, for every argument. -/
import Derived.Test.YtpnlhkpibgngbaaTyF
namespace Go.Proofs.Ytpnlhkpibgngbaa
open Go.RowKit

def subF (a b : T3) : Bool := decide (spanL b.i b.o ≤ spanL a.i a.o) && decide (spanM a.i a.o ≤ spanM b.i b.o) && (spanM a.i a.o == 0 || liesF a.i a.n b.i b.n)

set_option maxHeartbeats 400000 in
theorem sub_any (i : Int) (s : ByteArray) (o i' : Int) (s' : ByteArray) (o' : Int) (w : World) :
    Calls Try.prog 14 #[.agg #[.int .i64 i, .string s, .int .i64 o], .agg #[.int .i64 i', .string s', .int .i64 o']] w fun e w' =>
      e = .returned (.bool (subF ⟨i, s, o⟩ ⟨i', s', o'⟩)) ∧ Below w.heap.size w w' := by
  unfold subF
  simp only
  generalize hA : spanL i o = l
  generalize hB : spanM i o = m
  generalize hC : spanL i' o' = l'
  generalize hD : spanM i' o' = m'
  have S1 := Lib.hid (span_any i s o)
  have S2 := Lib.hid (span_any i' s' o')
  rw [hA, hB] at S1
  rw [hC, hD] at S2
  clear hA hB hC hD
  cases e1 : decide (l' ≤ l) <;> cases e2 : decide (m ≤ m') <;> cases e3 : (m == 0)
  all_goals go_enter Try.func14, Try.ntmps14
  all_goals go_wp2_with fail
  all_goals refine (S1.out _).mono ?_
  all_goals rintro e w1 ⟨rfl, hb1⟩
  all_goals obtain ⟨hc1, hf1⟩ := bcell hb1
  all_goals have hz1 : w.heap.size < w1.heap.size ∧ w.heap.size + 1 < w1.heap.size := by (have := hb1.size; simp at this; omega)
  all_goals obtain ⟨lz1, lz1'⟩ := hz1
  all_goals go_wp2_with fail
  all_goals refine (S2.out _).mono ?_
  all_goals rintro e w2 ⟨rfl, hb2⟩
  all_goals obtain ⟨hc2, hf2⟩ := bcell hb2
  all_goals go_wp2_with (go_at_call 45; refine (lies_any _ _ _ _ _ _).mono ?_; rintro e w3 ⟨rfl, hb3⟩)
  all_goals go_light
  all_goals go_ret
  all_goals refine ⟨by simp, ?_⟩
  all_goals have k1 := (((Below.refl w.heap.size w).alloc (Nat.le_refl _) (Obj.cells #[Value.int IntKind.i64 i, Value.string s, Value.int IntKind.i64 o] 25)).alloc (by simp) (Obj.cells #[Value.int IntKind.i64 i', Value.string s', Value.int IntKind.i64 o'] 25)).trans ((hb1.mono (by simp; omega)).trans (hb2.mono (by omega)))
  all_goals first | exact k1 | exact k1.trans (hb3.mono (by have := hb2.size; omega))
end Go.Proofs.Ytpnlhkpibgngbaa

/- The reference's Sub: what it returns, for every argument. -/
import Derived.Test.YtpnlhkpibgngbaaTyK
namespace Go.Proofs.Ytpnlhkpibgngbaa
open Go.RowKit

def rsubB (n o s x y z e l : Bool) : Bool := !((n && !x) || (o && !y) || (s && !z)) && (e || l)
def rsubF (a b : T3) : Bool := rsubB (cnt0 a.i a.o) (cnt1 a.i a.o) (cnt2 a.i a.o) (cnt0 b.i b.o) (cnt1 b.i b.o) (cnt2 b.i b.o) (a.i == 0) (rliesF a b)

set_option maxHeartbeats 800000 in
theorem rsub_any (i : Int) (s : ByteArray) (o i' : Int) (s' : ByteArray) (o' : Int) (w : World) :
    Calls Try.prog 15 #[.agg #[.int .i64 i, .string s, .int .i64 o], .agg #[.int .i64 i', .string s', .int .i64 o']] w fun e w' =>
      e = .returned (.bool (rsubF ⟨i, s, o⟩ ⟨i', s', o'⟩)) ∧ Below w.heap.size w w' := by
  unfold rsubF
  simp only
  have S1 := Lib.hid (counts_any i s o)
  have S2 := Lib.hid (counts_any i' s' o')
  have S3 := Lib.hid (rlies_any i s o i' s' o')
  generalize cnt0 i o = bn at *
  generalize cnt1 i o = bo at *
  generalize cnt2 i o = bs at *
  generalize cnt0 i' o' = bx at *
  generalize cnt1 i' o' = bb at *
  generalize cnt2 i' o' = bz at *
  generalize rliesF ⟨i, s, o⟩ ⟨i', s', o'⟩ = bl at *
  cases e1 : (i == 0)
  all_goals go_enter Try.func15, Try.ntmps15
  all_goals go_wp2_with fail
  all_goals refine (S1.out _).mono ?_
  all_goals rintro e w1 ⟨rfl, hb1⟩
  all_goals obtain ⟨hc1, hf1⟩ := bcell hb1
  all_goals have hz1 : w.heap.size < w1.heap.size ∧ w.heap.size + 1 < w1.heap.size := by (have := hb1.size; simp at this; omega)
  all_goals obtain ⟨lz1, lz1'⟩ := hz1
  all_goals go_wp2_with fail
  all_goals refine (S2.out _).mono ?_
  all_goals rintro e w2 ⟨rfl, hb2⟩
  all_goals obtain ⟨hc2, hf2⟩ := bcell hb2
  all_goals clear S1 S2
  all_goals go_wp2_with (go_at_call 46; refine (S3.out _).mono ?_; rintro e w3 ⟨rfl, hb3⟩)
  all_goals go_light
  all_goals go_ret
  all_goals have k1 := (((Below.refl w.heap.size w).alloc (Nat.le_refl _) (Obj.cells #[Value.int IntKind.i64 i, Value.string s, Value.int IntKind.i64 o] 25)).alloc (by simp) (Obj.cells #[Value.int IntKind.i64 i', Value.string s', Value.int IntKind.i64 o'] 25)).trans ((hb1.mono (by simp; omega)).trans (hb2.mono (by omega)))
  all_goals refine ⟨?_, ?_⟩
  all_goals first
    | exact k1
    | exact k1.trans (hb3.mono (by have := hb2.size; omega))
    | (simp_all [rsubB]; done)
    | trace_state
end Go.Proofs.Ytpnlhkpibgngbaa

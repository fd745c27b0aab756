/- The reference's Two at 2: what it returns, for every argument. -/
import Derived.Test.YtpnlhkpibgngbaaTyM0
namespace Go.Proofs.Ytpnlhkpibgngbaa
open Go.RowKit

set_option maxHeartbeats 1600000 in
theorem two2_any (i : Int) (s : ByteArray) (o i' : Int) (s' : ByteArray) (o' : Int) (w : World) :
    Calls Try.prog 13 #[.int .i64 2, .agg #[.int .i64 i, .string s, .int .i64 o], .agg #[.int .i64 i', .string s', .int .i64 o']] w fun e w' =>
      e = .returned (.agg #[.int .i64 (two2 ⟨i, s, o⟩ ⟨i', s', o'⟩).i, .string (two2 ⟨i, s, o⟩ ⟨i', s', o'⟩).n, .int .i64 (two2 ⟨i, s, o⟩ ⟨i', s', o'⟩).o]) ∧ Below w.heap.size w w' := by
  unfold two2
  simp only
  cases e0 : (i == 0)
  case true =>
    simp only [if_true]
    have S1 := Lib.hid (counts_any i s o)
    have S2 := Lib.hid (counts_any i' s' o')
    have S3 := Lib.hid (rleast_any i s o i' s' o')
    generalize cnt0 i o = bn at *
    generalize cnt1 i o = bo at *
    generalize cnt2 i o = bs at *
    generalize cnt0 i' o' = bx at *
    generalize cnt1 i' o' = bb at *
    generalize cnt2 i' o' = bz at *
    generalize rleastF ⟨i, s, o⟩ ⟨i', s', o'⟩ = t at *
    obtain ⟨ti, tn, to⟩ := t
    go_enter Try.func13, Try.ntmps13
    go_wp2_with fail
    refine (S1.out _).mono ?_
    rintro e w1 ⟨rfl, hb1⟩
    obtain ⟨hc1, hf1⟩ := bcell hb1
    have hz1 : w.heap.size < w1.heap.size ∧ w.heap.size + 1 < w1.heap.size ∧ w.heap.size + 1 + 1 < w1.heap.size := by (have := hb1.size; simp at this; omega)
    obtain ⟨lz1, lz1', lz1''⟩ := hz1
    go_wp2_with fail
    refine (S2.out _).mono ?_
    rintro e w2 ⟨rfl, hb2⟩
    obtain ⟨hc2, hf2⟩ := bcell hb2
    have hz2 : w.heap.size < w2.heap.size ∧ w.heap.size + 1 < w2.heap.size ∧ w.heap.size + 1 + 1 < w2.heap.size := by (have := hb2.size; omega)
    obtain ⟨lz2, lz2', lz2''⟩ := hz2
    go_wp2_with fail
    refine (S3.out _).mono ?_
    rintro e w3 ⟨rfl, hb3⟩
    obtain ⟨hc3, hf3⟩ := bcell hb3
    have hz3 : w.heap.size < w3.heap.size ∧ w.heap.size + 1 < w3.heap.size ∧ w.heap.size + 1 + 1 < w3.heap.size := by (have := hb3.size; omega)
    obtain ⟨lz3, lz3', lz3''⟩ := hz3
    have A : Blk w3 (w.heap.size + 1 + 1) #[Value.int IntKind.i64 0, Value.string { data := #[] }, Value.int IntKind.i64 0] 25 := by
      have h := (Blk.new ((w.alloc (Obj.cells #[Value.int IntKind.i64 i, Value.string s, Value.int IntKind.i64 o] 25)).alloc (Obj.cells #[Value.int IntKind.i64 i', Value.string s', Value.int IntKind.i64 o'] 25)) #[Value.int IntKind.i64 0, Value.string { data := #[] }, Value.int IntKind.i64 0] 25)
      simp only [World.size_alloc] at h
      exact ((h.below hb1 (by simp)).below hb2 lz1'').below hb3 lz2''
    have k3 : Below w.heap.size w w3 := ((((Below.refl w.heap.size w).alloc (Nat.le_refl _) (Obj.cells #[Value.int IntKind.i64 i, Value.string s, Value.int IntKind.i64 o] 25)).alloc (by simp) (Obj.cells #[Value.int IntKind.i64 i', Value.string s', Value.int IntKind.i64 o'] 25)).alloc (by simp; omega) (Obj.cells #[Value.int IntKind.i64 0, Value.string { data := #[] }, Value.int IntKind.i64 0] 25)).trans ((hb1.mono (by simp; omega)).trans ((hb2.mono (by omega)).trans (hb3.mono (by omega))))
    have AX : Blk w3 w.heap.size #[Value.int IntKind.i64 i, Value.string s, Value.int IntKind.i64 o] 25 := (((((Blk.new w _ 25).alloc _).alloc _).below hb1 (by simp; omega)).below hb2 lz1).below hb3 lz2
    have AY : Blk w3 (w.heap.size + 1) #[Value.int IntKind.i64 i', Value.string s', Value.int IntKind.i64 o'] 25 := by
      have h := (Blk.new (w.alloc (Obj.cells #[Value.int IntKind.i64 i, Value.string s, Value.int IntKind.i64 o] 25)) #[Value.int IntKind.i64 i', Value.string s', Value.int IntKind.i64 o'] 25)
      simp only [World.size_alloc] at h
      exact (((h.alloc _).below hb1 (by simp)).below hb2 lz1').below hb3 lz2'
    obtain ⟨x0, x1, x2, fx0, fx1, fx2⟩ := AX.three
    obtain ⟨y0, y1, y2, fy0, fy1, fy2⟩ := AY.three
    clear hc1 hf1 hc2 hf2 hc3 hf3 hb1 hb2 hb3 S1 S2 S3
    obtain ⟨a0, a1, a2, fa0, fa1, fa2⟩ := A.three
    go_wp2_with (go_at_call 44; refine (of_any _ _ _ _ _ _ _).mono ?_; rintro e w4 ⟨rfl, hb4⟩; obtain ⟨a0, a1, a2, fa0, fa1, fa2⟩ := ((A.alloc _).below hb4 (by simp; omega)).three)
    all_goals go_light
    all_goals
      refine bodyPost_ret (by simp [results, Try.results13, go_sem, a0, a1, a2]; rfl) rfl ⟨?_, ?_⟩
      · simp [*]
      · exact ((((k3.alloc (by omega) _).trans (hb4.mono (by simp; omega))).setCell (by simp; omega) _).setCell (by simp; omega) _).setCell (by simp; omega) _
  case false =>
    simp only [Bool.false_eq_true, if_false]
    have S1 := Lib.hid (counts_any i s o)
    have S2 := Lib.hid (counts_any i' s' o')
    have S3 := Lib.hid (rleast_any i s o i' s' o')
    generalize cnt0 i o = bn at *
    generalize cnt1 i o = bo at *
    generalize cnt2 i o = bs at *
    generalize cnt0 i' o' = bx at *
    generalize cnt1 i' o' = bb at *
    generalize cnt2 i' o' = bz at *
    generalize rleastF ⟨i, s, o⟩ ⟨i', s', o'⟩ = t at *
    obtain ⟨ti, tn, to⟩ := t
    have HR : Hid (ofF ⟨i', s', o'⟩ (bn || bx) (bo && bb) ((bs && (bb || bz)) || (bz && (bo || bs))) = ofF ⟨i', s', o'⟩ (bn || bx) (bo && bb) ((bs && (bb || bz)) || (bz && (bo || bs)))) := rfl
    go_enter Try.func13, Try.ntmps13
    go_wp2_with fail
    refine (S1.out _).mono ?_
    rintro e w1 ⟨rfl, hb1⟩
    obtain ⟨hc1, hf1⟩ := bcell hb1
    have hz1 : w.heap.size < w1.heap.size ∧ w.heap.size + 1 < w1.heap.size ∧ w.heap.size + 1 + 1 < w1.heap.size := by (have := hb1.size; simp at this; omega)
    obtain ⟨lz1, lz1', lz1''⟩ := hz1
    go_wp2_with fail
    refine (S2.out _).mono ?_
    rintro e w2 ⟨rfl, hb2⟩
    obtain ⟨hc2, hf2⟩ := bcell hb2
    have hz2 : w.heap.size < w2.heap.size ∧ w.heap.size + 1 < w2.heap.size ∧ w.heap.size + 1 + 1 < w2.heap.size := by (have := hb2.size; omega)
    obtain ⟨lz2, lz2', lz2''⟩ := hz2
    go_wp2_with fail
    refine (S3.out _).mono ?_
    rintro e w3 ⟨rfl, hb3⟩
    obtain ⟨hc3, hf3⟩ := bcell hb3
    have hz3 : w.heap.size < w3.heap.size ∧ w.heap.size + 1 < w3.heap.size ∧ w.heap.size + 1 + 1 < w3.heap.size := by (have := hb3.size; omega)
    obtain ⟨lz3, lz3', lz3''⟩ := hz3
    have A : Blk w3 (w.heap.size + 1 + 1) #[Value.int IntKind.i64 0, Value.string { data := #[] }, Value.int IntKind.i64 0] 25 := by
      have h := (Blk.new ((w.alloc (Obj.cells #[Value.int IntKind.i64 i, Value.string s, Value.int IntKind.i64 o] 25)).alloc (Obj.cells #[Value.int IntKind.i64 i', Value.string s', Value.int IntKind.i64 o'] 25)) #[Value.int IntKind.i64 0, Value.string { data := #[] }, Value.int IntKind.i64 0] 25)
      simp only [World.size_alloc] at h
      exact ((h.below hb1 (by simp)).below hb2 lz1'').below hb3 lz2''
    have k3 : Below w.heap.size w w3 := ((((Below.refl w.heap.size w).alloc (Nat.le_refl _) (Obj.cells #[Value.int IntKind.i64 i, Value.string s, Value.int IntKind.i64 o] 25)).alloc (by simp) (Obj.cells #[Value.int IntKind.i64 i', Value.string s', Value.int IntKind.i64 o'] 25)).alloc (by simp; omega) (Obj.cells #[Value.int IntKind.i64 0, Value.string { data := #[] }, Value.int IntKind.i64 0] 25)).trans ((hb1.mono (by simp; omega)).trans ((hb2.mono (by omega)).trans (hb3.mono (by omega))))
    have AX : Blk w3 w.heap.size #[Value.int IntKind.i64 i, Value.string s, Value.int IntKind.i64 o] 25 := (((((Blk.new w _ 25).alloc _).alloc _).below hb1 (by simp; omega)).below hb2 lz1).below hb3 lz2
    have AY : Blk w3 (w.heap.size + 1) #[Value.int IntKind.i64 i', Value.string s', Value.int IntKind.i64 o'] 25 := by
      have h := (Blk.new (w.alloc (Obj.cells #[Value.int IntKind.i64 i, Value.string s, Value.int IntKind.i64 o] 25)) #[Value.int IntKind.i64 i', Value.string s', Value.int IntKind.i64 o'] 25)
      simp only [World.size_alloc] at h
      exact (((h.alloc _).below hb1 (by simp)).below hb2 lz1').below hb3 lz2'
    obtain ⟨x0, x1, x2, fx0, fx1, fx2⟩ := AX.three
    obtain ⟨y0, y1, y2, fy0, fy1, fy2⟩ := AY.three
    clear hc1 hf1 hc2 hf2 hc3 hf3 hb1 hb2 hb3 S1 S2 S3
    obtain ⟨a0, a1, a2, fa0, fa1, fa2⟩ := A.three
    go_wp2_with (go_at_call 44; refine (of_any _ _ _ _ _ _ _).mono ?_; rintro e w4 ⟨rfl, hb4⟩; obtain ⟨a0, a1, a2, fa0, fa1, fa2⟩ := ((A.alloc _).below hb4 (by simp; omega)).three)
    all_goals go_light
    all_goals
      refine bodyPost_ret (by simp [results, Try.results13, go_sem, a0, a1, a2]; rfl) rfl ⟨?_, ?_⟩
      · simp [*]
      · exact ((((k3.alloc (by omega) _).trans (hb4.mono (by simp; omega))).setCell (by simp; omega) _).setCell (by simp; omega) _).setCell (by simp; omega) _
end Go.Proofs.Ytpnlhkpibgngbaa

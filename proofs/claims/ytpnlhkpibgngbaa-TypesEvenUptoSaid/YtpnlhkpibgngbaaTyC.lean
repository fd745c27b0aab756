/- Least: what it returns, for every argument. -/
import Derived.Test.YtpnlhkpibgngbaaTyB
set_option linter.unusedSimpArgs false
set_option linter.unusedVariables false
namespace Go.Proofs.Ytpnlhkpibgngbaa
open Go.RowKit

structure T3 where
  i : Int
  n : ByteArray
  o : Int
deriving DecidableEq

def leastR : Nat → Int → ByteArray → Int → T3 → T3
  | 0, k, s, o, _ => ⟨k, s, o⟩
  | m + 1, k, s, o, b => if liesF b.i b.n k s then ⟨k, s, o⟩ else leastR m (upK k s) ⟨#[]⟩ o b
def leastF (a b : T3) : T3 := if a.i = 0 then b else leastR 6 a.i a.n a.o b

theorem liesR_top (t : ByteArray) (ht : t.toList.isEmpty = true) (m : Nat) : ∀ (k : Int) (s : ByteArray), rank k s < m → liesR m k s 13 t = true := by
  induction m with
  | zero => intro k s h; omega
  | succ m ih =>
    intro k s h
    by_cases hk : k = 13
    · subst hk; simp [liesR, hit, ht]
    · have := rank_up k s (by simpa using hk)
      simp [liesR, ih _ _ (by omega : rank (upK k s) ⟨#[]⟩ < m), hk]
theorem lies_top (k : Int) (s t : ByteArray) (ht : t.toList.isEmpty = true) : liesF k s 13 t = true := by
  simp only [liesF, liesR_top t ht 6 k s (by have := rank_le k s; omega), Bool.or_true]
theorem rank_up' {k : Int} {s : ByteArray} {bk : Int} {bs : ByteArray} (h : liesF bk bs k s = false) : rank (upK k s) ⟨#[]⟩ < rank k s := by
  by_cases hk : k = 13
  · subst hk
    by_cases hs : s.toList.isEmpty
    · simp [lies_top bk bs s hs] at h
    · unfold rank upK; simp [hs]
  · exact rank_up k s (by simpa using hk)
theorem leastR_step {m : Nat} {k : Int} {s : ByteArray} {o : Int} {b : T3} (hm : rank k s < m) : leastR m k s o b = if liesF b.i b.n k s then ⟨k, s, o⟩ else leastR (m - 1) (upK k s) ⟨#[]⟩ o b := by
  cases m with
  | zero => omega
  | succ m => simp [leastR]

set_option maxHeartbeats 400000 in
theorem least_any (i : Int) (s : ByteArray) (o i' : Int) (s' : ByteArray) (o' : Int) (w : World) :
    Calls Try.prog 40 #[.agg #[.int .i64 i, .string s, .int .i64 o], .agg #[.int .i64 i', .string s', .int .i64 o']] w fun e w' =>
      e = .returned (.agg #[.int .i64 (leastF ⟨i, s, o⟩ ⟨i', s', o'⟩).i, .string (leastF ⟨i, s, o⟩ ⟨i', s', o'⟩).n, .int .i64 (leastF ⟨i, s, o⟩ ⟨i', s', o'⟩).o]) ∧ Below w.heap.size w w' := by
  by_cases h0 : i = 0
  · have h0' : (i == 0) = true := by simp [h0]
    go_enter Try.func40, Try.ntmps40
    go_wp2
    go_returns
    refine ⟨by simp [leastF, h0], by go_grown⟩
  · have h0' : (i == 0) = false := by simp [h0]
    have H0 : Hid (leastF ⟨i, s, o⟩ ⟨i', s', o'⟩ = leastR 6 i s o ⟨i', s', o'⟩) := by simp [leastF, h0, Hid]
    go_enter Try.func40, Try.ntmps40
    go_wp2
    go_loopg [] 6 (fun m wr => ∃ (k : Int) (t : ByteArray), Blk wr w.heap.size #[.int .i64 k, .string t, .int .i64 o] 25 ∧ Blk wr (w.heap.size + 1) #[.int .i64 i', .string s', .int .i64 o'] 25 ∧ Blk wr (w.heap.size + 1 + 1) #[.int .i64 0, .string ⟨#[]⟩, .int .i64 0] 25 ∧ Below w.heap.size w wr ∧ rank k t < m ∧ leastF ⟨i, s, o⟩ ⟨i', s', o'⟩ = leastR m k t o ⟨i', s', o'⟩)
    case atStart =>
      refine ⟨i, s, ?_, ?_, ?_, by go_grown, by have := rank_le i s; omega, H0⟩
      · exact ((Blk.new _ _ _).alloc _).alloc _
      · have h := (Blk.new (w.alloc (Obj.cells #[Value.int IntKind.i64 i, Value.string s, Value.int IntKind.i64 o] 25)) #[.int .i64 i', .string s', .int .i64 o'] 25).alloc (Obj.cells #[Value.int IntKind.i64 0, Value.string { data := #[] }, Value.int IntKind.i64 0] 25)
        simpa using h
      · have h := (Blk.new ((w.alloc (Obj.cells #[Value.int IntKind.i64 i, Value.string s, Value.int IntKind.i64 o] 25)).alloc (Obj.cells #[.int .i64 i', .string s', .int .i64 o'] 25)) #[Value.int IntKind.i64 0, Value.string { data := #[] }, Value.int IntKind.i64 0] 25)
        simpa using h
    case round =>
      clear H0
      obtain ⟨k, t, hA, hB, hC, hw, hm, hl⟩ := hrel
      obtain ⟨a0, a1, a2, fa0, fa1, fa2⟩ := hA.three
      obtain ⟨b0, b1, b2, fb0, fb1, fb2⟩ := hB.three
      obtain ⟨c0, c1, c2, fc0, fc1, fc2⟩ := hC.three
      have lC := hC.lt
      have l0 : w.heap.size < wr.heap.size := by omega
      have l1 : w.heap.size + 1 < wr.heap.size := by omega
      have HL := Lib.hid hl
      clear hl
      cases hlie : liesF i' s' k t
      · have hr := rank_up' hlie
        have hs := leastR_step (o := o) (b := ⟨i', s', o'⟩) hm
        simp only [hlie] at hs
        have HS := Lib.hid hs
        clear hs
        go_wp2_with (first
          | (go_at_call 45; refine (lies_any _ _ _ _ _ _).mono ?_; rintro e w1 ⟨rfl, hb⟩; obtain ⟨hc, hf⟩ := bcell hb)
          | (go_at_call 57; refine (up_any _ _ _).mono ?_; rintro e w2 ⟨rfl, rfl⟩))
        go_roundg (gk - 1)
        case measure => omega
        case rel =>
          go_light
          refine ⟨_, _, ((hA.below hb l0).set 0 _).set 1 _, ((hB.below hb l1).other (by simp) _).other (by simp) _, ((hC.below hb lC).other (by simp; omega) _).other (by simp; omega) _, ?_, by omega, by rw [HL.out, HS.out]; simp⟩
          exact ((hw.trans (hb.mono (by omega))).setCell (by simp) _).setCell (by simp) _
      · have hs := leastR_step (o := o) (b := ⟨i', s', o'⟩) hm
        simp only [hlie] at hs
        have HS := Lib.hid hs
        clear hs
        go_wp2_with (go_at_call 45; refine (lies_any _ _ _ _ _ _).mono ?_; rintro e w1 ⟨rfl, hb⟩; obtain ⟨hc, hf⟩ := bcell hb)
        go_light
        refine bodyPost_ret (v := .agg #[.int .i64 k, .string t, .int .i64 o]) (by simp [results, Try.results40, go_sem, hc, hf, c0, c1, c2, lC]) rfl ?_
        refine ⟨by rw [HL.out, HS.out]; simp, ?_⟩
        exact (((hw.trans (hb.mono (by omega))).setCell (by simp; omega) _).setCell (by simp; omega) _).setCell (by simp; omega) _
end Go.Proofs.Ytpnlhkpibgngbaa

/- The reference's Least: what it returns, for every argument. -/
import Derived.Test.YtpnlhkpibgngbaaTyJ
import Derived.Deep.RegionHeld3
import Derived.Lib.QuietBelow
import Derived.BigQuiet
namespace Go.Proofs.Ytpnlhkpibgngbaa
open Go.RowKit Go.Sort

/-- The world in which a piece of code is walked, under a name. -/
theorem wp_world {P : Program} {c : Code} {Q : Exit → Act → World → Prop} {a : Act} {w : World} (h : ∀ W, W = w → c.wp P Q a W) : c.wp P Q a w := h w rfl

/-- Since the world w nothing that was there has turned. -/
def Since (w w' : World) : Prop := Below w.heap.size w w'
theorem since0 (w : World) : Since w w.drew ∧ ∀ b o, b < w.heap.size → w.drew.cell? ⟨b, o, none⟩ = w.cell? ⟨b, o, none⟩ := ⟨(Below.refl _ _).drew, fun _ _ _ => rfl⟩
theorem since1 {w w1 w2 : World} (hb : Below w1.heap.size w1 w2) (h : Since w w1 ∧ ∀ b o, b < w.heap.size → w1.cell? ⟨b, o, none⟩ = w.cell? ⟨b, o, none⟩) : Since w w2 ∧ ∀ b o, b < w.heap.size → w2.cell? ⟨b, o, none⟩ = w.cell? ⟨b, o, none⟩ :=
  have k : Below w.heap.size w w2 := Below.trans h.1 (hb.mono h.1.size)
  ⟨k, (bcell k).1⟩

def candF (a b : T3) : List T3 := [a, b, ⟨a.i, ⟨#[]⟩, 0⟩, ⟨2, ⟨#[]⟩, 0⟩, ⟨6, ⟨#[]⟩, 0⟩, ⟨12, ⟨#[]⟩, 0⟩]
def rleastF (a b : T3) : T3 := if a.i == 0 then b else if b.i == 0 then a else ((candF a b).find? fun x => rliesF a x && rliesF b x).getD ⟨13, ⟨#[]⟩, 0⟩
theorem find_step {α : Type} (p : α → Bool) {xs : List α} {x : α} {j : Nat} (h : xs[j]? = some x) (hn : (xs.take j).find? p = none) : (p x = true → xs.find? p = some x) ∧ (p x = false → (xs.take (j+1)).find? p = none) := by
  constructor
  · intro hp
    have : xs = xs.take j ++ (x :: xs.drop (j+1)) := by
      have hj : j < xs.length := by
        rcases Nat.lt_or_ge j xs.length with h' | h'
        · exact h'
        · simp [List.getElem?_eq_none h'] at h
      have hx : xs[j] = x := by simpa [List.getElem?_eq_getElem hj] using h
      rw [← hx, ← List.drop_eq_getElem_cons hj, List.take_append_drop]
    rw [this, List.find?_append, hn]
    simp [hp]
  · intro hp
    rw [List.take_add_one, h, List.find?_append, hn]
    simp [hp]

set_option maxRecDepth 100000 in
set_option maxHeartbeats 800000 in
theorem rleast_any (i : Int) (s : ByteArray) (o i' : Int) (s' : ByteArray) (o' : Int) (w : World) :
    Calls Try.prog 43 #[.agg #[.int .i64 i, .string s, .int .i64 o], .agg #[.int .i64 i', .string s', .int .i64 o']] w fun e w' =>
      e = .returned (.agg #[.int .i64 (rleastF ⟨i, s, o⟩ ⟨i', s', o'⟩).i, .string (rleastF ⟨i, s, o⟩ ⟨i', s', o'⟩).n, .int .i64 (rleastF ⟨i, s, o⟩ ⟨i', s', o'⟩).o]) ∧ Below w.heap.size w w' := by
  cases e0 : (i == 0)
  case true =>
    go_enter Try.func43, Try.ntmps43
    go_wp2
    go_returns
    exact ⟨by simp [rleastF, e0], by go_grown⟩
  case false =>
  cases e1 : (i' == 0)
  case true =>
    go_enter Try.func43, Try.ntmps43
    go_wp2
    go_returns
    exact ⟨by simp [rleastF, e0, e1], by go_grown⟩
  case false =>
    have HF : Hid (rleastF ⟨i, s, o⟩ ⟨i', s', o'⟩ = ((candF ⟨i, s, o⟩ ⟨i', s', o'⟩).find? fun x => rliesF ⟨i, s, o⟩ x && rliesF ⟨i', s', o'⟩ x).getD ⟨13, ⟨#[]⟩, 0⟩) := by unfold Hid rleastF; simp [e0, e1]
    go_enter Try.func43, Try.ntmps43
    go_wp2_with fail
    refine wp_world ?_
    intro W0 hW0
    have hz : W0.heap.size = w.heap.size + 1 + 1 + 1 + 1 := by rw [hW0]; simp
    have hw0 : Below w.heap.size w W0 := by rw [hW0]; go_grown
    have A0 : W0.cell? ⟨w.heap.size, 0, none⟩ = some (.int .i64 i) := by rw [hW0]; simp [go_sem]
    have A1 : W0.cell? ⟨w.heap.size, 1, none⟩ = some (.string s) := by rw [hW0]; simp [go_sem]
    have A2 : W0.cell? ⟨w.heap.size, 2, none⟩ = some (.int .i64 o) := by rw [hW0]; simp [go_sem]
    have B0 : W0.cell? ⟨w.heap.size + 1, 0, none⟩ = some (.int .i64 i') := by rw [hW0]; simp [go_sem]
    have B1 : W0.cell? ⟨w.heap.size + 1, 1, none⟩ = some (.string s') := by rw [hW0]; simp [go_sem]
    have B2 : W0.cell? ⟨w.heap.size + 1, 2, none⟩ = some (.int .i64 o') := by rw [hW0]; simp [go_sem]
    have C : Blk W0 (w.heap.size + 1 + 1) #[Value.int IntKind.i64 0, Value.string { data := #[] }, Value.int IntKind.i64 0] 25 := by
      rw [hW0]
      have h := (Blk.new ((w.alloc (Obj.cells #[Value.int IntKind.i64 i, Value.string s, Value.int IntKind.i64 o] 25)).alloc (Obj.cells #[Value.int IntKind.i64 i', Value.string s', Value.int IntKind.i64 o'] 25)) #[Value.int IntKind.i64 0, Value.string { data := #[] }, Value.int IntKind.i64 0] 25)
      simp only [World.size_alloc] at h
      exact h.alloc _
    have X : ∀ j x, (candF ⟨i, s, o⟩ ⟨i', s', o'⟩)[j]? = some x → W0.cell? ⟨w.heap.size + 1 + 1 + 1, j * 3, none⟩ = some (.int .i64 x.i) ∧ W0.cell? ⟨w.heap.size + 1 + 1 + 1, j * 3 + 1, none⟩ = some (.string x.n) ∧ W0.cell? ⟨w.heap.size + 1 + 1 + 1, j * 3 + 2, none⟩ = some (.int .i64 x.o) := by
      intro j x hx
      have hj : j < 6 := by
        rcases Nat.lt_or_ge j 6 with h | h
        · exact h
        · simp [candF, h] at hx
      rw [hW0]
      match j, hj with
      | 0, _ | 1, _ | 2, _ | 3, _ | 4, _ | 5, _ =>
        simp [candF] at hx
        subst hx
        refine ⟨?_, ?_, ?_⟩ <;> simp [go_sem]
    clear hW0
    have HX := Lib.hid X
    clear X
    go_loopg [6] 7 (fun m jj wr => ∃ j : Nat, j ≤ 6 ∧ m + j = 7 ∧ jj = .int .i64 j ∧ Below W0.heap.size W0 wr ∧ ((candF ⟨i, s, o⟩ ⟨i', s', o'⟩).take j).find? (fun x => rliesF ⟨i, s, o⟩ x && rliesF ⟨i', s', o'⟩ x) = none)
    case atStart => exact ⟨0, Nat.zero_le _, by omega, rfl, Below.refl _ _, rfl⟩
    case round =>
      obtain ⟨j, hj, hmj, rfl, hw, hn⟩ := hrel
      have HN := Lib.hid hn
      clear hn
      have g0 := hw.cell (p := ⟨w.heap.size, 0, none⟩) (by simp; omega)
      have g1 := hw.cell (p := ⟨w.heap.size, 1, none⟩) (by simp; omega)
      have g2 := hw.cell (p := ⟨w.heap.size, 2, none⟩) (by simp; omega)
      have k0 := hw.cell (p := ⟨w.heap.size + 1, 0, none⟩) (by simp; omega)
      have k1 := hw.cell (p := ⟨w.heap.size + 1, 1, none⟩) (by simp; omega)
      have k2 := hw.cell (p := ⟨w.heap.size + 1, 2, none⟩) (by simp; omega)
      rw [A0] at g0
      rw [A1] at g1
      rw [A2] at g2
      rw [B0] at k0
      rw [B1] at k1
      rw [B2] at k2
      obtain ⟨c0, c1, c2, fc0, fc1, fc2⟩ := (C.below hw (by omega)).three
      have hzr := hw.size
      rw [hz] at hzr
      have lr0 : w.heap.size < wr.heap.size := by omega
      have lr1 : w.heap.size + 1 < wr.heap.size := by omega
      have lr2 : w.heap.size + 1 + 1 < wr.heap.size := by omega
      have lr3 : w.heap.size + 1 + 1 + 1 < wr.heap.size := by omega
      by_cases hlt : j < 6
      · obtain ⟨x, hxx⟩ : ∃ x, (candF ⟨i, s, o⟩ ⟨i', s', o'⟩)[j]? = some x := ⟨(candF ⟨i, s, o⟩ ⟨i', s', o'⟩)[j]'(by simpa [candF] using hlt), by simp⟩
        obtain ⟨h1, h2⟩ := find_step _ hxx HN.out
        obtain ⟨x0, x1, x2⟩ := HX.out j x hxx
        have y0 := hw.cell (p := ⟨w.heap.size + 1 + 1 + 1, j * 3, none⟩) (by simp; omega)
        have y1 := hw.cell (p := ⟨w.heap.size + 1 + 1 + 1, j * 3 + 1, none⟩) (by simp; omega)
        have y2 := hw.cell (p := ⟨w.heap.size + 1 + 1 + 1, j * 3 + 2, none⟩) (by simp; omega)
        rw [x0] at y0
        rw [x1] at y1
        rw [x2] at y2
        have H1 := Lib.hid h1
        have H2 := Lib.hid h2
        clear h1 h2 x0 x1 x2 hxx A0 A1 A2 B0 B1 B2
        obtain ⟨xi, xn, xo⟩ := x
        simp only at y0 y1 y2
        have i0 : (0 : Int) ≤ (j : Int) := Int.natCast_nonneg _
        have i1 : (j : Int) < 6 := by omega
        have CA := Lib.hid (fun W => rlies_any i s o xi xn xo W)
        have CB := Lib.hid (fun W => rlies_any i' s' o' xi xn xo W)
        cases hp : rliesF ⟨i, s, o⟩ ⟨xi, xn, xo⟩ <;> cases hq : rliesF ⟨i', s', o'⟩ ⟨xi, xn, xo⟩
        all_goals rw [hp] at CA
        all_goals rw [hq] at CB
        all_goals go_wp2_with fail
        all_goals have r0 := cell_regrown g0
        all_goals have r1 := cell_regrown g1
        all_goals have r2 := cell_regrown g2
        all_goals have r3 := cell_regrown k0
        all_goals have r4 := cell_regrown k1
        all_goals have r5 := cell_regrown k2
        all_goals have r6 := cell_regrown y0
        all_goals have r7 := cell_regrown y1
        all_goals have r8 := cell_regrown y2
        all_goals refine wp_region_quiet_below (by kernel_rfl) (by kernel_rfl) ?_
        all_goals repeat (go_big_quiet_step ((go_at_call 46; first | (with_reducible exact Calls.regrown_of (CA.out _)) | (with_reducible exact Calls.regrown_of (CB.out _)))))
        all_goals refine wpQuiet_nil ?_
        all_goals intro _ hw'
        all_goals obtain ⟨⟨dq, osq⟩, hw''⟩ := hw'
        all_goals subst hw''
        all_goals have hgq := below_regrown wr dq osq
        all_goals generalize grow (redrawn wr dq) osq = wq at *
        all_goals obtain ⟨hcq, hfq⟩ := bcell hgq
        all_goals have hzq := hgq.size
        all_goals have lq2 : w.heap.size + 1 + 1 < wq.heap.size := by omega
        all_goals clear r0 r1 r2 r3 r4 r5 r6 r7 r8
        all_goals go_wp2_with fail
        all_goals first
          | (go_roundg (gk - 1)
             case measure => omega
             case rel =>
               go_light
               exact ⟨j + 1, by omega, by omega, by go_num, hw.trans (hgq.mono (by have := hw.size; omega)), H2.out (by simp [hp, hq])⟩)
          | skip
        go_light
        refine bodyPost_ret (v := .agg #[.int .i64 xi, .string xn, .int .i64 xo]) (by simp [results, Try.results43, go_sem, hcq, c0, c1, c2, lr2]) rfl ⟨?_, ?_⟩
        · rw [HF.out, H1.out (by simp [hp, hq])]; rfl
        · exact ((((hw0.trans (hw.mono (by omega))).trans (hgq.mono (by omega))).setCell (by simp; omega) _).setCell (by simp; omega) _).setCell (by simp; omega) _
      · have h6 : j = 6 := by omega
        have hfin : rleastF ⟨i, s, o⟩ ⟨i', s', o'⟩ = ⟨13, ⟨#[]⟩, 0⟩ := by
          have hn := HN.out
          rw [h6, List.take_of_length_le (by simp [candF])] at hn
          rw [HF.out, hn]; rfl
        have HFIN := Lib.hid hfin
        clear hfin h6 A0 A1 A2 B0 B1 B2
        go_wp2_with fail
        go_light
        rw [HFIN.out]
        refine bodyPost_ret (v := .agg #[.int .i64 13, .string ⟨#[]⟩, .int .i64 0]) (by simp [results, Try.results43, go_sem, c0, c1, c2]) rfl ⟨rfl, ?_⟩
        exact (((hw0.trans (hw.mono (by omega))).setCell (by simp; omega) _).setCell (by simp; omega) _).setCell (by simp; omega) _
end Go.Proofs.Ytpnlhkpibgngbaa

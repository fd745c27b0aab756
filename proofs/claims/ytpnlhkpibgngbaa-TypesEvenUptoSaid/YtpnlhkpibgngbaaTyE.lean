/- Either: what it returns, for every row of at most 1000 types. -/
import Derived.Test.YtpnlhkpibgngbaaTyD
namespace Go.Proofs.Ytpnlhkpibgngbaa
open Go.RowKit

/-- A row of types in memory: nil, or a block that begins with their cells. -/
def TyRow (w : World) (a : Option Addr) (xs : List T3) : Prop :=
  (a = none ∧ xs = []) ∨ ∃ b, a = some ⟨b, 0, none⟩ ∧ b < w.heap.size ∧ ∀ j x, xs[j]? = some x → w.cell? ⟨b, j * 3, none⟩ = some (.int .i64 x.i) ∧ w.cell? ⟨b, j * 3 + 1, none⟩ = some (.string x.n) ∧ w.cell? ⟨b, j * 3 + 2, none⟩ = some (.int .i64 x.o)

def eitherF (xs : List T3) : T3 := let r := xs.foldl eitherS (⟨0, ⟨#[]⟩, 3⟩, 2, 0); spannedF r.1 r.2.1 r.2.2
def joinF (xs : List T3) : T3 := let r := xs.foldl joinS (⟨0, ⟨#[]⟩, 3⟩, 0, 0); spannedF r.1 r.2.1 r.2.2

set_option maxHeartbeats 400000 in
theorem either_any (a : Option Addr) (n : Nat) (xs : List T3) (w : World) (hx : TyRow w a xs) (hn : xs.length = n) (hm : n ≤ 1000) :
    Calls Try.prog 11 #[.slice a n n] w fun e w' => e = .returned (.agg #[.int .i64 (eitherF xs).i, .string (eitherF xs).n, .int .i64 (eitherF xs).o]) ∧ Below w.heap.size w w' := by
  have HX := Lib.hid hx
  have HN := Lib.hid hn
  clear hx hn
  go_enter Try.func11, Try.ntmps11
  go_wp2_with (go_at_call 38; refine (none_any _).mono ?_; rintro e w1 ⟨rfl, hb⟩; obtain ⟨hc, hf⟩ := bcell hb)
  have lw : w.heap.size < w1.heap.size := by have := hb.size; simp at this; omega
  have hR : Blk w1 w.heap.size #[Value.int IntKind.i64 0, Value.string { data := #[] }, Value.int IntKind.i64 0] 25 := (Blk.new _ _ _).below hb (by simp)
  have hw1 : Below w.heap.size w w1 := (Below.alloc (Below.refl _ _) (Nat.le_refl _) _).trans (hb.mono (by simp))
  go_loopg [4, 5, 13] (n + 1) (fun m lo hi jj wr => ∃ j : Nat, j ≤ n ∧ m + j = n + 1 ∧ jj = .int .i64 j ∧ lo = .int .i64 ((xs.take j).foldl eitherS (⟨0, ⟨#[]⟩, 3⟩, 2, 0)).2.1 ∧ hi = .int .i64 ((xs.take j).foldl eitherS (⟨0, ⟨#[]⟩, 3⟩, 2, 0)).2.2 ∧
    Blk wr w.heap.size #[Value.int IntKind.i64 0, Value.string { data := #[] }, Value.int IntKind.i64 0] 25 ∧
    Blk wr w1.heap.size #[.int .i64 ((xs.take j).foldl eitherS (⟨0, ⟨#[]⟩, 3⟩, 2, 0)).1.i, .string ((xs.take j).foldl eitherS (⟨0, ⟨#[]⟩, 3⟩, 2, 0)).1.n, .int .i64 ((xs.take j).foldl eitherS (⟨0, ⟨#[]⟩, 3⟩, 2, 0)).1.o] 25 ∧ Below w.heap.size w wr)
  case atStart => exact ⟨0, Nat.zero_le _, by omega, rfl, rfl, rfl, hR.alloc _, Blk.new _ _ _, hw1.alloc (by omega) _⟩
  case round =>
    obtain ⟨j, hj, hmj, rfl, rfl, rfl, hA, hB, hw⟩ := hrel
    generalize hacc : (xs.take j).foldl eitherS (⟨0, ⟨#[]⟩, 3⟩, 2, 0) = acc at *
    obtain ⟨⟨ti, tn, tO⟩, lo, hi⟩ := acc
    simp only at hB ⊢
    obtain ⟨a0, a1, a2, fa0, fa1, fa2⟩ := hA.three
    obtain ⟨b0, b1, b2, fb0, fb1, fb2⟩ := hB.three
    have lB := hB.lt
    have l0 : w.heap.size < wr.heap.size := by omega
    have HACC := Lib.hid hacc
    clear hacc
    by_cases hlt : j < n
    · have hxj : j < xs.length := by have := HN.out; omega
      obtain ⟨x, hxx⟩ : ∃ x, xs[j]? = some x := ⟨xs[j], by simp [hxj]⟩
      have hstep : Hid ((xs.take (j+1)).foldl eitherS (⟨0, ⟨#[]⟩, 3⟩, 2, 0) = eitherS (⟨ti, tn, tO⟩, lo, hi) x) := by
        unfold Hid
        rw [List.take_add_one, hxx, List.foldl_append, HACC.out]; rfl
      obtain ⟨xi, xn, xo⟩ := x
      rcases HX.out with ⟨rfl, rfl⟩ | ⟨bx, rfl, lbx, hxc⟩
      · simp at hxj
      obtain ⟨x0, x1, x2⟩ := hxc j _ hxx
      have y0 := hw.cell (p := ⟨bx, j * 3, none⟩) lbx
      have y1 := hw.cell (p := ⟨bx, j * 3 + 1, none⟩) lbx
      have y2 := hw.cell (p := ⟨bx, j * 3 + 2, none⟩) lbx
      rw [x0] at y0
      rw [x1] at y1
      rw [x2] at y2
      clear x0 x1 x2 hxc hxx
      go_wp2_with (first
        | (go_at_call 39; refine (span_any _ _ _ _).mono ?_; rintro e w2 ⟨rfl, hb2⟩; obtain ⟨hc2, hf2⟩ := bcell hb2; have lz2 : w1.heap.size < w2.heap.size := by (have := hb2.size; simp at this; omega))
        | (go_at_call 40; refine (least_any _ _ _ _ _ _ _).mono ?_; rintro e w3 ⟨rfl, hb3⟩; obtain ⟨hc3, hf3⟩ := bcell hb3; have lz3 : w1.heap.size < w2.heap.size ∧ w.heap.size < w2.heap.size := by (constructor <;> omega)))
      all_goals go_roundg (gk - 1)
      all_goals first
        | (case measure => omega)
        | skip
      all_goals go_light
      all_goals
        refine ⟨j + 1, by omega, by omega, by go_num, ?_, ?_, ?_, ?_, ?_⟩
        · rw [hstep.out]; simp only [eitherS]; congr 1; omega
        · rw [hstep.out]; simp only [eitherS]; congr 1; omega
        · exact (((((hA.alloc _).below hb2 (by simp; omega)).below hb3 lz3.2).other (by simp; omega) _).other (by simp; omega) _).other (by simp; omega) _
        · rw [hstep.out]
          exact (((((hB.alloc _).below hb2 (by simp; omega)).below hb3 lz3.1).set 0 _).set 1 _).set 2 _
        · exact (((((hw.alloc (by omega) _).trans (hb2.mono (by simp; omega))).trans (hb3.mono (by omega))).setCell (by simp; omega) _).setCell (by simp; omega) _).setCell (by simp; omega) _
    · go_wp2_with (first
        | (go_at_call 41; refine (spanned_any _ _ _ _ _ _).mono ?_; rintro e w2 ⟨rfl, hb2⟩; obtain ⟨hc2, hf2⟩ := bcell hb2))
      go_light
      have hall : xs.take j = xs := List.take_of_length_le (by have := HN.out; omega)
      have hE : eitherF xs = spannedF ⟨ti, tn, tO⟩ lo hi := by unfold eitherF; rw [← hall, HACC.out]
      rw [hE]
      refine bodyPost_ret (v := .agg #[.int .i64 (spannedF ⟨ti, tn, tO⟩ lo hi).i, .string (spannedF ⟨ti, tn, tO⟩ lo hi).n, .int .i64 (spannedF ⟨ti, tn, tO⟩ lo hi).o]) (by simp [results, Try.results11, go_sem, hc2, a0, a1, a2, l0]) rfl ⟨rfl, ?_⟩
      exact (((hw.trans (hb2.mono (by omega))).setCell (by simp) _).setCell (by simp) _).setCell (by simp) _
end Go.Proofs.Ytpnlhkpibgngbaa

/- The document's examples. -/
import Derived.Test.YtgbghbeolndfiaaGreatDoorWaJ
import Derived.Test.YtgbghbeolndfiaaGreatDoorWaM
import Derived.Test.YtgbghbeolndfiaaGreatDoorWaL
set_option linter.unusedSimpArgs false
set_option linter.unusedVariables false
namespace Go.Proofs.YtgbghbeolndfiaaGreatDoor
open Go.RowKit

theorem awake_parse : parseF [49, 46, 53, 48] = (15, 1, 0) := by decide +kernel
theorem awake_div : divF 1 0 3 0 = (333333333, 9, 0) := by decide +kernel
theorem awake_format : formatF (-5) 1 = [45, 48, 46, 53] := by
  unfold formatF
  have : Lib.decDigits (Int.natAbs (-5)) = [53] := by rw [Lib.decDigits]; rfl
  rw [this]
  decide +kernel
theorem awake_round : roundF (-25) 1 = -2 := by decide +kernel
/-- What the laws ask of the laid variables. -/
structure Laid (m : Int) (w : World) : Prop where
  cell : w.cell? ⟨2, 0, none⟩ = some (.int .i64 m)
  tab : Lib.TabIs Tryz.prog w "internal/strconv.uint64pow10" .u64 Lib.pow10Tab
theorem Laid.on {m : Int} {w w' : World} (h : Laid m w) (hb : Below w.heap.size w w') : Laid m w' := by
  refine ⟨?_, Lib.tabBelow_of_tabIs h.tab _ hb⟩
  have hg : 2 < w.heap.size := by
    rcases Nat.lt_or_ge 2 w.heap.size with h' | h'
    · exact h'
    · have := h.cell; simp [World.cell?, Array.getElem?_eq_none h'] at this
  rw [← h.cell]
  exact hb.cell (p := ⟨2, 0, none⟩) hg
set_option maxHeartbeats 2000000 in
theorem awake_any (m : Int) (w : World) (hL : Laid m w) : Calls Tryz.prog 8 #[] w fun e w' => e = .returned (.bool true) ∧ Below w.heap.size w w' := by
  have r1 : Rt 1 ((0 : Nat) : Int) := ⟨by omega, by omega, by omega, by omega, by omega⟩
  have r3 : Rt 3 ((0 : Nat) : Int) := ⟨by omega, by omega, by omega, by omega, by omega⟩
  have r25 : Rt (-25) ((1 : Nat) : Int) := ⟨by omega, by omega, by omega, by omega, by omega⟩
  have CP := Lib.hid (show Calls Tryz.prog 16 #[.string ⟨#[49, 46, 53, 48]⟩] w fun e w' => e = .returned (.tuple #[.agg #[.int .i64 15, .int .i64 1], .int .i64 0]) ∧ Below w.heap.size w w' from by
    have h := parse_any ⟨#[49, 46, 53, 48]⟩ (by decide) m w hL.cell
    rw [show parseF (⟨#[49, 46, 53, 48]⟩ : ByteArray).data.toList = (15, 1, 0) from awake_parse] at h
    exact h)
  have CD := Lib.hid (show ∀ w, Calls Tryz.prog 26 #[.agg #[.int .i64 1, .int .i64 0], .agg #[.int .i64 3, .int .i64 0]] w fun e w' => e = .returned (.tuple #[.agg #[.int .i64 333333333, .int .i64 9], .int .i64 0]) ∧ Below w.heap.size w w' from fun w => by
    have h := div_any 1 3 0 0 r1 r3 w
    rw [show divF 1 ((0 : Nat) : Int) 3 ((0 : Nat) : Int) = (333333333, 9, 0) from awake_div] at h
    exact h)
  have CF := Lib.hid (show ∀ w', Below w.heap.size w w' → Calls Tryz.prog 18 #[.agg #[.int .i64 (-5), .int .i64 1]] w' fun e w'' => e = .returned (.string ⟨#[45, 48, 46, 53]⟩) ∧ Below w'.heap.size w' w'' from fun w' hb => by
    have h := format_any (-5) 1 (by omega) (by omega) (by omega) w' (hL.on hb).tab
    rw [awake_format] at h
    exact h)
  have CR := Lib.hid (show ∀ w, Calls Tryz.prog 22 #[.agg #[.int .i64 (-25), .int .i64 1]] w fun e w' => e = .returned (.agg #[.int .i64 (-2), .int .i64 0]) ∧ Below w.heap.size w w' from fun w => by
    have h := round_any (-25) 1 r25 w
    rw [show roundF (-25) ((1 : Nat) : Int) = -2 from awake_round] at h
    exact h)
  clear r1 r3 r25
  go_enter Tryz.func8, Tryz.ntmps8
  go_wp2_with (first
    | (go_at_call 16; with_reducible refine CP.out.mono ?_; rintro e w1 ⟨rfl, hb⟩
       have hw1 := hb
       clear hb)
    | (go_at_call 26; with_reducible refine (CD.out _).mono ?_; rintro e w2 ⟨rfl, hb⟩
       have E0 : Blk w2 w1.heap.size #[.int .i64 15, .int .i64 1] 23 := (Blk.here rfl rfl).below hb (by simp)
       have hw2 : Below w.heap.size w w2 := (hw1.alloc hw1.size _).trans (hb.mono (by have := hw1.size; simp; omega))
       have k1 : w1.heap.size < w2.heap.size := E0.lt
       obtain ⟨c00, c01, f00, f01⟩ := E0.two
       clear hb)
    | (go_at_call 18; with_reducible refine (CF.out _ (hw2.alloc hw2.size _)).mono ?_; rintro e w3 ⟨rfl, hb⟩
       have hw3 : Below w.heap.size w w3 := (hw2.alloc hw2.size _).trans (hb.mono (by have := hw2.size; simp; omega))
       clear hb)
    | (go_at_call 22; with_reducible refine (CR.out _).mono ?_; rintro e w4 ⟨rfl, hb⟩
       have hw4 : Below w.heap.size w w4 := hw3.trans (hb.mono hw3.size)
       clear hb))
  exact bodyPost_ret (v := .bool true) (by simp [results, Tryz.results8, go_sem]) rfl ⟨rfl, hw4⟩
end Go.Proofs.YtgbghbeolndfiaaGreatDoor

/- The program's Valid of one text: what it returns. -/
import Derived.Test.YtaoobajokhcimaaGreatDoorShf
import Derived.Test.YtaoobajokhcimaaGreatDoorMgB
import Derived.Lib.LaidU8T
set_option linter.unusedSimpArgs false
set_option linter.unusedVariables false
set_option linter.constructorNameAsVariable false
namespace Go.Proofs.YtaoobajokhcimaaGreatDoor
open Go.RowKit

set_option maxHeartbeats 1000000 in
theorem cxml_any (p : Int) (w : World) : Calls Tryz.prog 106 #[.int .i32 p] w fun e w' => e = .returned (.bool (xmlF p)) ∧ w = w' := by
  have hr : p < 9 ∨ p = 9 ∨ p = 10 ∨ (11 ≤ p ∧ p < 13) ∨ p = 13 ∨ (14 ≤ p ∧ p < 32) ∨ (32 ≤ p ∧ p ≤ 55295) ∨ (55296 ≤ p ∧ p ≤ 57343) ∨ (57344 ≤ p ∧ p ≤ 65533) ∨ (65534 ≤ p ∧ p ≤ 65535) ∨ (65536 ≤ p ∧ p ≤ 1114111) ∨ 1114112 ≤ p := by omega
  rcases hr with h | rfl | rfl | ⟨h, h'⟩ | rfl | ⟨h, h'⟩ | ⟨h, h'⟩ | ⟨h, h'⟩ | ⟨h, h'⟩ | ⟨h, h'⟩ | ⟨h, h'⟩ | h
  all_goals try (have b1 : (p == 9) = false := by rw [beq_eq_false_iff_ne]; omega)
  all_goals try (have b2 : (p == 10) = false := by rw [beq_eq_false_iff_ne]; omega)
  all_goals try (have b3 : (p == 13) = false := by rw [beq_eq_false_iff_ne]; omega)
  all_goals go_enter Tryz.func106, Tryz.ntmps106
  all_goals go_wp2
  all_goals go_light
  all_goals go_ret
  all_goals refine ⟨?_, rfl⟩
  all_goals unfold xmlF
  all_goals first
    | rfl
    | (refine congrArg (fun b => Ending.returned (Value.bool b)) (Eq.symm ?_); simp; omega)
    | (refine congrArg (fun b => Ending.returned (Value.bool b)) ?_; rw [Bool.eq_iff_iff]; simp; omega)
    | (exfalso; simp_all; done)
    | (exfalso; simp_all; omega)
    | trace_state
theorem cbad_any (r : Nat) (w : World) : Calls Tryz.prog 105 #[.int .i32 (r : Int)] w fun e w' => e = .returned (.bool (badR r)) ∧ w = w' := by
  have CX := Lib.hid (fun w => cxml_any (r : Int) w)
  have HB : badR r = !xmlF (r : Int) := rfl
  rw [HB]
  clear HB
  generalize xmlF (r : Int) = b at *
  go_enter Tryz.func105, Tryz.ntmps105
  go_wp2_with (go_at_call 106; with_reducible refine (CX.out _).mono ?_; rintro e w1 ⟨rfl, rfl⟩)
  go_ret
  exact ⟨rfl, rfl⟩
theorem cfun_any (s : ByteArray) (w : World) : Calls Tryz.prog 104 #[.string s, .func (.func 105) #[] #[]] w fun e w' => e = .returned (.bool (decide (0 ≤ Lib.idxFunc badR true s))) ∧ Below w.heap.size w w' :=
  Tryz.strings_ContainsFunc_grows 105 #[] (enters_of Tryz.func105 (by kernel_rfl) rfl) badR s w (fun W x _ _ => (cbad_any x W).mono fun e w' ⟨he, hw⟩ => ⟨he, hw ▸ Below.refl _ _⟩)
abbrev U8T (w : World) : Prop := Lib.Utf8Tabs 2 3 w
theorem cv1_any (s : ByteArray) (hs : s.size ≤ 9223372036854775807) (w : World) (hT : U8T w) : Calls Tryz.prog 102 #[.string s] w fun e w' => e = .returned (.bool (!cvalidF s)) ∧ Below w.heap.size w w' := by
  have CV := Lib.hid (show ∀ w' : World, w' = w → Calls Tryz.prog 103 #[.string s] w' fun e w'' => e = .returned (.bool (Lib.validD s.data.toList)) ∧ Below w'.heap.size w' w'' from fun w' h => by subst h; exact Tryz.utf8_ValidString s w' hs hT)
  have CF := Lib.hid (fun w => cfun_any s w)
  have HC : cvalidF s = (Lib.validD s.data.toList && !decide (0 ≤ Lib.idxFunc badR true s)) := rfl
  rw [HC]
  clear HC hT hs
  generalize decide (0 ≤ Lib.idxFunc badR true s) = f at *
  generalize Lib.validD s.data.toList = v at *
  cases v
  · go_enter Tryz.func102, Tryz.ntmps102
    go_wp2_with (go_at_call 103; with_reducible refine (CV.out _ rfl).mono ?_; rintro e w1 ⟨rfl, hb⟩)
    go_ret
    exact ⟨rfl, hb⟩
  · go_enter Tryz.func102, Tryz.ntmps102
    go_wp2_with (first
      | (go_at_call 103; with_reducible refine (CV.out _ rfl).mono ?_; rintro e w1 ⟨rfl, hb⟩)
      | (go_at_call 104; with_reducible refine (CF.out _).mono ?_; rintro e w2 ⟨rfl, hb2⟩))
    go_ret
    refine ⟨?_, hb.trans (hb2.mono hb.size)⟩
    cases f <;> rfl
theorem cidx_one (s : ByteArray) (hs : s.size ≤ 9223372036854775807) (w : World) (hT : U8T w) (b : Nat) (hc : w.cell? ⟨b, 0, none⟩ = some (.string s)) : Calls Tryz.prog 134 #[.slice (some ⟨b, 0, none⟩) 1 1, .func (.func 102) #[] #[]] w fun e w' => e = .returned (.int .i64 (if cvalidF s then -1 else 0)) ∧ Below w.heap.size w w' := by
  have CV := Lib.hid (cv1_any s hs w hT)
  clear hT hs
  generalize cvalidF s = f at *
  cases f
  · go_enter Tryz.func134, Tryz.ntmps134
    go_wp2
    go_loopg [5, 8] 2 (fun m u v wr => v = .int .i64 0 ∧ m = 2 ∧ w = wr)
    case atStart => exact ⟨rfl, rfl, rfl⟩
    case round =>
      obtain ⟨rfl, rfl, rfl⟩ := hrel
      go_wp2_with (go_at_call 102; with_reducible refine (CV.out).mono ?_; rintro e w1 ⟨rfl, hb⟩)
      go_ret
      exact ⟨rfl, hb⟩
  · go_enter Tryz.func134, Tryz.ntmps134
    go_wp2
    go_loopg [5, 8] 2 (fun m u v wr => (v = .int .i64 0 ∧ m = 2 ∧ w = wr) ∨ (v = .int .i64 1 ∧ m = 1 ∧ Below w.heap.size w wr))
    case atStart => exact .inl ⟨rfl, rfl, rfl⟩
    case round =>
      rcases hrel with ⟨rfl, rfl, rfl⟩ | ⟨rfl, rfl, hb⟩
      · go_wp2_with (go_at_call 102; with_reducible refine (CV.out).mono ?_; rintro e w1 ⟨rfl, hb⟩)
        go_roundg 1
        case measure => omega
        case rel => exact .inr ⟨rfl, rfl, hb⟩
      · go_wp2
        go_ret
        exact ⟨rfl, hb⟩
theorem ccon_one (s : ByteArray) (hs : s.size ≤ 9223372036854775807) (w : World) (hT : U8T w) (b : Nat) (hc : w.cell? ⟨b, 0, none⟩ = some (.string s)) : Calls Tryz.prog 101 #[.slice (some ⟨b, 0, none⟩) 1 1, .func (.func 102) #[] #[]] w fun e w' => e = .returned (.bool (!cvalidF s)) ∧ Below w.heap.size w w' := by
  have CI := Lib.hid (cidx_one s hs w hT b hc)
  clear hc hT hs
  generalize cvalidF s = f at *
  cases f
  all_goals
    go_enter Tryz.func101, Tryz.ntmps101
    go_wp2_with (go_at_call 134; with_reducible refine (CI.out).mono ?_; rintro e w1 ⟨rfl, hb⟩)
    go_ret
    exact ⟨rfl, hb⟩
theorem cvalid_one (s : ByteArray) (hs : s.size ≤ 9223372036854775807) (w : World) (hT : U8T w) (b : Nat) (hc : w.cell? ⟨b, 0, none⟩ = some (.string s)) : Calls Tryz.prog 80 #[.slice (some ⟨b, 0, none⟩) 1 1] w fun e w' => e = .returned (.bool (validF s)) ∧ Below w.heap.size w w' := by
  have CI := Lib.hid (ccon_one s hs w hT b hc)
  rw [← cvalid_valid]
  clear hc hT hs
  generalize cvalidF s = f at *
  go_enter Tryz.func80, Tryz.ntmps80
  go_wp2_with (go_at_call 101; with_reducible refine (CI.out).mono ?_; rintro e w1 ⟨rfl, hb⟩)
  go_ret
  exact ⟨by cases f <;> rfl, hb⟩
end Go.Proofs.YtaoobajokhcimaaGreatDoor

/- Numbers of 128 bits: what one fits to. -/
import Derived.Test.YtfagfkfcokmclaaGreatDoorZWaD
import Derived.Deep.Cut
import Derived.Deep.CutRange
import Derived.Deep.CutBlock
set_option linter.unusedSimpArgs false
set_option linter.unusedVariables false
namespace Go.Proofs.YtfagfkfcokmclaaGreatDoor
open Go.RowKit

structure Ft (S : Nat) (n : Bool) (m : Nat) (w wr : World) : Prop where
  b0 : Blk wr S #[.bool n, .int .u64 ((hiN m : Nat) : Int), .int .u64 ((loN m : Nat) : Int)] 170
  b1 : Blk wr (S + 1) #[.int .i64 0, .int .i64 0] 106
  hb : Below S w wr

set_option maxHeartbeats 600000 in
theorem fit_any (n1 : Bool) (m s : Nat) (hm : m < 340282366920938463463374607431768211456) (hs : s ≤ 18) (w : World) :
    Calls Tryz.prog 134 #[.agg #[.bool n1, .int .u64 ((hiN m : Nat) : Int), .int .u64 ((loN m : Nat) : Int)], .int .i64 (s : Int)] w fun e w' =>
      e = .returned (.tuple #[.agg #[.int .i64 (fitW n1 m s).1, .int .i64 (fitW n1 m s).2.1], .int .i64 (fitW n1 m s).2.2]) ∧ Below w.heap.size w w' := by
  go_enter Tryz.func134, Tryz.ntmps134
  go_wp2_with fail
  go_loopg [1] (s + 1) (fun g v wr => ∃ k : Nat, k + 9 ≤ max s 9 ∧ g + k = s + 1 ∧ v = .int .i64 ((s : Int) - (k : Int)) ∧ Ft w.heap.size n1 (m / 10 ^ k) w wr)
  case atStart =>
    refine ⟨0, by omega, by omega, by go_num, ?_⟩
    rw [Nat.pow_zero, Nat.div_one]
    exact ⟨Blk.alloc (Blk.here rfl rfl) _, Blk.here rfl (by simp), by go_grown⟩
  case round =>
    obtain ⟨k, hk, hgk, rfl, hR⟩ := hrel
    obtain ⟨C0, C1, hw⟩ := hR
    have l0 := C0.lt
    have l1 := C1.lt
    have hmk : m / 10 ^ k ≤ m := Nat.div_le_self _ _
    by_cases hlt : 9 < s - k
    · have f1 : decide ((9 : Int) < (s : Int) - (k : Int)) = true := by simp; omega
      obtain ⟨c00, c01, c02, f00, f01, f02⟩ := C0.three
      go_wp2_with (go_at_call 182; refine (small_any n1 (m / 10 ^ k) (by omega) _).mono ?_; rintro e w1 ⟨rfl, hb⟩
                   have E0 := C0.below hb l0
                   have E1 := C1.below hb l1
                   have hw' := hw.trans (hb.mono (Nat.le_of_lt l0))
                   obtain ⟨d00, d01, d02, e00, e01, e02⟩ := E0.three)
      go_roundg (gk - 1)
      case measure => omega
      case rel =>
        refine ⟨k + 1, by omega, by omega, by go_num, ?_⟩
        rw [Nat.pow_succ, ← Nat.div_div_eq_div_mul]
        exact ⟨((E0.set 0 _).set 1 _).set 2 _, ((E1.other (by simp) _).other (by simp) _).other (by simp) _, ((hw'.setCell (by simp) _).setCell (by simp) _).setCell (by simp) _⟩
    · have f1 : decide ((9 : Int) < (s : Int) - (k : Int)) = false := by simp; omega
      have ek : k = s - 9 := by omega
      have es : (s : Int) - (k : Int) = ((min s 9 : Nat) : Int) := by omega
      rw [es] at f1 ⊢
      subst ek
      obtain ⟨M, hM⟩ : ∃ M, M = m / 10 ^ (s - 9) := ⟨_, rfl⟩
      obtain ⟨K0, hK⟩ : ∃ K0, K0 = min s 9 := ⟨_, rfl⟩
      rw [← hM] at C0 hmk
      rw [← hK] at f1 ⊢
      have hfw : fitW n1 m s = if decide (999999999999999999 < (normN M K0).1) then (0, 0, 53) else if (normN M K0).1 == 0 then (0, 0, 0) else (sgn n1 (normN M K0).1, ((normN M K0).2 : Int), 0) := by
        unfold fitW
        rw [← hM, ← hK]
      have HFW := Lib.hid hfw
      have bK : K0 ≤ 9 := by omega
      have bM : M < 340282366920938463463374607431768211456 := by omega
      clear hfw hM hK hm hmk es hk hgk hlt hs
      go_upto_block 2 with fail
      go_cut [1, 6, 7] from 18 to 29 (fun v v6 v7 wx => ∃ m1 s1 : Nat, v = .int .i64 (s1 : Int) ∧ normN M K0 = (m1, s1) ∧ m1 ≤ M ∧ Ft w.heap.size n1 m1 w wx)
      case first =>
        go_wp2_with fail
        go_loopg [1, 6, 7] (K0 + 1) (fun g v v6 v7 wr => ∃ m1 s1 : Nat, v = .int .i64 (s1 : Int) ∧ g = s1 + 1 ∧ s1 ≤ 9 ∧ normN M K0 = normN m1 s1 ∧ m1 ≤ M ∧ Ft w.heap.size n1 m1 w wr)
        case atStart => exact ⟨M, K0, rfl, rfl, bK, rfl, Nat.le_refl _, C0, C1, hw⟩
        case round =>
          clear C0 C1 hw l0 l1 f1
          obtain ⟨m1, s1, rfl, hg, hs9, hn, hle, C0, C1, hw⟩ := hrel
          have l0 := C0.lt
          have l1 := C1.lt
          cases s1 with
          | zero =>
            go_wp2_with fail
            go_meet
            exact ⟨m1, 0, rfl, hn, hle, C0, C1, hw⟩
          | succ t =>
            have f1 : decide ((0 : Int) < ((t + 1 : Nat) : Int)) = true := by simp
            obtain ⟨c00, c01, c02, f00, f01, f02⟩ := C0.three
            cases er : (m1 % 10 == 0)
            · have er' : (((m1 : Nat) : Int) % 10 != 0) = true := by simp at er ⊢; omega
              go_wp2_with (go_at_call 182; refine (small_any n1 m1 (by omega) _).mono ?_; rintro e w1 ⟨rfl, hb⟩
                           have E0 := C0.below hb l0
                           have E1 := C1.below hb l1
                           have hw' := hw.trans (hb.mono (Nat.le_of_lt l0))
                           obtain ⟨d00, d01, d02, e00, e01, e02⟩ := E0.three)
              go_meet
              refine ⟨m1, t + 1, rfl, ?_, hle, E0.alloc _, E1.alloc _, hw'.alloc hw'.size _⟩
              rw [hn, normN, er]
              rfl
            · have er' : (((m1 : Nat) : Int) % 10 != 0) = false := by simp at er ⊢; omega
              go_wp2_with (go_at_call 182; refine (small_any n1 m1 (by omega) _).mono ?_; rintro e w1 ⟨rfl, hb⟩
                           have E0 := C0.below hb l0
                           have E1 := C1.below hb l1
                           have hw' := hw.trans (hb.mono (Nat.le_of_lt l0))
                           have l2 := E0.lt
                           obtain ⟨d00, d01, d02, e00, e01, e02⟩ := E0.three)
              go_roundg (gk - 1)
              case measure => omega
              case rel =>
                refine ⟨m1 / 10, t, by go_num, by omega, by omega, ?_, by omega, (((E0.set 0 _).set 1 _).set 2 _).alloc _, (((E1.other (by simp) _).other (by simp) _).other (by simp) _).alloc _, (((hw'.setCell (by simp) _).setCell (by simp) _).setCell (by simp) _).alloc (by simp; exact hw'.size) _⟩
                rw [hn, normN, er]
                rfl
      case rest =>
        obtain ⟨m1, s1, rfl, hn, hle, hF⟩ := hcut
        obtain ⟨D0, D1, hw'⟩ := hF
        have hl := hilo m1
        have hlo := lo_lt m1
        have k0 := D0.lt
        have k1 := D1.lt
        have hfit := HFW.out
        rw [hn] at hfit
        clear C0 C1 hw l0 l1 f1 HFW hn
        obtain ⟨c00, c01, c02, f00, f01, f02⟩ := D0.three
        obtain ⟨c10, c11, f10, f11⟩ := D1.two
        cases e0 : decide (999999999999999999 < m1)
        · simp at e0
          have g1 : (((hiN m1 : Nat) : Int) != 0) = false := by simp; omega
          have g2 : decide ((999999999999999999 : Int) < ((loN m1 : Nat) : Int)) = false := by simp; omega
          have g4 : IntKind.i64.wrap ((loN m1 : Nat) : Int) = (m1 : Int) := by rw [IntKind.wrap_i64]; omega
          have g5 : IntKind.i64.wrap (-((m1 : Nat) : Int)) = -(m1 : Int) := by rw [IntKind.wrap_i64]; omega
          rw [decide_eq_false (show ¬ 999999999999999999 < (m1, s1).1 by simp; omega)] at hfit
          cases ez : (m1 == 0)
          · rw [if_neg (by simp), if_neg (by simpa using ez)] at hfit
            have HFIT := Lib.hid hfit
            clear hfit
            cases n1
            · go_wp2_with (go_at_call 139; refine (nought_any false m1 _).mono ?_; rintro e w2 ⟨rfl, rfl⟩; rw [ez]; simp only [wb])
              refine bodyPost_ret (v := .tuple #[.agg #[.int .i64 ((m1 : Int)), .int .i64 (s1 : Int)], .int .i64 0]) (by simp [results, Tryz.results134, go_sem, c10, c11, k1]) rfl ⟨by rw [HFIT.out]; rfl, ?_⟩
              go_grown
              all_goals first | exact hw' | (have := hw'.size; simp; omega)
            · go_wp2_with (go_at_call 139; refine (nought_any true m1 _).mono ?_; rintro e w2 ⟨rfl, rfl⟩; rw [ez]; simp only [wb])
              refine bodyPost_ret (v := .tuple #[.agg #[.int .i64 (-(m1 : Int)), .int .i64 (s1 : Int)], .int .i64 0]) (by simp [results, Tryz.results134, go_sem, c10, c11, k1]) rfl ⟨by rw [HFIT.out]; rfl, ?_⟩
              go_grown
              all_goals first | exact hw' | (have := hw'.size; simp; omega)
          · rw [if_neg (by simp), if_pos (by simpa using ez)] at hfit
            have HFIT := Lib.hid hfit
            clear hfit
            go_wp2_with (go_at_call 139; refine (nought_any n1 m1 _).mono ?_; rintro e w2 ⟨rfl, rfl⟩; rw [ez]; simp only [wb])
            refine bodyPost_ret (v := .tuple #[.agg #[.int .i64 0, .int .i64 0], .int .i64 0]) (by simp [results, Tryz.results134, go_sem, c10, c11, k1]) rfl ⟨by rw [HFIT.out], ?_⟩
            go_grown
            all_goals first | exact hw' | (have := hw'.size; simp; omega)
        · simp at e0
          rw [decide_eq_true (show 999999999999999999 < (m1, s1).1 by simpa using e0), if_pos rfl] at hfit
          have HFIT := Lib.hid hfit
          clear hfit
          by_cases hz : hiN m1 = 0
          · have g1 : (((hiN m1 : Nat) : Int) != 0) = false := by simp; omega
            have g2 : decide ((999999999999999999 : Int) < ((loN m1 : Nat) : Int)) = true := by simp; omega
            go_wp2_with fail
            refine bodyPost_ret (v := .tuple #[.agg #[.int .i64 0, .int .i64 0], .int .i64 53]) (by simp [results, Tryz.results134, go_sem, c10, c11]) rfl ⟨by rw [HFIT.out], ?_⟩
            go_grown
            all_goals first | exact hw' | (have := hw'.size; simp; omega)
          · have g1 : (((hiN m1 : Nat) : Int) != 0) = true := by simp; omega
            go_wp2_with fail
            refine bodyPost_ret (v := .tuple #[.agg #[.int .i64 0, .int .i64 0], .int .i64 53]) (by simp [results, Tryz.results134, go_sem, c10, c11]) rfl ⟨by rw [HFIT.out], ?_⟩
            go_grown
            all_goals first | exact hw' | (have := hw'.size; simp; omega)
end Go.Proofs.YtfagfkfcokmclaaGreatDoor

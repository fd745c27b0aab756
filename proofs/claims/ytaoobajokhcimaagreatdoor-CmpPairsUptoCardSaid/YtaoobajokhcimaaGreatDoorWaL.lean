/- Writing a number. -/
import Derived.Test.YtaoobajokhcimaaGreatDoorWaK
import Derived.Test.YtaoobajokhcimaaGreatDoorMgA
import Derived.Lib.AppendIntMem
import Derived.BigQuiet
set_option linter.unusedSimpArgs false
set_option linter.unusedVariables false
namespace Go.Proofs.YtaoobajokhcimaaGreatDoor
open Go.RowKit

theorem ba_drop (a : List UInt8) (k n : Nat) (h : n = a.length) : (⟨a.toArray⟩ : ByteArray).extract k n = ⟨(a.drop k).toArray⟩ := by
  have h : ((⟨a.toArray⟩ : ByteArray).extract k n).data = (a.drop k).toArray := by subst h; simp [List.take_of_length_le]
  cases hh : ((⟨a.toArray⟩ : ByteArray).extract k n)
  rw [hh] at h
  simp only at h
  rw [h]
theorem decDigits_le : ∀ (k m : Nat), m < 10 ^ (k + 1) → 1 ≤ (Lib.decDigits m).length ∧ (Lib.decDigits m).length ≤ k + 1
  | 0, m, h => by
    rw [Lib.decDigits, dif_pos (by simpa using h)]
    simp
  | k + 1, m, h => by
    rw [Lib.decDigits]
    split
    · simp
    · have := decDigits_le k (m / 10) (by rw [Nat.pow_succ] at h; omega)
      simp only [List.length_append, List.length_cons, List.length_nil]
      omega
theorem decDigits_len (m : Nat) (h : m < 10000000000000000000) : 1 ≤ (Lib.decDigits m).length ∧ (Lib.decDigits m).length ≤ 20 :=
  decDigits_le 19 m (by omega)
set_option maxHeartbeats 4000000 in
theorem format_any (n : Int) (s : Nat) (h0 : -9223372036854775808 ≤ n) (h1 : n ≤ 9223372036854775807) (hs : s ≤ 9) (w : World) (htab : Lib.TabIs Tryz.prog w "internal/strconv.uint64pow10" .u64 Lib.pow10Tab) : Calls Tryz.prog 51 #[.agg #[.int .i64 n, .int .i64 (s : Int)]] w fun e w' =>
    e = .returned (.string ⟨(formatF n s).toArray⟩) ∧ Below w.heap.size w w' := by
  have CI := Lib.hid (fun o => Tryz.strconv_Itoa n h0 h1 (w.alloc o) (Lib.tabBelow_of_tabIs htab _ (Below.alloc (Below.refl w.heap.size w) (Nat.le_refl _) o)))
  have hl := decDigits_len n.natAbs (by omega)
  by_cases hn : n < 0
  · have hi : Lib.itoa n = 45 :: Lib.decDigits n.natAbs := by unfold Lib.itoa; rw [if_pos hn]
    have hf : formatF n s = [45] ++ (if s = 0 then Lib.decDigits n.natAbs else (padS (Lib.decDigits n.natAbs) s).take ((padS (Lib.decDigits n.natAbs) s).length - s) ++ [46] ++ (padS (Lib.decDigits n.natAbs) s).drop ((padS (Lib.decDigits n.natAbs) s).length - s)) := by unfold formatF; rw [if_pos hn]
    rw [hi] at CI
    have HF := Lib.hid hf
    clear hf hi
    generalize Lib.decDigits n.natAbs = D at *
    have eX : (⟨(45 :: D).toArray⟩ : ByteArray).extract 1 (D.length + 1) = ⟨D.toArray⟩ := ba_drop (45 :: D) 1 _ rfl
    rcases Nat.eq_zero_or_pos s with e0 | e0
    · subst e0
      have eA : (⟨#[45]⟩ : ByteArray) ++ ⟨D.toArray⟩ = ⟨(formatF n 0).toArray⟩ := by rw [HF.out, if_pos rfl]; exact ba_app [45] D
      go_enter Tryz.func51, Tryz.ntmps51
      go_wp2_with (first
        | (go_at_call 50
           refine (CI.out _).mono ?_
           rintro e w1 ⟨rfl, kk, os, hw1⟩
           have hb : Below (w.heap.size + 1) (w.alloc _) w1 := hw1 ▸ Lib.below_grow _ _ (by simp) kk os
           have C1 : Blk w1 w.heap.size #[.int .i64 n, .int .i64 0] 31 := Blk.below (show Blk (w.alloc _) _ _ _ from Blk.here rfl rfl) hb (by simp)
           have hw := Below.trans (show Below w.heap.size w (w.alloc _) by go_grown) (hb.mono (by simp))
           obtain ⟨c0, c1, f0, f1⟩ := C1.two
           clear hw1 hb))
      go_quiet (fail)
      go_wp2_with fail
      refine bodyPost_ret (v := .string ⟨(formatF n 0).toArray⟩) (by simp [results, Tryz.results51, go_sem]) rfl ⟨rfl, ?_⟩
      go_grown
      all_goals first | exact hw | exact below_drewN hw _ | exact hw.size
    · have s1 : ¬ (s : Int) ≤ 0 := by omega
      have s2 : ¬ (9 : Int) < (s : Int) := by omega
      by_cases hp : D.length ≤ s
      · have p1 : decide ((D.length : Int) ≤ (s : Int)) = true := by simp; omega
        have s3 : IntKind.i64.wrap ((s : Int) + 1) = (s : Int) + 1 := IntWalk.i64_in _ (by omega)
        have s4 : IntKind.i64.wrap ((s : Int) + 1 - (D.length : Int)) = ((s + 1 - D.length : Nat) : Int) := by rw [IntWalk.i64_in _ (by omega)]; omega
        have CR := Lib.hid (fun w => Tryz.strings_Repeat ⟨#[48]⟩ (s + 1 - D.length) w (by omega) (by show 1 * _ ≤ _; omega))
        have hz : Lib.repeatL [48] (s + 1 - D.length) = List.replicate (s + 1 - D.length) 48 := repeat_one _
        have lZ : (Lib.repeatL [48] (s + 1 - D.length)).length = s + 1 - D.length := by rw [hz, List.length_replicate]
        have hT : padS D s = Lib.repeatL [48] (s + 1 - D.length) ++ D := by unfold padS; rw [if_pos hp]
        have CR2 := Lib.hid (show ∀ w, Calls Tryz.prog 82 #[.string ⟨#[48]⟩, .int .i64 (s + 1 - D.length : Nat)] w fun e w' => e = .returned (.string ⟨(Lib.repeatL [48] (s + 1 - D.length)).toArray⟩) ∧ Below w.heap.size w w' from fun w => CR.out w)
        clear CR hz
        generalize Lib.repeatL [48] (s + 1 - D.length) = Z at *
        obtain ⟨T, hT2⟩ : ∃ T, T = Z ++ D := ⟨_, rfl⟩
        have eZ : (⟨Z.toArray⟩ : ByteArray) ++ ⟨D.toArray⟩ = ⟨T.toArray⟩ := by rw [hT2]; exact ba_app Z D
        have lT : s < T.length ∧ T.length ≤ 20 := by rw [hT2, List.length_append]; omega
        rw [← hT2] at hT
        clear hT2
        have q1 : IntKind.i64.wrap ((T.length : Int) - (s : Int)) = ((T.length - s : Nat) : Int) := by rw [IntWalk.i64_in _ (by omega)]; omega
        obtain ⟨U, hU⟩ : ∃ U, U = T.take (T.length - s) := ⟨_, rfl⟩
        obtain ⟨V, hV⟩ : ∃ V, V = T.drop (T.length - s) := ⟨_, rfl⟩
        have eU : (⟨T.toArray⟩ : ByteArray).extract 0 (T.length - s) = ⟨U.toArray⟩ := by rw [hU]; exact ba_take _ _
        have eV : (⟨T.toArray⟩ : ByteArray).extract (T.length - s) T.length = ⟨V.toArray⟩ := by rw [hV]; exact ba_drop _ _ _ rfl
        have lU : U.length ≤ 20 := by rw [hU, List.length_take]; omega
        have lV : V.length ≤ 20 := by rw [hV, List.length_drop]; omega
        obtain ⟨A1, hA1⟩ : ∃ A1, A1 = [45] ++ U := ⟨_, rfl⟩
        obtain ⟨A2, hA2⟩ : ∃ A2, A2 = A1 ++ [46] := ⟨_, rfl⟩
        have eA1 : (⟨#[45]⟩ : ByteArray) ++ ⟨U.toArray⟩ = ⟨A1.toArray⟩ := by rw [hA1]; exact ba_app [45] U
        have eA2 : (⟨A1.toArray⟩ : ByteArray) ++ ⟨#[46]⟩ = ⟨A2.toArray⟩ := by rw [hA2]; exact ba_app A1 [46]
        have lA1 : A1.length ≤ 21 := by rw [hA1, List.length_append]; simp; omega
        have lA2 : A2.length ≤ 22 := by rw [hA2, List.length_append]; simp; omega
        have eA3 : (⟨A2.toArray⟩ : ByteArray) ++ ⟨V.toArray⟩ = ⟨(formatF n s).toArray⟩ := by rw [HF.out, if_neg (by omega), hT, ← hU, ← hV, ba_app, hA2, hA1]; simp [List.append_assoc]
        clear hU hV hA1 hA2
        go_enter Tryz.func51, Tryz.ntmps51
        go_wp2_with (first
          | (go_at_call 50
             refine (CI.out _).mono ?_
             rintro e w1 ⟨rfl, kk, os, hw1⟩
             have hb : Below (w.heap.size + 1) (w.alloc _) w1 := hw1 ▸ Lib.below_grow _ _ (by simp) kk os
             have C1 : Blk w1 w.heap.size #[.int .i64 n, .int .i64 (s : Int)] 31 := Blk.below (show Blk (w.alloc _) _ _ _ from Blk.here rfl rfl) hb (by simp)
             have hw := Below.trans (show Below w.heap.size w (w.alloc _) by go_grown) (hb.mono (by simp))
             obtain ⟨c0, c1, f0, f1⟩ := C1.two
             clear hw1 hb)
          | (go_at_call 82
             refine (CR2.out _).mono ?_
             rintro e w2 ⟨rfl, hb⟩
             have D1 := C1.below hb C1.lt
             have hw2 := hw.trans (hb.mono hw.size)
             clear c0 c1 f0 f1
             obtain ⟨c0, c1, f0, f1⟩ := D1.two
             clear hb))
        go_quiet (fail)
        replace C1 := (show Blk (w1.drewN nq) _ _ _ from C1)
        replace hw := below_drewN hw nq
        go_wp2_with (first
          | (go_at_call 50
             refine (CI.out _).mono ?_
             rintro e w1 ⟨rfl, kk, os, hw1⟩
             have hb : Below (w.heap.size + 1) (w.alloc _) w1 := hw1 ▸ Lib.below_grow _ _ (by simp) kk os
             have C1 : Blk w1 w.heap.size #[.int .i64 n, .int .i64 (s : Int)] 31 := Blk.below (show Blk (w.alloc _) _ _ _ from Blk.here rfl rfl) hb (by simp)
             have hw := Below.trans (show Below w.heap.size w (w.alloc _) by go_grown) (hb.mono (by simp))
             obtain ⟨c0, c1, f0, f1⟩ := C1.two
             clear hw1 hb)
          | (go_at_call 82
             refine (CR2.out _).mono ?_
             rintro e w2 ⟨rfl, hb⟩
             have D1 := C1.below hb C1.lt
             have hw2 := hw.trans (hb.mono hw.size)
             clear c0 c1 f0 f1
             obtain ⟨c0, c1, f0, f1⟩ := D1.two
             clear hb))
        go_quiet (fail)
        go_wp2_with fail
        refine bodyPost_ret (v := .string ⟨(formatF n s).toArray⟩) (by simp [results, Tryz.results51, go_sem]) rfl ⟨rfl, ?_⟩
        go_grown
        all_goals first | exact hw2 | exact below_drewN hw2 _ | exact hw2.size
      · have p1 : decide ((D.length : Int) ≤ (s : Int)) = false := by simp; omega
        have hT : padS D s = D := by unfold padS; rw [if_neg hp]
        have q1 : IntKind.i64.wrap ((D.length : Int) - (s : Int)) = ((D.length - s : Nat) : Int) := by rw [IntWalk.i64_in _ (by omega)]; omega
        obtain ⟨U, hU⟩ : ∃ U, U = D.take (D.length - s) := ⟨_, rfl⟩
        obtain ⟨V, hV⟩ : ∃ V, V = D.drop (D.length - s) := ⟨_, rfl⟩
        have eU : (⟨D.toArray⟩ : ByteArray).extract 0 (D.length - s) = ⟨U.toArray⟩ := by rw [hU]; exact ba_take _ _
        have eV : (⟨D.toArray⟩ : ByteArray).extract (D.length - s) D.length = ⟨V.toArray⟩ := by rw [hV]; exact ba_drop _ _ _ rfl
        have lU : U.length ≤ 20 := by rw [hU, List.length_take]; omega
        have lV : V.length ≤ 20 := by rw [hV, List.length_drop]; omega
        obtain ⟨A1, hA1⟩ : ∃ A1, A1 = [45] ++ U := ⟨_, rfl⟩
        obtain ⟨A2, hA2⟩ : ∃ A2, A2 = A1 ++ [46] := ⟨_, rfl⟩
        have eA1 : (⟨#[45]⟩ : ByteArray) ++ ⟨U.toArray⟩ = ⟨A1.toArray⟩ := by rw [hA1]; exact ba_app [45] U
        have eA2 : (⟨A1.toArray⟩ : ByteArray) ++ ⟨#[46]⟩ = ⟨A2.toArray⟩ := by rw [hA2]; exact ba_app A1 [46]
        have lA1 : A1.length ≤ 21 := by rw [hA1, List.length_append]; simp; omega
        have lA2 : A2.length ≤ 22 := by rw [hA2, List.length_append]; simp; omega
        have eA3 : (⟨A2.toArray⟩ : ByteArray) ++ ⟨V.toArray⟩ = ⟨(formatF n s).toArray⟩ := by rw [HF.out, if_neg (by omega), hT, ← hU, ← hV, ba_app, hA2, hA1]; simp [List.append_assoc]
        clear hU hV hA1 hA2
        go_enter Tryz.func51, Tryz.ntmps51
        go_wp2_with (first
          | (go_at_call 50
             refine (CI.out _).mono ?_
             rintro e w1 ⟨rfl, kk, os, hw1⟩
             have hb : Below (w.heap.size + 1) (w.alloc _) w1 := hw1 ▸ Lib.below_grow _ _ (by simp) kk os
             have C1 : Blk w1 w.heap.size #[.int .i64 n, .int .i64 (s : Int)] 31 := Blk.below (show Blk (w.alloc _) _ _ _ from Blk.here rfl rfl) hb (by simp)
             have hw := Below.trans (show Below w.heap.size w (w.alloc _) by go_grown) (hb.mono (by simp))
             obtain ⟨c0, c1, f0, f1⟩ := C1.two
             clear hw1 hb)
          | (go_at_call 82
             refine (CR2.out _).mono ?_
             rintro e w2 ⟨rfl, hb⟩
             have D1 := C1.below hb C1.lt
             have hw2 := hw.trans (hb.mono hw.size)
             clear c0 c1 f0 f1
             obtain ⟨c0, c1, f0, f1⟩ := D1.two
             clear hb))
        go_quiet (fail)
        replace C1 := (show Blk (w1.drewN nq) _ _ _ from C1)
        replace hw := below_drewN hw nq
        go_wp2_with fail
        go_quiet (fail)
        go_wp2_with fail
        refine bodyPost_ret (v := .string ⟨(formatF n s).toArray⟩) (by simp [results, Tryz.results51, go_sem]) rfl ⟨rfl, ?_⟩
        go_grown
        all_goals first | exact hw | exact below_drewN hw _ | exact hw.size
  · have hi : Lib.itoa n = Lib.decDigits n.natAbs := by unfold Lib.itoa; rw [if_neg hn]; congr 1; omega
    have hf : formatF n s = [] ++ (if s = 0 then Lib.decDigits n.natAbs else (padS (Lib.decDigits n.natAbs) s).take ((padS (Lib.decDigits n.natAbs) s).length - s) ++ [46] ++ (padS (Lib.decDigits n.natAbs) s).drop ((padS (Lib.decDigits n.natAbs) s).length - s)) := by unfold formatF; rw [if_neg hn]
    rw [hi] at CI
    have HF := Lib.hid hf
    clear hf hi
    generalize Lib.decDigits n.natAbs = D at *
    rcases Nat.eq_zero_or_pos s with e0 | e0
    · subst e0
      have eA : (⟨#[]⟩ : ByteArray) ++ ⟨D.toArray⟩ = ⟨(formatF n 0).toArray⟩ := by rw [HF.out, if_pos rfl]; exact ba_app [] D
      go_enter Tryz.func51, Tryz.ntmps51
      go_wp2_with (first
        | (go_at_call 50
           refine (CI.out _).mono ?_
           rintro e w1 ⟨rfl, kk, os, hw1⟩
           have hb : Below (w.heap.size + 1) (w.alloc _) w1 := hw1 ▸ Lib.below_grow _ _ (by simp) kk os
           have C1 : Blk w1 w.heap.size #[.int .i64 n, .int .i64 0] 31 := Blk.below (show Blk (w.alloc _) _ _ _ from Blk.here rfl rfl) hb (by simp)
           have hw := Below.trans (show Below w.heap.size w (w.alloc _) by go_grown) (hb.mono (by simp))
           obtain ⟨c0, c1, f0, f1⟩ := C1.two
           clear hw1 hb))
      refine bodyPost_ret (v := .string ⟨(formatF n 0).toArray⟩) (by simp [results, Tryz.results51, go_sem]) rfl ⟨rfl, ?_⟩
      go_grown
      all_goals first | exact hw | exact below_drewN hw _ | exact hw.size
    · have s1 : ¬ (s : Int) ≤ 0 := by omega
      have s2 : ¬ (9 : Int) < (s : Int) := by omega
      by_cases hp : D.length ≤ s
      · have p1 : decide ((D.length : Int) ≤ (s : Int)) = true := by simp; omega
        have s3 : IntKind.i64.wrap ((s : Int) + 1) = (s : Int) + 1 := IntWalk.i64_in _ (by omega)
        have s4 : IntKind.i64.wrap ((s : Int) + 1 - (D.length : Int)) = ((s + 1 - D.length : Nat) : Int) := by rw [IntWalk.i64_in _ (by omega)]; omega
        have CR := Lib.hid (fun w => Tryz.strings_Repeat ⟨#[48]⟩ (s + 1 - D.length) w (by omega) (by show 1 * _ ≤ _; omega))
        have hz : Lib.repeatL [48] (s + 1 - D.length) = List.replicate (s + 1 - D.length) 48 := repeat_one _
        have lZ : (Lib.repeatL [48] (s + 1 - D.length)).length = s + 1 - D.length := by rw [hz, List.length_replicate]
        have hT : padS D s = Lib.repeatL [48] (s + 1 - D.length) ++ D := by unfold padS; rw [if_pos hp]
        have CR2 := Lib.hid (show ∀ w, Calls Tryz.prog 82 #[.string ⟨#[48]⟩, .int .i64 (s + 1 - D.length : Nat)] w fun e w' => e = .returned (.string ⟨(Lib.repeatL [48] (s + 1 - D.length)).toArray⟩) ∧ Below w.heap.size w w' from fun w => CR.out w)
        clear CR hz
        generalize Lib.repeatL [48] (s + 1 - D.length) = Z at *
        obtain ⟨T, hT2⟩ : ∃ T, T = Z ++ D := ⟨_, rfl⟩
        have eZ : (⟨Z.toArray⟩ : ByteArray) ++ ⟨D.toArray⟩ = ⟨T.toArray⟩ := by rw [hT2]; exact ba_app Z D
        have lT : s < T.length ∧ T.length ≤ 20 := by rw [hT2, List.length_append]; omega
        rw [← hT2] at hT
        clear hT2
        have q1 : IntKind.i64.wrap ((T.length : Int) - (s : Int)) = ((T.length - s : Nat) : Int) := by rw [IntWalk.i64_in _ (by omega)]; omega
        obtain ⟨U, hU⟩ : ∃ U, U = T.take (T.length - s) := ⟨_, rfl⟩
        obtain ⟨V, hV⟩ : ∃ V, V = T.drop (T.length - s) := ⟨_, rfl⟩
        have eU : (⟨T.toArray⟩ : ByteArray).extract 0 (T.length - s) = ⟨U.toArray⟩ := by rw [hU]; exact ba_take _ _
        have eV : (⟨T.toArray⟩ : ByteArray).extract (T.length - s) T.length = ⟨V.toArray⟩ := by rw [hV]; exact ba_drop _ _ _ rfl
        have lU : U.length ≤ 20 := by rw [hU, List.length_take]; omega
        have lV : V.length ≤ 20 := by rw [hV, List.length_drop]; omega
        obtain ⟨A1, hA1⟩ : ∃ A1, A1 = [] ++ U := ⟨_, rfl⟩
        obtain ⟨A2, hA2⟩ : ∃ A2, A2 = A1 ++ [46] := ⟨_, rfl⟩
        have eA1 : (⟨#[]⟩ : ByteArray) ++ ⟨U.toArray⟩ = ⟨A1.toArray⟩ := by rw [hA1]; exact ba_app [] U
        have eA2 : (⟨A1.toArray⟩ : ByteArray) ++ ⟨#[46]⟩ = ⟨A2.toArray⟩ := by rw [hA2]; exact ba_app A1 [46]
        have lA1 : A1.length ≤ 21 := by rw [hA1, List.length_append]; simp; omega
        have lA2 : A2.length ≤ 22 := by rw [hA2, List.length_append]; simp; omega
        have eA3 : (⟨A2.toArray⟩ : ByteArray) ++ ⟨V.toArray⟩ = ⟨(formatF n s).toArray⟩ := by rw [HF.out, if_neg (by omega), hT, ← hU, ← hV, ba_app, hA2, hA1]; simp [List.append_assoc]
        clear hU hV hA1 hA2
        go_enter Tryz.func51, Tryz.ntmps51
        go_wp2_with (first
          | (go_at_call 50
             refine (CI.out _).mono ?_
             rintro e w1 ⟨rfl, kk, os, hw1⟩
             have hb : Below (w.heap.size + 1) (w.alloc _) w1 := hw1 ▸ Lib.below_grow _ _ (by simp) kk os
             have C1 : Blk w1 w.heap.size #[.int .i64 n, .int .i64 (s : Int)] 31 := Blk.below (show Blk (w.alloc _) _ _ _ from Blk.here rfl rfl) hb (by simp)
             have hw := Below.trans (show Below w.heap.size w (w.alloc _) by go_grown) (hb.mono (by simp))
             obtain ⟨c0, c1, f0, f1⟩ := C1.two
             clear hw1 hb)
          | (go_at_call 82
             refine (CR2.out _).mono ?_
             rintro e w2 ⟨rfl, hb⟩
             have D1 := C1.below hb C1.lt
             have hw2 := hw.trans (hb.mono hw.size)
             clear c0 c1 f0 f1
             obtain ⟨c0, c1, f0, f1⟩ := D1.two
             clear hb))
        go_quiet (fail)
        go_wp2_with fail
        refine bodyPost_ret (v := .string ⟨(formatF n s).toArray⟩) (by simp [results, Tryz.results51, go_sem]) rfl ⟨rfl, ?_⟩
        go_grown
        all_goals first | exact hw2 | exact below_drewN hw2 _ | exact hw2.size
      · have p1 : decide ((D.length : Int) ≤ (s : Int)) = false := by simp; omega
        have hT : padS D s = D := by unfold padS; rw [if_neg hp]
        have q1 : IntKind.i64.wrap ((D.length : Int) - (s : Int)) = ((D.length - s : Nat) : Int) := by rw [IntWalk.i64_in _ (by omega)]; omega
        obtain ⟨U, hU⟩ : ∃ U, U = D.take (D.length - s) := ⟨_, rfl⟩
        obtain ⟨V, hV⟩ : ∃ V, V = D.drop (D.length - s) := ⟨_, rfl⟩
        have eU : (⟨D.toArray⟩ : ByteArray).extract 0 (D.length - s) = ⟨U.toArray⟩ := by rw [hU]; exact ba_take _ _
        have eV : (⟨D.toArray⟩ : ByteArray).extract (D.length - s) D.length = ⟨V.toArray⟩ := by rw [hV]; exact ba_drop _ _ _ rfl
        have lU : U.length ≤ 20 := by rw [hU, List.length_take]; omega
        have lV : V.length ≤ 20 := by rw [hV, List.length_drop]; omega
        obtain ⟨A1, hA1⟩ : ∃ A1, A1 = [] ++ U := ⟨_, rfl⟩
        obtain ⟨A2, hA2⟩ : ∃ A2, A2 = A1 ++ [46] := ⟨_, rfl⟩
        have eA1 : (⟨#[]⟩ : ByteArray) ++ ⟨U.toArray⟩ = ⟨A1.toArray⟩ := by rw [hA1]; exact ba_app [] U
        have eA2 : (⟨A1.toArray⟩ : ByteArray) ++ ⟨#[46]⟩ = ⟨A2.toArray⟩ := by rw [hA2]; exact ba_app A1 [46]
        have lA1 : A1.length ≤ 21 := by rw [hA1, List.length_append]; simp; omega
        have lA2 : A2.length ≤ 22 := by rw [hA2, List.length_append]; simp; omega
        have eA3 : (⟨A2.toArray⟩ : ByteArray) ++ ⟨V.toArray⟩ = ⟨(formatF n s).toArray⟩ := by rw [HF.out, if_neg (by omega), hT, ← hU, ← hV, ba_app, hA2, hA1]; simp [List.append_assoc]
        clear hU hV hA1 hA2
        go_enter Tryz.func51, Tryz.ntmps51
        go_wp2_with (first
          | (go_at_call 50
             refine (CI.out _).mono ?_
             rintro e w1 ⟨rfl, kk, os, hw1⟩
             have hb : Below (w.heap.size + 1) (w.alloc _) w1 := hw1 ▸ Lib.below_grow _ _ (by simp) kk os
             have C1 : Blk w1 w.heap.size #[.int .i64 n, .int .i64 (s : Int)] 31 := Blk.below (show Blk (w.alloc _) _ _ _ from Blk.here rfl rfl) hb (by simp)
             have hw := Below.trans (show Below w.heap.size w (w.alloc _) by go_grown) (hb.mono (by simp))
             obtain ⟨c0, c1, f0, f1⟩ := C1.two
             clear hw1 hb)
          | (go_at_call 82
             refine (CR2.out _).mono ?_
             rintro e w2 ⟨rfl, hb⟩
             have D1 := C1.below hb C1.lt
             have hw2 := hw.trans (hb.mono hw.size)
             clear c0 c1 f0 f1
             obtain ⟨c0, c1, f0, f1⟩ := D1.two
             clear hb))
        go_quiet (fail)
        go_wp2_with fail
        refine bodyPost_ret (v := .string ⟨(formatF n s).toArray⟩) (by simp [results, Tryz.results51, go_sem]) rfl ⟨rfl, ?_⟩
        go_grown
        all_goals first | exact hw | exact below_drewN hw _ | exact hw.size
end Go.Proofs.YtaoobajokhcimaaGreatDoor

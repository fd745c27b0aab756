/- LibEnds at every two texts (printed by lcm.py). -/
import Derived.Test.YtfagfkfcokmclaaGreatDoorZLcL
set_option linter.unusedSimpArgs false
set_option linter.unusedVariables false
set_option linter.constructorNameAsVariable false
namespace Go.Proofs.YtfagfkfcokmclaaGreatDoor
open Go.RowKit Go.Sort

set_option maxRecDepth 100000 in
set_option maxHeartbeats 1600000 in
/-- Where a text is long, or not right: what awake says. -/
theorem ends_out (s t : ByteArray) (rs rt : Bool) (h : 500 < s.size ∨ (s.size ≤ 500 ∧ 500 < t.size) ∨ (s.size ≤ 500 ∧ t.size ≤ 500 ∧ rs = false) ∨ (s.size ≤ 500 ∧ t.size ≤ 500 ∧ rs = true ∧ rt = false)) (w : World)
    (CW0 : ∀ W, Below w.heap.size w W → Calls Tryz.prog 7 #[] W fun e w' => e = .returned (.bool true) ∧ Below W.heap.size W w')
    (Rs0 : s.size ≤ 500 → ∀ W, Calls Tryz.prog 8 #[.agg #[.int .i64 3, .int .i64 0, .int .i64 0, .string s, .bool false]] W fun e w' => e = .returned (.bool rs) ∧ Below W.heap.size W w')
    (Rt0 : t.size ≤ 500 → ∀ W, Calls Tryz.prog 8 #[.agg #[.int .i64 3, .int .i64 0, .int .i64 0, .string t, .bool false]] W fun e w' => e = .returned (.bool rt) ∧ Below W.heap.size W w') :
    Calls Tryz.prog 4 #[.string s, .string t] w fun e w' => e = .returned (.bool true) ∧ Below w.heap.size w w' := by
  have CW := Lib.hid CW0
  clear CW0
  rcases h with h1 | ⟨h1, h2⟩ | ⟨h1, h2, rfl⟩ | ⟨h1, h2, rfl, rfl⟩
  · skip
    clear Rs0 Rt0
    have d1 : decide ((500 : Int) < (s.size : Int)) = true := decide_eq_true (by omega)
    go_enter Tryz.func4, Tryz.ntmps4
    go_wp2_with fail
    with_reducible refine (CW.out _ (Below.refl _ _)).mono ?_
    rintro e w1 ⟨rfl, hw1⟩
    go_wp2_with fail
    with_reducible refine (CW.out _ hw1).mono ?_
    rintro e w9 ⟨rfl, hb⟩
    have hw9 := hw1.trans (hb.mono hw1.size)
    go_wp2_with fail
    go_returns
    exact ⟨rfl, hw9⟩
  · skip
    clear Rs0 Rt0
    have d1 : decide ((500 : Int) < (s.size : Int)) = false := decide_eq_false (by omega)
    have d2 : decide ((500 : Int) < (t.size : Int)) = true := decide_eq_true (by omega)
    go_enter Tryz.func4, Tryz.ntmps4
    go_wp2_with fail
    with_reducible refine (CW.out _ (Below.refl _ _)).mono ?_
    rintro e w1 ⟨rfl, hw1⟩
    go_wp2_with fail
    with_reducible refine (CW.out _ hw1).mono ?_
    rintro e w9 ⟨rfl, hb⟩
    have hw9 := hw1.trans (hb.mono hw1.size)
    go_wp2_with fail
    go_returns
    exact ⟨rfl, hw9⟩
  · have Rs := Lib.hid (Rs0 h1)
    clear Rs0 Rt0
    have d1 : decide ((500 : Int) < (s.size : Int)) = false := decide_eq_false (by omega)
    have d2 : decide ((500 : Int) < (t.size : Int)) = false := decide_eq_false (by omega)
    go_enter Tryz.func4, Tryz.ntmps4
    go_wp2_with fail
    with_reducible refine (CW.out _ (Below.refl _ _)).mono ?_
    rintro e w1 ⟨rfl, hw1⟩
    go_wp2_with fail
    with_reducible refine (Rs.out _).mono ?_
    rintro e w2 ⟨rfl, hb⟩
    have hw2 := hw1.trans (hb.mono hw1.size)
    clear hb
    go_wp2_with fail
    with_reducible refine (CW.out _ hw2).mono ?_
    rintro e w9 ⟨rfl, hb⟩
    have hw9 := hw2.trans (hb.mono hw2.size)
    go_wp2_with fail
    go_returns
    exact ⟨rfl, hw9⟩
  · have Rs := Lib.hid (Rs0 h1)
    have Rq := Lib.hid (Rt0 h2)
    clear Rs0 Rt0
    have d1 : decide ((500 : Int) < (s.size : Int)) = false := decide_eq_false (by omega)
    have d2 : decide ((500 : Int) < (t.size : Int)) = false := decide_eq_false (by omega)
    go_enter Tryz.func4, Tryz.ntmps4
    go_wp2_with fail
    with_reducible refine (CW.out _ (Below.refl _ _)).mono ?_
    rintro e w1 ⟨rfl, hw1⟩
    go_wp2_with fail
    with_reducible refine (Rs.out _).mono ?_
    rintro e w2 ⟨rfl, hb⟩
    have hw2 := hw1.trans (hb.mono hw1.size)
    clear hb
    go_wp2_with fail
    with_reducible refine (Rq.out _).mono ?_
    rintro e w2 ⟨rfl, hb⟩
    have hw3 := hw2.trans (hb.mono hw2.size)
    clear hb
    go_wp2_with fail
    with_reducible refine (CW.out _ hw3).mono ?_
    rintro e w9 ⟨rfl, hb⟩
    have hw9 := hw3.trans (hb.mono hw3.size)
    go_wp2_with fail
    go_returns
    exact ⟨rfl, hw9⟩
theorem valid_right {s : ByteArray} (h : rightA ⟨3, 0, 0, s, false⟩ = true) : validF s = true := by
  cases hv : validF s
  · exfalso
    have : rightA ⟨3, 0, 0, s, false⟩ = validF s := by
      unfold rightA
      simp
    rw [this, hv] at h
    cases h
  · rfl
theorem ends_any (s t : ByteArray) (m : Int) (w : World) (hL : LaidE m w) :
    Calls Tryz.prog 4 #[.string s, .string t] w fun e w' => e = .returned (.bool true) ∧ Below w.heap.size w w' := by
  have CW : ∀ W, Below w.heap.size w W → Calls Tryz.prog 7 #[] W fun e w' => e = .returned (.bool true) ∧ Below W.heap.size W w' := fun W hW => awake_any W (hL.sp.on hW)
  have Rs : s.size ≤ 500 → ∀ W, Calls Tryz.prog 8 #[.agg #[.int .i64 3, .int .i64 0, .int .i64 0, .string s, .bool false]] W fun e w' => e = .returned (.bool (rightA ⟨3, 0, 0, s, false⟩)) ∧ Below W.heap.size W w' := fun h W => rright_any 3 0 0 s false (by omega) W
  have Rt : t.size ≤ 500 → ∀ W, Calls Tryz.prog 8 #[.agg #[.int .i64 3, .int .i64 0, .int .i64 0, .string t, .bool false]] W fun e w' => e = .returned (.bool (rightA ⟨3, 0, 0, t, false⟩)) ∧ Below W.heap.size W w' := fun h W => rright_any 3 0 0 t false (by omega) W
  by_cases h1 : s.size ≤ 500
  · by_cases h2 : t.size ≤ 500
    · cases hs : rightA ⟨3, 0, 0, s, false⟩ with
      | false => rw [hs] at Rs; exact ends_out s t false _ (.inr (.inr (.inl ⟨h1, h2, rfl⟩))) w CW Rs Rt
      | true =>
        rw [hs] at Rs
        cases ht : rightA ⟨3, 0, 0, t, false⟩ with
        | false => rw [ht] at Rt; exact ends_out s t true false (.inr (.inr (.inr ⟨h1, h2, rfl, rfl⟩))) w CW Rs Rt
        | true =>
          rw [ht] at Rt
          have vs := validD_of (valid_right hs)
          have hst : (s ++ t).size ≤ 65536 := by rw [ByteArray.size_append]; omega
          have hd : (s ++ t).data.toList = s.data.toList ++ t.data.toList := by simp [ByteArray.data_append]
          have q2 : cutO (s ++ t) s = true := by unfold cutO; rw [hd]; exact cut_head _ _
          have q3 : cutO (s ++ t) t = true := by unfold cutO; rw [hd]; exact cut_tail _ _
          have q0 : Lib.hasPrefix (s ++ t).data.toList s.data.toList = true := by rw [hd]; exact pre_head _ _
          have q1 : Lib.hasSuffix (s ++ t).data.toList t.data.toList = true := by rw [hd]; exact suf_tail _ _
          have hc := count_app s t vs
          have l1 := Lib.runeCount_le s
          have l2 := Lib.runeCount_le t
          refine ends_main s t (Lib.runeCount s : Int) (Lib.runeCount t : Int) w h1 h2 ⟨by omega, by omega⟩ ⟨by omega, by omega⟩ CW (Rs h1) (Rt h2)
            (fun W ab hW a0 a1 => call_concat2 s t hst ab 2 W (hL.sp.on hW) a0 a1)
            (fun W ab hW a0 a1 => q0 ▸ call_starts (s ++ t) s hst ab 2 m W (hL.on hW) a0 a1)
            (fun W ab hW a0 a1 => q1 ▸ call_ends (s ++ t) t hst ab 2 m W (hL.on hW) a0 a1)
            (fun W ab hW a0 a1 => q2 ▸ call_contains (s ++ t) s hst ab 2 m W (hL.on hW) a0 a1)
            (fun W ab hW a0 a1 => q3 ▸ call_contains (s ++ t) t hst ab 2 m W (hL.on hW) a0 a1)
            (fun W ab hW a0 => call_length s (by omega) ab 1 W (hL.sp.on hW) a0)
            (fun W ab hW a0 => call_length t (by omega) ab 1 W (hL.sp.on hW) a0)
            (fun W ab hW a0 => ?_)
          have := call_length (s ++ t) hst ab 1 W (hL.sp.on hW) a0
          rw [hc, Int.natCast_add] at this
          exact this
    · exact ends_out s t _ _ (.inr (.inl ⟨h1, by omega⟩)) w CW Rs Rt
  · exact ends_out s t _ _ (.inl (by omega)) w CW Rs Rt
end Go.Proofs.YtfagfkfcokmclaaGreatDoor

/- LibTexts at every two texts and every number (printed by lcs.py). -/
import Derived.Test.YtfagfkfcokmclaaGreatDoorZLcR
import Derived.Test.YtfagfkfcokmclaaGreatDoorZLcM
import Derived.Test.YtfagfkfcokmclaaGreatDoorRows
import Derived.Lib.SmallJoins
import Derived.OpenShut
import Derived.ProofKit
set_option linter.unusedSimpArgs false
set_option linter.unusedVariables false
set_option linter.constructorNameAsVariable false
namespace Go.Proofs.YtfagfkfcokmclaaGreatDoor
section
open Go.RowKit Go.Sort

set_option maxRecDepth 100000 in
set_option maxHeartbeats 1600000 in
/-- Where a text is long, or not right: what awake says. -/
theorem texts_out (s t : ByteArray) (n : Int) (rs rt : Bool) (h : 500 < s.size ∨ (s.size ≤ 500 ∧ 500 < t.size) ∨ (s.size ≤ 500 ∧ t.size ≤ 500 ∧ rs = false) ∨ (s.size ≤ 500 ∧ t.size ≤ 500 ∧ rs = true ∧ rt = false)) (w : World)
    (CW0 : ∀ W, Below w.heap.size w W → Calls Tryz.prog 7 #[] W fun e w' => e = .returned (.bool true) ∧ Below W.heap.size W w')
    (Rs0 : s.size ≤ 500 → ∀ W, Calls Tryz.prog 8 #[.agg #[.int .i64 3, .int .i64 0, .int .i64 0, .string s, .bool false]] W fun e w' => e = .returned (.bool rs) ∧ Below W.heap.size W w')
    (Rt0 : t.size ≤ 500 → ∀ W, Calls Tryz.prog 8 #[.agg #[.int .i64 3, .int .i64 0, .int .i64 0, .string t, .bool false]] W fun e w' => e = .returned (.bool rt) ∧ Below W.heap.size W w') :
    Calls Tryz.prog 5 #[.string s, .string t, .int .i64 n] w fun e w' => e = .returned (.bool true) ∧ Below w.heap.size w w' := by
  have CW := Lib.hid CW0
  clear CW0
  rcases h with h1 | ⟨h1, h2⟩ | ⟨h1, h2, rfl⟩ | ⟨h1, h2, rfl, rfl⟩
  · skip
    clear Rs0 Rt0
    have d1 : decide ((500 : Int) < (s.size : Int)) = true := decide_eq_true (by omega)
    go_enter Tryz.func5, Tryz.ntmps5
    go_wp2_with fail
    with_reducible refine (CW.out _ (Below.refl _ _)).mono ?_
    rintro e w1 ⟨rfl, hw1⟩
    go_wp2_with fail
    with_reducible refine (CW.out _ hw1).mono ?_
    rintro e w9 ⟨rfl, hb⟩
    have hw9 := hw1.trans (hb.mono hw1.size)
    go_wp2_with fail
    go_returns
    exact ⟨rfl, hw9⟩
  · skip
    clear Rs0 Rt0
    have d1 : decide ((500 : Int) < (s.size : Int)) = false := decide_eq_false (by omega)
    have d2 : decide ((500 : Int) < (t.size : Int)) = true := decide_eq_true (by omega)
    go_enter Tryz.func5, Tryz.ntmps5
    go_wp2_with fail
    with_reducible refine (CW.out _ (Below.refl _ _)).mono ?_
    rintro e w1 ⟨rfl, hw1⟩
    go_wp2_with fail
    with_reducible refine (CW.out _ hw1).mono ?_
    rintro e w9 ⟨rfl, hb⟩
    have hw9 := hw1.trans (hb.mono hw1.size)
    go_wp2_with fail
    go_returns
    exact ⟨rfl, hw9⟩
  · have Rs := Lib.hid (Rs0 h1)
    clear Rs0 Rt0
    have d1 : decide ((500 : Int) < (s.size : Int)) = false := decide_eq_false (by omega)
    have d2 : decide ((500 : Int) < (t.size : Int)) = false := decide_eq_false (by omega)
    go_enter Tryz.func5, Tryz.ntmps5
    go_wp2_with fail
    with_reducible refine (CW.out _ (Below.refl _ _)).mono ?_
    rintro e w1 ⟨rfl, hw1⟩
    go_wp2_with fail
    with_reducible refine (Rs.out _).mono ?_
    rintro e w2 ⟨rfl, hb⟩
    have hw2 := hw1.trans (hb.mono hw1.size)
    clear hb
    go_wp2_with fail
    with_reducible refine (CW.out _ hw2).mono ?_
    rintro e w9 ⟨rfl, hb⟩
    have hw9 := hw2.trans (hb.mono hw2.size)
    go_wp2_with fail
    go_returns
    exact ⟨rfl, hw9⟩
  · have Rs := Lib.hid (Rs0 h1)
    have Rq := Lib.hid (Rt0 h2)
    clear Rs0 Rt0
    have d1 : decide ((500 : Int) < (s.size : Int)) = false := decide_eq_false (by omega)
    have d2 : decide ((500 : Int) < (t.size : Int)) = false := decide_eq_false (by omega)
    go_enter Tryz.func5, Tryz.ntmps5
    go_wp2_with fail
    with_reducible refine (CW.out _ (Below.refl _ _)).mono ?_
    rintro e w1 ⟨rfl, hw1⟩
    go_wp2_with fail
    with_reducible refine (Rs.out _).mono ?_
    rintro e w2 ⟨rfl, hb⟩
    have hw2 := hw1.trans (hb.mono hw1.size)
    clear hb
    go_wp2_with fail
    with_reducible refine (Rq.out _).mono ?_
    rintro e w2 ⟨rfl, hb⟩
    have hw3 := hw2.trans (hb.mono hw2.size)
    clear hb
    go_wp2_with fail
    with_reducible refine (CW.out _ hw3).mono ?_
    rintro e w9 ⟨rfl, hb⟩
    have hw9 := hw3.trans (hb.mono hw3.size)
    go_wp2_with fail
    go_returns
    exact ⟨rfl, hw9⟩
theorem xml_go (s : ByteArray) : ∀ f pos, Lib.idxFuncFrom badR true s f pos < 0 → ∀ r ∈ ptsGo f (s.data.toList.drop pos), xmlF r = true
  | 0, _, _, r, hr => by simp [ptsGo] at hr
  | f + 1, pos, h, r, hr => by
    have hz : s.data.toList.length = s.size := by simp
    by_cases hp : pos < s.size
    · have hstep : ptsGo (f + 1) (s.data.toList.drop pos) = ((Utf8.decode s pos).1 : Int) :: ptsGo f (s.data.toList.drop (pos + (Utf8.decode s pos).2)) := by
        show (if _ then _ else _) = _
        rw [if_neg (by
          intro h0
          have := congrArg List.length h0
          rw [List.length_drop, hz] at this
          simp at this
          omega), Lib.decodeL_drop, List.drop_drop]
      rw [hstep] at hr
      unfold Lib.idxFuncFrom at h
      rw [if_pos hp] at h
      have hX : badR (Utf8.decode s pos).1 = !xmlF ((Utf8.decode s pos).1 : Int) := rfl
      split at h
      · omega
      · rename_i hb
        rcases List.mem_cons.1 hr with rfl | hr
        · cases hx : xmlF ((Utf8.decode s pos).1 : Int)
          · rw [hX, hx] at hb; exact absurd rfl hb
          · rfl
        · exact xml_go s f _ h r hr
    · rw [List.drop_eq_nil_of_le (by omega), ptsGo_nil] at hr
      cases hr
theorem xml_pts {s : ByteArray} (h : validF s = true) : ∀ r ∈ ptsD s.data.toList, xmlF r = true ∧ 0 ≤ r ∧ r ≤ 1114111 := by
  intro r hr
  refine ⟨?_, pts_range _ r hr⟩
  rw [← cvalid_valid] at h
  unfold cvalidF at h
  have h2 := (Bool.and_eq_true_iff.1 h).2
  have h3 : Lib.idxFuncFrom badR true s s.size 0 < 0 := by
    have : ¬ (0 ≤ Lib.idxFunc badR true s) := by simpa using h2
    unfold Lib.idxFunc at this
    omega
  have hz : s.data.toList.length = s.size := by simp
  refine xml_go s s.size 0 h3 r ?_
  rw [List.drop_zero]
  unfold ptsD at hr
  rw [hz] at hr
  exact hr
theorem sum_ofA (ps : List Int) : sumT (ps.map ofA) = 0 := by
  induction ps with
  | nil => rfl
  | cons p r ih =>
    show (ofA p).t.size + sumT (r.map ofA) = 0
    rw [ih]
    rfl
theorem ba_list {a b : ByteArray} (h : a.data.toList = b.data.toList) : a = b := ByteArray.ext (Array.ext' h)
theorem tmod_bd (n : Int) : -20 < n.tmod 20 ∧ n.tmod 20 < 20 := by
  rcases Int.lt_or_le n 0 with h | h
  · have h1 : n.tmod 20 = -((-n).tmod 20) := by rw [Int.neg_tmod, Int.neg_neg]
    rw [h1, Int.tmod_eq_emod_of_nonneg (by omega)]
    omega
  · rw [Int.tmod_eq_emod_of_nonneg h]
    omega
set_option maxRecDepth 100000 in
theorem texts_any (s t : ByteArray) (n : Int) (m : Int) (w : World) (hL : LaidE m w) :
    Calls Tryz.prog 5 #[.string s, .string t, .int .i64 n] w fun e w' => e = .returned (.bool true) ∧ Below w.heap.size w w' := by
  have CW : ∀ W, Below w.heap.size w W → Calls Tryz.prog 7 #[] W fun e w' => e = .returned (.bool true) ∧ Below W.heap.size W w' := fun W hW => awake_any W (hL.sp.on hW)
  have Rs : s.size ≤ 500 → ∀ W, Calls Tryz.prog 8 #[.agg #[.int .i64 3, .int .i64 0, .int .i64 0, .string s, .bool false]] W fun e w' => e = .returned (.bool (rightA ⟨3, 0, 0, s, false⟩)) ∧ Below W.heap.size W w' := fun h W => rright_any 3 0 0 s false (by omega) W
  have Rt : t.size ≤ 500 → ∀ W, Calls Tryz.prog 8 #[.agg #[.int .i64 3, .int .i64 0, .int .i64 0, .string t, .bool false]] W fun e w' => e = .returned (.bool (rightA ⟨3, 0, 0, t, false⟩)) ∧ Below W.heap.size W w' := fun h W => rright_any 3 0 0 t false (by omega) W
  by_cases h1 : s.size ≤ 500
  · by_cases h2 : t.size ≤ 500
    · cases hs : rightA ⟨3, 0, 0, s, false⟩ with
      | false => rw [hs] at Rs; exact texts_out s t n false _ (.inr (.inr (.inl ⟨h1, h2, rfl⟩))) w CW Rs Rt
      | true =>
        rw [hs] at Rs
        cases ht : rightA ⟨3, 0, 0, t, false⟩ with
        | false => rw [ht] at Rt; exact texts_out s t n true false (.inr (.inr (.inr ⟨h1, h2, rfl, rfl⟩))) w CW Rs Rt
        | true =>
          rw [ht] at Rt
          have vv := valid_right hs
          have vs := validD_of vv
          have hz : s.data.toList.length = s.size := by simp
          have hpl := pts_len s.data.toList
          have hpe := pts_enc _ vs
          have hcp := count_pts s
          obtain ⟨hm1, hm2⟩ := tmod_bd n
          obtain ⟨K, hK⟩ : ∃ K, (n.tmod 20 + 20).tmod 20 = K := ⟨_, rfl⟩
          have hK2 : K = (n.tmod 20 + 20) % 20 := by rw [← hK, Int.tmod_eq_emod_of_nonneg (by omega)]
          have hK0 : 0 ≤ K := by omega
          have hK1 : K < 20 := by omega
          clear hK2
          have hs2 : s.size ≤ 65536 := by omega
          have sm := cut_small s t hs2
          have hcl : (Lib.cut s.data.toList t.data.toList).1.length ≤ s.size ∧ (Lib.cut s.data.toList t.data.toList).2.1.length ≤ s.size := by
            unfold Lib.cut
            split
            · refine ⟨?_, ?_⟩
              · rw [← hz]; exact List.length_take_le' _ _
              · rw [← hz, List.length_drop]; omega
            · refine ⟨?_, ?_⟩
              · show s.data.toList.length ≤ _; omega
              · show (0 : Nat) ≤ _; omega
          have hBs : (cutAO s t).size ≤ 500 := by
            unfold cutAO
            split
            · unfold cutA; rw [size_arr]; omega
            · show (0 : Nat) ≤ _; omega
          have hAs : (cutB s t).size ≤ 500 := by unfold cutB; rw [size_arr]; omega
          have hok : cutO s t = true → cutAO s t ++ t ++ cutB s t = s := fun h => by
            have := cut_whole h
            apply ba_list
            unfold cutAO
            rw [if_pos h]
            unfold cutA cutB
            rw [ByteArray.data_append, ByteArray.data_append]
            simpa using this
          have hno : cutO s t = false → cutAO s t = ⟨#[]⟩ ∧ cutB s t = ⟨#[]⟩ := fun h => by
            have hc := cut_no h
            refine ⟨?_, ?_⟩
            · unfold cutAO; rw [h]; rfl
            · unfold cutB; rw [hc]
          have hPsz := part_small s vs (max 1 1 - 1) (1 + K - max 1 1)
          have hRsz := part_small s vs (max (K + 1) 1 - 1) ((Lib.runeCount s : Int) + 1 - max (K + 1) 1)
          have e1 : max (1 : Int) 1 - 1 = 0 := by omega
          have e2 : 1 + K - max (1 : Int) 1 = K := by omega
          have e3 : max (K + 1) 1 - 1 = K := by omega
          have e4 : (Lib.runeCount s : Int) + 1 - max (K + 1) 1 = (Lib.runeCount s : Int) - K := by omega
          have hPd : partT s (max 1 1 - 1) (1 + K - max 1 1) = ⟨(((ptsD s.data.toList).take K.toNat).flatMap Lib.encodeRune).toArray⟩ := by
            rw [e1, e2]
            unfold partT
            rw [show (0 : Int).toNat = 0 from rfl, List.drop_zero]
          have hRd : partT s (max (K + 1) 1 - 1) ((Lib.runeCount s : Int) + 1 - max (K + 1) 1) = ⟨(((ptsD s.data.toList).drop K.toNat).flatMap Lib.encodeRune).toArray⟩ := by
            rw [e3, e4]
            unfold partT
            rw [List.take_of_length_le (by rw [List.length_drop]; omega)]
          have hPR : partT s (max 1 1 - 1) (1 + K - max 1 1) ++ partT s (max (K + 1) 1 - 1) ((Lib.runeCount s : Int) + 1 - max (K + 1) 1) = s := by
            rw [hPd, hRd]
            apply ba_list
            rw [ByteArray.data_append]
            simp only [Array.toList_append]
            rw [← List.flatMap_append, List.take_append_drop]
            exact hpe
          have hPc : (Lib.runeCount (partT s (max 1 1 - 1) (1 + K - max 1 1)) : Int) = min K ((ptsD s.data.toList).length : Int) := by
            rw [hPd, count_pts]
            show ((ptsD (((ptsD s.data.toList).take K.toNat).flatMap Lib.encodeRune)).length : Int) = _
            rw [pts_take _ vs, List.length_take]
            omega
          have hcode : (⟨((ptsD s.data.toList).flatMap Lib.encodeRune).toArray⟩ : ByteArray) = s := by
            apply ba_list
            show (ptsD s.data.toList).flatMap Lib.encodeRune = _
            exact hpe
          refine texts_main s t n (cutO s t) (cutAO s t) (cutB s t) _ _ (ptsD s.data.toList) K w h1 h2 hK hK0 hK1 hm1 hm2 hBs hAs (Nat.le_trans hPsz hs2) (Nat.le_trans hRsz hs2) (by omega) (by rw [sum_ofA]; omega) hok hno CW (Rs h1) (Rt h2)
            (fun W ab hW a0 a1 => call_contains s t hs2 ab 2 m W (hL.on hW) a0 a1)
            (fun W ab hW a0 a1 => call_before s t hs2 ab 2 m W (hL.on hW) a0 a1)
            (fun W ab hW a0 a1 => call_after s t hs2 ab 2 m W (hL.on hW) a0 a1)
            (fun W ab hW a0 => ?_) (fun W ab hW a0 => ?_)
            (fun W ab hW a0 a1 a2 => call_substring3 s vs hs2 1 K (by omega) (by omega) ab 3 W (hL.sp.on hW) a0 a1 a2)
            (fun W ab hW a0 a1 => call_substring2 s vs hs2 (K + 1) (by omega) ab 2 W (hL.sp.on hW) a0 a1)
            (fun W ab hW a0 a1 => ?_) (fun W ab hW a0 => ?_)
          · refine (call_points s hs2 ab 1 W (hL.sp.on hW) a0).mono ?_
            rintro e w' ⟨v, rfl, hO, hb⟩
            obtain ⟨a, c, rfl, hI⟩ := hO.it
            exact ⟨a, c, by rw [List.length_map], hI, hb⟩
          · have := call_codes (ptsD s.data.toList) (xml_pts vv) (by omega) (by rw [hpe]; omega) ab 1 W (hL.sp.on hW) a0
            rw [hcode] at this
            exact this
          · have := call_concat2 _ _ (by rw [hPR]; exact hs2) ab 2 W (hL.sp.on hW) a0 a1
            rw [hPR] at this
            exact this
          · have := call_length _ (Nat.le_trans hPsz hs2) ab 1 W (hL.sp.on hW) a0
            rw [hPc] at this
            exact this
    · exact texts_out s t n _ _ (.inr (.inl ⟨h1, by omega⟩)) w CW Rs Rt
  · exact texts_out s t n _ _ (.inl (by omega)) w CW Rs Rt
end
section
open Go.ChangeShapes Go.WideShapes Go.ChangeAt Go.RowKit Go.Joins
set_option maxRecDepth 100000 in
theorem texts_args (H : Type) (enc : TypeId × Value → H) (W : World) (base : Nat) (v0 v1 v2 : Value) (d0 d1 d2 : DataW H) (p0 p1 p2 : List MemPlace)
    (hv0 : Value.okWide Tryz.prog W .any base 9 v0) (hv1 : Value.okWide Tryz.prog W .any base 9 v1) (hv2 : Value.okWide Tryz.prog W .any base 3 v2)
    (h0 : DataW.Trod enc Tryz.prog W 0 (fun _ => true) true 9 v0 d0 p0) (h1 : DataW.Trod enc Tryz.prog W 0 (fun _ => true) true 9 v1 d1 p1) (h2 : DataW.Trod enc Tryz.prog W 0 (fun _ => true) true 3 v2 d2 p2)
    (m : Int) (hL : LaidE m W) : Calls Tryz.prog 5 #[v0, v1, v2] W fun e w' => e = .returned (.bool true) ∧ Below W.heap.size W w' := by
  obtain ⟨s, rfl⟩ := okWide_string Tryz.underlying9 hv0
  obtain ⟨t, rfl⟩ := okWide_string Tryz.underlying9 hv1
  obtain ⟨n, rfl⟩ := okWide_int Tryz.underlying3 hv2
  exact texts_any s t n m W hL
end
end Go.Proofs.YtfagfkfcokmclaaGreatDoor

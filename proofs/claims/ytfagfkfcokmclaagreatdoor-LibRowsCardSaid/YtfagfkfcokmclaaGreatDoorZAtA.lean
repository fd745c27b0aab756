/- Texts put together: AtA, AtB, AtC, AtD. -/
import Derived.Test.YtfagfkfcokmclaaGreatDoorZMgB
import Derived.BigQuiet
import Derived.Deep.QuietTactic
section
set_option linter.unusedSimpArgs false
set_option linter.unusedVariables false
namespace Go.Proofs.YtfagfkfcokmclaaGreatDoor
open Go.RowKit

theorem byteAt_walk (t : ByteArray) (i : Nat) (h : i < t.size) : wrap64 ↑(t[i]'h).toNat = byteAt t i := by
  have e : byteAt t i = ((t[i]'h).toNat : Int) := by
    unfold byteAt
    rw [Array.getElem?_eq_getElem (by simpa using h)]
    rfl
  rw [e]
  have := (t[i]'h).toNat_lt
  unfold wrap64
  omega

theorem ret_pair {a b : Int} {p : Int × Int} (h : p = (a, b)) : Ending.returned (.tuple #[.int .i64 a, .int .i64 b]) = .returned (.tuple #[.int .i64 p.1, .int .i64 p.2]) := by rw [h]

set_option maxRecDepth 100000 in
set_option maxHeartbeats 4000000 in
theorem next_one (t : ByteArray) (w : World) (h0 : 0 < t.size) (hm : t.size ≤ maxLen) (hc : 0 ≤ byteAt t 0) (hc' : byteAt t 0 < 128) :
    Calls Tryz.prog 62 #[.string t] w fun e w' => e = .returned (.tuple #[.int .i64 (nextF t).1, .int .i64 (nextF t).2]) ∧ w = w' := by
  unfold maxLen at hm
  have i0 : (0 : Int) < (t.size : Int) := by omega
  have hb := byteAt_walk t 0 h0
  have HN : Hid (nextF t = nextG t.size (byteAt t 0) (byteAt t 1) (byteAt t 2) (byteAt t 3)) := rfl
  generalize byteAt t 0 = c at *
  go_enter Tryz.func62, Tryz.ntmps62
  go_wp2_with fail
  go_light
  go_ret2
  refine ⟨?_, rfl⟩
  rw [HN.out]
  unfold nextG
  (repeat' split) <;> first | (simp [hb]; done) | (exfalso; omega)

set_option maxRecDepth 100000 in
set_option maxHeartbeats 4000000 in
theorem next_low (t : ByteArray) (w : World) (h0 : 0 < t.size) (hm : t.size ≤ maxLen) (hc : 128 ≤ byteAt t 0) (hc' : byteAt t 0 < 192) :
    Calls Tryz.prog 62 #[.string t] w fun e w' => e = .returned (.tuple #[.int .i64 (nextF t).1, .int .i64 (nextF t).2]) ∧ w = w' := by
  unfold maxLen at hm
  have i0 : (0 : Int) < (t.size : Int) := by omega
  have hb := byteAt_walk t 0 h0
  have HN : Hid (nextF t = nextG t.size (byteAt t 0) (byteAt t 1) (byteAt t 2) (byteAt t 3)) := rfl
  generalize byteAt t 0 = c at *
  go_enter Tryz.func62, Tryz.ntmps62
  go_wp2_with fail
  go_light
  go_ret2
  refine ⟨?_, rfl⟩
  rw [HN.out]
  unfold nextG
  (repeat' split) <;> first | (simp [hb]; done) | (exfalso; omega)

set_option maxRecDepth 100000 in
set_option maxHeartbeats 4000000 in
theorem next_high (t : ByteArray) (w : World) (h0 : 0 < t.size) (hm : t.size ≤ maxLen) (hc : 248 ≤ byteAt t 0) (hc' : byteAt t 0 < 256) :
    Calls Tryz.prog 62 #[.string t] w fun e w' => e = .returned (.tuple #[.int .i64 (nextF t).1, .int .i64 (nextF t).2]) ∧ w = w' := by
  unfold maxLen at hm
  have i0 : (0 : Int) < (t.size : Int) := by omega
  have hb := byteAt_walk t 0 h0
  have HN : Hid (nextF t = nextG t.size (byteAt t 0) (byteAt t 1) (byteAt t 2) (byteAt t 3)) := rfl
  generalize byteAt t 0 = c at *
  go_enter Tryz.func62, Tryz.ntmps62
  go_wp2_with fail
  go_light
  go_ret2
  refine ⟨?_, rfl⟩
  rw [HN.out]
  unfold nextG
  (repeat' split) <;> first | (simp [hb]; done) | (exfalso; omega)

set_option maxRecDepth 100000 in
set_option maxHeartbeats 4000000 in
theorem next_two (t : ByteArray) (w : World) (h0 : 0 < t.size) (hm : t.size ≤ maxLen) (hc : 192 ≤ byteAt t 0) (hc' : byteAt t 0 < 224) :
    Calls Tryz.prog 62 #[.string t] w fun e w' => e = .returned (.tuple #[.int .i64 (nextF t).1, .int .i64 (nextF t).2]) ∧ w = w' := by
  unfold maxLen at hm
  have i0 : (0 : Int) < (t.size : Int) := by omega
  have hb := byteAt_walk t 0 h0
  have HN : Hid (nextF t = nextG t.size (byteAt t 0) (byteAt t 1) (byteAt t 2) (byteAt t 3)) := rfl
  by_cases hz : t.size < 2
  · generalize byteAt t 0 = c at *
    have i1 : (t.size : Int) < 2 := by omega
    go_enter Tryz.func62, Tryz.ntmps62
    go_wp2_with fail
    all_goals go_light
    go_ret2
    refine ⟨ret_pair (by rw [HN.out]; unfold nextG; (repeat' split) <;> first | rfl | (exfalso; omega)), rfl⟩
  · have i1 : (2 : Int) ≤ (t.size : Int) := by omega
    have hb1 := byteAt_walk t 1 (by omega)
    have hd1 := byteAt_bd t 1
    generalize byteAt t 0 = c at *
    generalize byteAt t 1 = d at *
    generalize byteAt t 2 = e at *
    generalize byteAt t 3 = f at *
    go_enter Tryz.func62, Tryz.ntmps62
    go_wp2_with fail
    go_rounds 3
    all_goals go_light
    all_goals go_ret2
    all_goals refine ⟨ret_pair (by rw [HN.out]; unfold nextG finF; (repeat' split) <;> first | rfl | (exfalso; omega)), rfl⟩

set_option maxRecDepth 100000 in
set_option maxHeartbeats 4000000 in
theorem next_three (t : ByteArray) (w : World) (h0 : 0 < t.size) (hm : t.size ≤ maxLen) (hc : 224 ≤ byteAt t 0) (hc' : byteAt t 0 < 240) :
    Calls Tryz.prog 62 #[.string t] w fun e w' => e = .returned (.tuple #[.int .i64 (nextF t).1, .int .i64 (nextF t).2]) ∧ w = w' := by
  unfold maxLen at hm
  have i0 : (0 : Int) < (t.size : Int) := by omega
  have hb := byteAt_walk t 0 h0
  have HN : Hid (nextF t = nextG t.size (byteAt t 0) (byteAt t 1) (byteAt t 2) (byteAt t 3)) := rfl
  by_cases hz : t.size < 3
  · generalize byteAt t 0 = c at *
    have i1 : (t.size : Int) < 3 := by omega
    go_enter Tryz.func62, Tryz.ntmps62
    go_wp2_with fail
    all_goals go_light
    go_ret2
    refine ⟨ret_pair (by rw [HN.out]; unfold nextG; (repeat' split) <;> first | rfl | (exfalso; omega)), rfl⟩
  · have i1 : (3 : Int) ≤ (t.size : Int) := by omega
    have hb1 := byteAt_walk t 1 (by omega)
    have hd1 := byteAt_bd t 1
    have hb2 := byteAt_walk t 2 (by omega)
    have hd2 := byteAt_bd t 2
    generalize byteAt t 0 = c at *
    generalize byteAt t 1 = d at *
    generalize byteAt t 2 = e at *
    generalize byteAt t 3 = f at *
    go_enter Tryz.func62, Tryz.ntmps62
    go_wp2_with fail
    go_rounds 4
    all_goals go_light
    all_goals go_ret2
    all_goals refine ⟨ret_pair (by rw [HN.out]; unfold nextG finF; (repeat' split) <;> first | rfl | (exfalso; omega)), rfl⟩

set_option maxRecDepth 100000 in
set_option maxHeartbeats 4000000 in
theorem next_four (t : ByteArray) (w : World) (h0 : 0 < t.size) (hm : t.size ≤ maxLen) (hc : 240 ≤ byteAt t 0) (hc' : byteAt t 0 < 248) :
    Calls Tryz.prog 62 #[.string t] w fun e w' => e = .returned (.tuple #[.int .i64 (nextF t).1, .int .i64 (nextF t).2]) ∧ w = w' := by
  unfold maxLen at hm
  have i0 : (0 : Int) < (t.size : Int) := by omega
  have hb := byteAt_walk t 0 h0
  have HN : Hid (nextF t = nextG t.size (byteAt t 0) (byteAt t 1) (byteAt t 2) (byteAt t 3)) := rfl
  by_cases hz : t.size < 4
  · generalize byteAt t 0 = c at *
    have i1 : (t.size : Int) < 4 := by omega
    go_enter Tryz.func62, Tryz.ntmps62
    go_wp2_with fail
    all_goals go_light
    go_ret2
    refine ⟨ret_pair (by rw [HN.out]; unfold nextG; (repeat' split) <;> first | rfl | (exfalso; omega)), rfl⟩
  · have i1 : (4 : Int) ≤ (t.size : Int) := by omega
    have hb1 := byteAt_walk t 1 (by omega)
    have hd1 := byteAt_bd t 1
    have hb2 := byteAt_walk t 2 (by omega)
    have hd2 := byteAt_bd t 2
    have hb3 := byteAt_walk t 3 (by omega)
    have hd3 := byteAt_bd t 3
    generalize byteAt t 0 = c at *
    generalize byteAt t 1 = d at *
    generalize byteAt t 2 = e at *
    generalize byteAt t 3 = f at *
    go_enter Tryz.func62, Tryz.ntmps62
    go_wp2_with fail
    go_rounds 5
    all_goals go_light
    all_goals go_ret2
    all_goals refine ⟨ret_pair (by rw [HN.out]; unfold nextG finF; (repeat' split) <;> first | rfl | (exfalso; omega)), rfl⟩

theorem next_any (t : ByteArray) (w : World) (h0 : 0 < t.size) (hm : t.size ≤ maxLen) :
    Calls Tryz.prog 62 #[.string t] w fun e w' => e = .returned (.tuple #[.int .i64 (nextF t).1, .int .i64 (nextF t).2]) ∧ w = w' := by
  have h := byteAt_bd t 0
  by_cases h1 : byteAt t 0 < 128
  · exact next_one t w h0 hm h.1 h1
  by_cases h2 : byteAt t 0 < 192
  · exact next_low t w h0 hm (by omega) h2
  by_cases h3 : byteAt t 0 < 224
  · exact next_two t w h0 hm (by omega) h3
  by_cases h4 : byteAt t 0 < 240
  · exact next_three t w h0 hm (by omega) h4
  by_cases h5 : byteAt t 0 < 248
  · exact next_four t w h0 hm (by omega) h5
  · exact next_high t w h0 hm (by omega) (by omega)
end Go.Proofs.YtfagfkfcokmclaaGreatDoor
end
section
namespace Go.Proofs.YtfagfkfcokmclaaGreatDoor
open Go.RowKit

/-- What Points answers. -/
def PointsPost (r : Option (List Int)) (w : World) (e : Ending) (w' : World) : Prop :=
  ∃ a n cap, e = .returned (.tuple #[.slice a n cap, .bool r.isSome]) ∧ IRow w' a n (r.getD []) ∧ Below w.heap.size w w' ∧ n ≤ cap

theorem IRow.owns {w : World} {base : Nat} {t : TypeId} {v : Value} {xs : List Int} (h : w.ownsRow base t 1 v xs.length (xs.map (Value.int .i64))) (hl : xs.length ≤ 1152921504606846976) : ∃ a cap, v = .slice a xs.length cap ∧ IRow w a xs.length xs ∧ xs.length ≤ cap := by
  obtain ⟨_, h⟩ := h
  rcases h with ⟨rfl, h0⟩ | ⟨g, cap, cur, rfl, _, hg, hc, _, hs, ht⟩
  · have : xs = [] := List.length_eq_zero_iff.1 h0
    subst this
    exact ⟨none, 0, rfl, IRow.nil _ _, Nat.le_refl _⟩
  · refine ⟨_, cap, rfl, ⟨rfl, hl, fun hn => ⟨g, 0, rfl, Blk.lt (show Blk w g cur t from hg), fun j x hx => ?_⟩⟩, hc⟩
    have hb : Blk w g cur t := hg
    rw [hb.cell]
    have hj : j < xs.length := by
      rcases Nat.lt_or_ge j xs.length with h' | h'
      · exact h'
      · simp [List.getElem?_eq_none h'] at hx
    have h1 : (cur.toList.take (xs.length * 1))[j]? = some (Value.int .i64 x) := by rw [ht]; simp [hx]
    rw [List.getElem?_take_of_lt (by omega)] at h1
    simpa using h1

theorem info3 : (Tryz.prog.info? 3).map (fun i => (i.zero, i.size, i.bytes)) = some (some (.int .i64 0), 1, 8) := by kernel_rfl

set_option maxRecDepth 100000 in
set_option maxHeartbeats 1000000 in
theorem points_any (t : ByteArray) (w : World) (hm : t.size * 8 ≤ 140737488351232) :
    Calls Tryz.prog 26 #[.string t] w (PointsPost (pointsF t) w) := by
  obtain ⟨i0, hi, hz0, hz1, hz2⟩ := info_parts info3
  have HP : Hid (pointsF t = ptsR t (t.size + 1) 0) := rfl
  go_enter Tryz.func26, Tryz.ntmps26
  go_wp2_with fail
  go_loopg [4, 5] (t.size + 1) (fun m v jj wr => ∃ (j : Nat) (xs : List Int), j ≤ t.size ∧ t.size < m + j ∧ jj = .int .i64 j ∧ wr.ownsRow w.heap.size 3 1 v xs.length (xs.map (Value.int .i64)) ∧ xs.length ≤ j ∧ Below w.heap.size w wr ∧ pointsF t = (ptsR t m j).map (xs ++ ·))
  case atStart => exact ⟨0, [], Nat.zero_le _, by omega, rfl, ⟨rfl, .inl ⟨rfl, rfl⟩⟩, Nat.le_refl _, Below.refl _ _, by rw [HP.out]; simp⟩
  case round =>
    obtain ⟨j, xs, hj, hmj, rfl, hown, hlen, hb, hp⟩ := hrel
    have HPP := Lib.hid hp
    clear hp HP
    by_cases hlt : j < t.size
    · have hlt' : (j : Int) < (t.size : Int) := by omega
      have hsz : (t.extract j t.size).size = t.size - j := by simp
      obtain ⟨q1, q2, q3⟩ := nextF_bd (t.extract j t.size)
      have HN := Lib.hid (next_any (t.extract j t.size) wr (by omega) (by unfold maxLen; omega))
      have hstep : Hid (pointsF t = (if (nextF (t.extract j t.size)).2 = 0 then none else (ptsR t (gk - 1) (j + (nextF (t.extract j t.size)).2.toNat)).map ((nextF (t.extract j t.size)).1 :: ·)).map (xs ++ ·)) := by
        unfold Hid
        rw [HPP.out]
        cases gk with
        | zero => omega
        | succ g => simp only [ptsR, if_pos hlt, Nat.add_sub_cancel]
      rw [hsz] at q3
      generalize nextF (t.extract j t.size) = r at *
      obtain ⟨p, n⟩ := r
      simp only at q1 q2 q3 hstep
      clear HPP hsz
      cases e0 : (n == 0)
      · have hn : n ≠ 0 := by simpa using e0
        obtain ⟨q4, q5, q6⟩ := q3 hn (by omega)
        obtain ⟨k, rfl⟩ := Int.eq_ofNat_of_zero_le q1
        clear q3 hn
        go_wp2_with (first
          | (go_at_call 62; refine (HN.out).mono ?_; rintro e w1 ⟨rfl, rfl⟩)
          | (at_builtin; refine wpList_append_own _ rfl _ _ 41 rfl w.heap.size 3 i0 (.int .i64 0) 1 8 Tryz.underlying41 hi hz0 hz1 hz2 rfl (by decide) _ _ _ rfl (hown.alloc _) ⟨wr.heap.size, 0, none⟩ 1 1 [.int .i64 p] rfl rfl ?c1 ?c2 ?c3 ?c4 ?c5 ?_))
        case c1 => exact cell_one_new _ _ _
        case c2 => simp [Value.oneCell']
        case c3 => unfold maxLen; omega
        case c4 => omega
        case c5 => have := hb.size; simp; omega
        intro v' w1 hown1 hgrow1 _
        have hb1 : Below w.heap.size w w1 := (hb.alloc hb.size _).grown hgrow1 (by have := hb.size; simp; omega) (fun k hk => by
          rcases hown.2 with ⟨rfl, _⟩ | ⟨g, cap, cur, rfl, hg, _⟩
          · simp [Value.ownBlock] at hk
          · simp [Value.ownBlock] at hk; omega)
        have qa : (0 : Int) ≤ (j : Int) + (k : Int) := by omega
        have qb : (j : Int) + (k : Int) ≤ 9223372036854775807 := by omega
        clear hown hgrow1
        go_wp2_with fail
        go_roundg (gk - 1)
        case measure => omega
        case rel =>
          go_light
          have hk0 : k ≠ 0 := by intro h; subst h; simp at e0
          refine ⟨j + k, xs ++ [p], by omega, by omega, by go_num, by simpa using hown1, by simp; omega, hb1, ?_⟩
          rw [hstep.out, if_neg (by omega), Int.toNat_natCast]
          cases ptsR t (gk - 1) (j + k) with
          | none => simp
          | some l => simp
      · have hn0 : n = 0 := by simpa using e0
        have HF : Hid (pointsF t = none) := by unfold Hid; rw [hstep.out, if_pos hn0]; rfl
        clear hstep hown
        go_wp2_with (go_at_call 62; refine (HN.out).mono ?_; rintro e w1 ⟨rfl, rfl⟩)
        go_light
        go_ret2
        exact ⟨none, 0, 0, by rw [HF.out]; rfl, by rw [HF.out]; exact IRow.nil _ _, hb, Nat.le_refl _⟩
    · have HF : Hid (pointsF t = some xs) := by
        unfold Hid; rw [HPP.out]
        cases gk with
        | zero => omega
        | succ g => simp [ptsR, hlt]
      obtain ⟨a, cap, rfl, hI, hc⟩ := IRow.owns hown (by omega)
      have hlt' : (t.size : Int) ≤ (j : Int) := by omega
      clear hown HPP
      go_wp2_with fail
      go_light
      go_ret2
      exact ⟨a, xs.length, cap, by rw [HF.out]; rfl, by rw [HF.out]; exact hI, hb, hc⟩
end Go.Proofs.YtfagfkfcokmclaaGreatDoor
end
section
namespace Go.Proofs.YtfagfkfcokmclaaGreatDoor
open Go.RowKit

set_option maxHeartbeats 1000000 in
theorem xml_any (p : Int) (w : World) : Calls Tryz.prog 27 #[.int .i64 p] w fun e w' => e = .returned (.bool (xmlF p)) ∧ w = w' := by
  have hr : p < 9 ∨ p = 9 ∨ p = 10 ∨ (11 ≤ p ∧ p < 13) ∨ p = 13 ∨ (14 ≤ p ∧ p < 32) ∨ (32 ≤ p ∧ p ≤ 55295) ∨ (55296 ≤ p ∧ p ≤ 57343) ∨ (57344 ≤ p ∧ p ≤ 65533) ∨ (65534 ≤ p ∧ p ≤ 65535) ∨ (65536 ≤ p ∧ p ≤ 1114111) ∨ 1114112 ≤ p := by omega
  rcases hr with h | rfl | rfl | ⟨h, h'⟩ | rfl | ⟨h, h'⟩ | ⟨h, h'⟩ | ⟨h, h'⟩ | ⟨h, h'⟩ | ⟨h, h'⟩ | ⟨h, h'⟩ | h
  all_goals try (have b1 : (p == 9) = false := by rw [beq_eq_false_iff_ne]; omega)
  all_goals try (have b2 : (p == 10) = false := by rw [beq_eq_false_iff_ne]; omega)
  all_goals try (have b3 : (p == 13) = false := by rw [beq_eq_false_iff_ne]; omega)
  all_goals go_enter Tryz.func27, Tryz.ntmps27
  all_goals go_wp2
  all_goals go_light
  all_goals go_ret
  all_goals refine ⟨?_, rfl⟩
  all_goals unfold xmlF
  all_goals first
    | rfl
    | (refine congrArg (fun b => Ending.returned (Value.bool b)) (Eq.symm ?_); simp; omega)
    | (refine congrArg (fun b => Ending.returned (Value.bool b)) ?_; rw [Bool.eq_iff_iff]; simp; omega)
    | (exfalso; simp_all; done)
    | (exfalso; simp_all; omega)
    | trace_state

end Go.Proofs.YtfagfkfcokmclaaGreatDoor
end
section
namespace Go.Proofs.YtfagfkfcokmclaaGreatDoor
open Go.RowKit

theorem all_take (xs : List Int) (y : Int) (k : Nat) (h : xs[k]? = some y) (p : Int → Bool) : (xs.take (k+1)).all p = ((xs.take k).all p && p y) := by
  rw [List.take_add_one, h]
  simp

set_option maxRecDepth 100000 in
set_option maxHeartbeats 1000000 in
theorem valid_any (t : ByteArray) (w : World) (hm : t.size * 8 ≤ 140737488351232) :
    Calls Tryz.prog 15 #[.string t] w fun e w' => e = .returned (.bool (validF t)) ∧ Below w.heap.size w w' := by
  have HV : Hid (validF t = match pointsF t with | none => false | some l => l.all xmlF) := rfl
  go_enter Tryz.func15, Tryz.ntmps15
  go_wp2_with fail
  refine (points_any t w hm).mono ?_
  rintro e w1 ⟨a, n, cap, rfl, hI, hb, hc⟩
  generalize pointsF t = r at *
  cases r with
  | none =>
    have h0 : n = 0 := by have := hI.1; simpa using this.symm
    subst h0
    go_wp2_with fail
    go_loop [4, 5] (fun u v => u = .bool false ∧ v = .int .i64 0) (fun _ _ => 0)
    case atStart => exact ⟨rfl, rfl⟩
    case round =>
      obtain ⟨rfl, rfl⟩ := hrel
      go_wp2_with fail
      go_light
      go_ret
      exact ⟨by rw [HV.out]; rfl, hb⟩
  | some xs =>
    simp only [Option.getD_some] at hI
    have HI := Lib.hid hI
    have hn := hI.1
    have hn2 := hI.2.1
    clear hI
    go_wp2_with fail
    go_loopg [4, 5] (n + 1) (fun m u v wr => ∃ k : Nat, k ≤ n ∧ m + k = n + 1 ∧ v = .int .i64 k ∧ u = .bool ((xs.take k).all xmlF) ∧ Below w1.heap.size w1 wr)
    case atStart => exact ⟨0, Nat.zero_le _, by omega, rfl, by simp, Below.refl _ _⟩
    case round =>
      obtain ⟨k, hk, hmk, rfl, rfl, hwr⟩ := hrel
      by_cases hlk : k < n
      · obtain ⟨y, hyy⟩ : ∃ y, xs[k]? = some y := ⟨xs[k]'(by omega), by simp⟩
        obtain ⟨b, o, rfl, lb, hx⟩ := HI.out.2.2 (by omega)
        have y1 := hx k y hyy
        have HT := Lib.hid (all_take xs y k hyy xmlF)
        have z1 := hwr.cell (p := ⟨b, o + k, none⟩) lb
        rw [y1] at z1
        clear hx hyy y1
        cases hall : (xs.take k).all xmlF
        all_goals go_wp2_with (go_at_call 27; refine (xml_any _ _).mono ?_; rintro e w2 ⟨rfl, rfl⟩)
        all_goals
          go_roundg (gk - 1)
          case measure => omega
          case rel =>
            go_light
            exact ⟨k + 1, by omega, by omega, by go_num, by rw [HT.out, hall]; rfl, hwr⟩
      · have hfull : xs.take k = xs := List.take_of_length_le (by omega)
        have HF : Hid (validF t = (xs.take k).all xmlF) := by unfold Hid; rw [hfull, HV.out]
        clear hfull
        go_wp2_with fail
        go_light
        go_ret
        exact ⟨by rw [HF.out]; rfl, hb.trans (hwr.mono hb.size)⟩

end Go.Proofs.YtfagfkfcokmclaaGreatDoor
end

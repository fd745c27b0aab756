/- Points: what it returns, for every text of at most 2^47/8 bytes. -/
import Derived.Test.YtaoobajokhcimaaGreatDoorAtA
namespace Go.Proofs.YtaoobajokhcimaaGreatDoor
open Go.RowKit

/-- What Points answers. -/
def PointsPost (r : Option (List Int)) (w : World) (e : Ending) (w' : World) : Prop :=
  ∃ a n cap, e = .returned (.tuple #[.slice a n cap, .bool r.isSome]) ∧ IRow w' a n (r.getD []) ∧ Below w.heap.size w w' ∧ n ≤ cap

theorem IRow.owns {w : World} {base : Nat} {t : TypeId} {v : Value} {xs : List Int} (h : w.ownsRow base t 1 v xs.length (xs.map (Value.int .i64))) (hl : xs.length ≤ 1152921504606846976) : ∃ a cap, v = .slice a xs.length cap ∧ IRow w a xs.length xs ∧ xs.length ≤ cap := by
  obtain ⟨_, h⟩ := h
  rcases h with ⟨rfl, h0⟩ | ⟨g, cap, cur, rfl, _, hg, hc, _, hs, ht⟩
  · have : xs = [] := List.length_eq_zero_iff.1 h0
    subst this
    exact ⟨none, 0, rfl, IRow.nil _ _, Nat.le_refl _⟩
  · refine ⟨_, cap, rfl, ⟨rfl, hl, fun hn => ⟨g, 0, rfl, Blk.lt (show Blk w g cur t from hg), fun j x hx => ?_⟩⟩, hc⟩
    have hb : Blk w g cur t := hg
    rw [hb.cell]
    have hj : j < xs.length := by
      rcases Nat.lt_or_ge j xs.length with h' | h'
      · exact h'
      · simp [List.getElem?_eq_none h'] at hx
    have h1 : (cur.toList.take (xs.length * 1))[j]? = some (Value.int .i64 x) := by rw [ht]; simp [hx]
    rw [List.getElem?_take_of_lt (by omega)] at h1
    simpa using h1

theorem info3 : (Tryz.prog.info? 3).map (fun i => (i.zero, i.size, i.bytes)) = some (some (.int .i64 0), 1, 8) := by kernel_rfl

set_option maxRecDepth 100000 in
set_option maxHeartbeats 1000000 in
theorem points_any (t : ByteArray) (w : World) (hm : t.size * 8 ≤ 140737488351232) :
    Calls Tryz.prog 66 #[.string t] w (PointsPost (pointsF t) w) := by
  obtain ⟨i0, hi, hz0, hz1, hz2⟩ := info_parts info3
  have HP : Hid (pointsF t = ptsR t (t.size + 1) 0) := rfl
  go_enter Tryz.func66, Tryz.ntmps66
  go_wp2_with fail
  go_loopg [4, 5] (t.size + 1) (fun m v jj wr => ∃ (j : Nat) (xs : List Int), j ≤ t.size ∧ t.size < m + j ∧ jj = .int .i64 j ∧ wr.ownsRow w.heap.size 3 1 v xs.length (xs.map (Value.int .i64)) ∧ xs.length ≤ j ∧ Below w.heap.size w wr ∧ pointsF t = (ptsR t m j).map (xs ++ ·))
  case atStart => exact ⟨0, [], Nat.zero_le _, by omega, rfl, ⟨rfl, .inl ⟨rfl, rfl⟩⟩, Nat.le_refl _, Below.refl _ _, by rw [HP.out]; simp⟩
  case round =>
    obtain ⟨j, xs, hj, hmj, rfl, hown, hlen, hb, hp⟩ := hrel
    have HPP := Lib.hid hp
    clear hp HP
    by_cases hlt : j < t.size
    · have hlt' : (j : Int) < (t.size : Int) := by omega
      have hsz : (t.extract j t.size).size = t.size - j := by simp
      obtain ⟨q1, q2, q3⟩ := nextF_bd (t.extract j t.size)
      have HN := Lib.hid (next_any (t.extract j t.size) wr (by omega) (by unfold maxLen; omega))
      have hstep : Hid (pointsF t = (if (nextF (t.extract j t.size)).2 = 0 then none else (ptsR t (gk - 1) (j + (nextF (t.extract j t.size)).2.toNat)).map ((nextF (t.extract j t.size)).1 :: ·)).map (xs ++ ·)) := by
        unfold Hid
        rw [HPP.out]
        cases gk with
        | zero => omega
        | succ g => simp only [ptsR, if_pos hlt, Nat.add_sub_cancel]
      rw [hsz] at q3
      generalize nextF (t.extract j t.size) = r at *
      obtain ⟨p, n⟩ := r
      simp only at q1 q2 q3 hstep
      clear HPP hsz
      cases e0 : (n == 0)
      · have hn : n ≠ 0 := by simpa using e0
        obtain ⟨q4, q5, q6⟩ := q3 hn (by omega)
        obtain ⟨k, rfl⟩ := Int.eq_ofNat_of_zero_le q1
        clear q3 hn
        go_wp2_with (first
          | (go_at_call 92; refine (HN.out).mono ?_; rintro e w1 ⟨rfl, rfl⟩)
          | (at_builtin; refine wpList_append_own _ rfl _ _ 89 rfl w.heap.size 3 i0 (.int .i64 0) 1 8 Tryz.underlying89 hi hz0 hz1 hz2 rfl (by decide) _ _ _ rfl (hown.alloc _) ⟨wr.heap.size, 0, none⟩ 1 1 [.int .i64 p] rfl rfl ?c1 ?c2 ?c3 ?c4 ?c5 ?_))
        case c1 => exact cell_one_new _ _ _
        case c2 => simp [Value.oneCell']
        case c3 => unfold maxLen; omega
        case c4 => omega
        case c5 => have := hb.size; simp; omega
        intro v' w1 hown1 hgrow1 _
        have hb1 : Below w.heap.size w w1 := (hb.alloc hb.size _).grown hgrow1 (by have := hb.size; simp; omega) (fun k hk => by
          rcases hown.2 with ⟨rfl, _⟩ | ⟨g, cap, cur, rfl, hg, _⟩
          · simp [Value.ownBlock] at hk
          · simp [Value.ownBlock] at hk; omega)
        have qa : (0 : Int) ≤ (j : Int) + (k : Int) := by omega
        have qb : (j : Int) + (k : Int) ≤ 9223372036854775807 := by omega
        clear hown hgrow1
        go_wp2_with fail
        go_roundg (gk - 1)
        case measure => omega
        case rel =>
          go_light
          have hk0 : k ≠ 0 := by intro h; subst h; simp at e0
          refine ⟨j + k, xs ++ [p], by omega, by omega, by go_num, by simpa using hown1, by simp; omega, hb1, ?_⟩
          rw [hstep.out, if_neg (by omega), Int.toNat_natCast]
          cases ptsR t (gk - 1) (j + k) with
          | none => simp
          | some l => simp
      · have hn0 : n = 0 := by simpa using e0
        have HF : Hid (pointsF t = none) := by unfold Hid; rw [hstep.out, if_pos hn0]; rfl
        clear hstep hown
        go_wp2_with (go_at_call 92; refine (HN.out).mono ?_; rintro e w1 ⟨rfl, rfl⟩)
        go_light
        go_ret2
        exact ⟨none, 0, 0, by rw [HF.out]; rfl, by rw [HF.out]; exact IRow.nil _ _, hb, Nat.le_refl _⟩
    · have HF : Hid (pointsF t = some xs) := by
        unfold Hid; rw [HPP.out]
        cases gk with
        | zero => omega
        | succ g => simp [ptsR, hlt]
      obtain ⟨a, cap, rfl, hI, hc⟩ := IRow.owns hown (by omega)
      have hlt' : (t.size : Int) ≤ (j : Int) := by omega
      clear hown HPP
      go_wp2_with fail
      go_light
      go_ret2
      exact ⟨a, xs.length, cap, by rw [HF.out]; rfl, by rw [HF.out]; exact hI, hb, hc⟩
end Go.Proofs.YtaoobajokhcimaaGreatDoor

/- Next: what it returns, for every text that is not empty. -/
import Derived.Test.YtaoobajokhcimaaGreatDoorMgB
set_option linter.unusedSimpArgs false
set_option linter.unusedVariables false
namespace Go.Proofs.YtaoobajokhcimaaGreatDoor
open Go.RowKit

theorem byteAt_walk (t : ByteArray) (i : Nat) (h : i < t.size) : wrap64 ↑(t[i]'h).toNat = byteAt t i := by
  have e : byteAt t i = ((t[i]'h).toNat : Int) := by
    unfold byteAt
    rw [Array.getElem?_eq_getElem (by simpa using h)]
    rfl
  rw [e]
  have := (t[i]'h).toNat_lt
  unfold wrap64
  omega

theorem ret_pair {a b : Int} {p : Int × Int} (h : p = (a, b)) : Ending.returned (.tuple #[.int .i64 a, .int .i64 b]) = .returned (.tuple #[.int .i64 p.1, .int .i64 p.2]) := by rw [h]

set_option maxRecDepth 100000 in
set_option maxHeartbeats 4000000 in
theorem next_one (t : ByteArray) (w : World) (h0 : 0 < t.size) (hm : t.size ≤ maxLen) (hc : 0 ≤ byteAt t 0) (hc' : byteAt t 0 < 128) :
    Calls Tryz.prog 92 #[.string t] w fun e w' => e = .returned (.tuple #[.int .i64 (nextF t).1, .int .i64 (nextF t).2]) ∧ w = w' := by
  unfold maxLen at hm
  have i0 : (0 : Int) < (t.size : Int) := by omega
  have hb := byteAt_walk t 0 h0
  have HN : Hid (nextF t = nextG t.size (byteAt t 0) (byteAt t 1) (byteAt t 2) (byteAt t 3)) := rfl
  generalize byteAt t 0 = c at *
  go_enter Tryz.func92, Tryz.ntmps92
  go_wp2_with fail
  go_light
  go_ret2
  refine ⟨?_, rfl⟩
  rw [HN.out]
  unfold nextG
  (repeat' split) <;> first | (simp [hb]; done) | (exfalso; omega)

set_option maxRecDepth 100000 in
set_option maxHeartbeats 4000000 in
theorem next_low (t : ByteArray) (w : World) (h0 : 0 < t.size) (hm : t.size ≤ maxLen) (hc : 128 ≤ byteAt t 0) (hc' : byteAt t 0 < 192) :
    Calls Tryz.prog 92 #[.string t] w fun e w' => e = .returned (.tuple #[.int .i64 (nextF t).1, .int .i64 (nextF t).2]) ∧ w = w' := by
  unfold maxLen at hm
  have i0 : (0 : Int) < (t.size : Int) := by omega
  have hb := byteAt_walk t 0 h0
  have HN : Hid (nextF t = nextG t.size (byteAt t 0) (byteAt t 1) (byteAt t 2) (byteAt t 3)) := rfl
  generalize byteAt t 0 = c at *
  go_enter Tryz.func92, Tryz.ntmps92
  go_wp2_with fail
  go_light
  go_ret2
  refine ⟨?_, rfl⟩
  rw [HN.out]
  unfold nextG
  (repeat' split) <;> first | (simp [hb]; done) | (exfalso; omega)

set_option maxRecDepth 100000 in
set_option maxHeartbeats 4000000 in
theorem next_high (t : ByteArray) (w : World) (h0 : 0 < t.size) (hm : t.size ≤ maxLen) (hc : 248 ≤ byteAt t 0) (hc' : byteAt t 0 < 256) :
    Calls Tryz.prog 92 #[.string t] w fun e w' => e = .returned (.tuple #[.int .i64 (nextF t).1, .int .i64 (nextF t).2]) ∧ w = w' := by
  unfold maxLen at hm
  have i0 : (0 : Int) < (t.size : Int) := by omega
  have hb := byteAt_walk t 0 h0
  have HN : Hid (nextF t = nextG t.size (byteAt t 0) (byteAt t 1) (byteAt t 2) (byteAt t 3)) := rfl
  generalize byteAt t 0 = c at *
  go_enter Tryz.func92, Tryz.ntmps92
  go_wp2_with fail
  go_light
  go_ret2
  refine ⟨?_, rfl⟩
  rw [HN.out]
  unfold nextG
  (repeat' split) <;> first | (simp [hb]; done) | (exfalso; omega)

set_option maxRecDepth 100000 in
set_option maxHeartbeats 4000000 in
theorem next_two (t : ByteArray) (w : World) (h0 : 0 < t.size) (hm : t.size ≤ maxLen) (hc : 192 ≤ byteAt t 0) (hc' : byteAt t 0 < 224) :
    Calls Tryz.prog 92 #[.string t] w fun e w' => e = .returned (.tuple #[.int .i64 (nextF t).1, .int .i64 (nextF t).2]) ∧ w = w' := by
  unfold maxLen at hm
  have i0 : (0 : Int) < (t.size : Int) := by omega
  have hb := byteAt_walk t 0 h0
  have HN : Hid (nextF t = nextG t.size (byteAt t 0) (byteAt t 1) (byteAt t 2) (byteAt t 3)) := rfl
  by_cases hz : t.size < 2
  · generalize byteAt t 0 = c at *
    have i1 : (t.size : Int) < 2 := by omega
    go_enter Tryz.func92, Tryz.ntmps92
    go_wp2_with fail
    all_goals go_light
    go_ret2
    refine ⟨ret_pair (by rw [HN.out]; unfold nextG; (repeat' split) <;> first | rfl | (exfalso; omega)), rfl⟩
  · have i1 : (2 : Int) ≤ (t.size : Int) := by omega
    have hb1 := byteAt_walk t 1 (by omega)
    have hd1 := byteAt_bd t 1
    generalize byteAt t 0 = c at *
    generalize byteAt t 1 = d at *
    generalize byteAt t 2 = e at *
    generalize byteAt t 3 = f at *
    go_enter Tryz.func92, Tryz.ntmps92
    go_wp2_with fail
    go_rounds 3
    all_goals go_light
    all_goals go_ret2
    all_goals refine ⟨ret_pair (by rw [HN.out]; unfold nextG finF; (repeat' split) <;> first | rfl | (exfalso; omega)), rfl⟩

set_option maxRecDepth 100000 in
set_option maxHeartbeats 4000000 in
theorem next_three (t : ByteArray) (w : World) (h0 : 0 < t.size) (hm : t.size ≤ maxLen) (hc : 224 ≤ byteAt t 0) (hc' : byteAt t 0 < 240) :
    Calls Tryz.prog 92 #[.string t] w fun e w' => e = .returned (.tuple #[.int .i64 (nextF t).1, .int .i64 (nextF t).2]) ∧ w = w' := by
  unfold maxLen at hm
  have i0 : (0 : Int) < (t.size : Int) := by omega
  have hb := byteAt_walk t 0 h0
  have HN : Hid (nextF t = nextG t.size (byteAt t 0) (byteAt t 1) (byteAt t 2) (byteAt t 3)) := rfl
  by_cases hz : t.size < 3
  · generalize byteAt t 0 = c at *
    have i1 : (t.size : Int) < 3 := by omega
    go_enter Tryz.func92, Tryz.ntmps92
    go_wp2_with fail
    all_goals go_light
    go_ret2
    refine ⟨ret_pair (by rw [HN.out]; unfold nextG; (repeat' split) <;> first | rfl | (exfalso; omega)), rfl⟩
  · have i1 : (3 : Int) ≤ (t.size : Int) := by omega
    have hb1 := byteAt_walk t 1 (by omega)
    have hd1 := byteAt_bd t 1
    have hb2 := byteAt_walk t 2 (by omega)
    have hd2 := byteAt_bd t 2
    generalize byteAt t 0 = c at *
    generalize byteAt t 1 = d at *
    generalize byteAt t 2 = e at *
    generalize byteAt t 3 = f at *
    go_enter Tryz.func92, Tryz.ntmps92
    go_wp2_with fail
    go_rounds 4
    all_goals go_light
    all_goals go_ret2
    all_goals refine ⟨ret_pair (by rw [HN.out]; unfold nextG finF; (repeat' split) <;> first | rfl | (exfalso; omega)), rfl⟩

set_option maxRecDepth 100000 in
set_option maxHeartbeats 4000000 in
theorem next_four (t : ByteArray) (w : World) (h0 : 0 < t.size) (hm : t.size ≤ maxLen) (hc : 240 ≤ byteAt t 0) (hc' : byteAt t 0 < 248) :
    Calls Tryz.prog 92 #[.string t] w fun e w' => e = .returned (.tuple #[.int .i64 (nextF t).1, .int .i64 (nextF t).2]) ∧ w = w' := by
  unfold maxLen at hm
  have i0 : (0 : Int) < (t.size : Int) := by omega
  have hb := byteAt_walk t 0 h0
  have HN : Hid (nextF t = nextG t.size (byteAt t 0) (byteAt t 1) (byteAt t 2) (byteAt t 3)) := rfl
  by_cases hz : t.size < 4
  · generalize byteAt t 0 = c at *
    have i1 : (t.size : Int) < 4 := by omega
    go_enter Tryz.func92, Tryz.ntmps92
    go_wp2_with fail
    all_goals go_light
    go_ret2
    refine ⟨ret_pair (by rw [HN.out]; unfold nextG; (repeat' split) <;> first | rfl | (exfalso; omega)), rfl⟩
  · have i1 : (4 : Int) ≤ (t.size : Int) := by omega
    have hb1 := byteAt_walk t 1 (by omega)
    have hd1 := byteAt_bd t 1
    have hb2 := byteAt_walk t 2 (by omega)
    have hd2 := byteAt_bd t 2
    have hb3 := byteAt_walk t 3 (by omega)
    have hd3 := byteAt_bd t 3
    generalize byteAt t 0 = c at *
    generalize byteAt t 1 = d at *
    generalize byteAt t 2 = e at *
    generalize byteAt t 3 = f at *
    go_enter Tryz.func92, Tryz.ntmps92
    go_wp2_with fail
    go_rounds 5
    all_goals go_light
    all_goals go_ret2
    all_goals refine ⟨ret_pair (by rw [HN.out]; unfold nextG finF; (repeat' split) <;> first | rfl | (exfalso; omega)), rfl⟩

theorem next_any (t : ByteArray) (w : World) (h0 : 0 < t.size) (hm : t.size ≤ maxLen) :
    Calls Tryz.prog 92 #[.string t] w fun e w' => e = .returned (.tuple #[.int .i64 (nextF t).1, .int .i64 (nextF t).2]) ∧ w = w' := by
  have h := byteAt_bd t 0
  by_cases h1 : byteAt t 0 < 128
  · exact next_one t w h0 hm h.1 h1
  by_cases h2 : byteAt t 0 < 192
  · exact next_low t w h0 hm (by omega) h2
  by_cases h3 : byteAt t 0 < 224
  · exact next_two t w h0 hm (by omega) h3
  by_cases h4 : byteAt t 0 < 240
  · exact next_three t w h0 hm (by omega) h4
  by_cases h5 : byteAt t 0 < 248
  · exact next_four t w h0 hm (by omega) h5
  · exact next_high t w h0 hm (by omega) (by omega)
end Go.Proofs.YtaoobajokhcimaaGreatDoor

/- The sum of a row of numbers. -/
import Derived.Test.YtgbghbeolndfiaaGreatDoorWaI
set_option linter.unusedSimpArgs false
set_option linter.unusedVariables false
namespace Go.Proofs.YtgbghbeolndfiaaGreatDoor
open Go.RowKit

/-- The sum from a number on: what there is, or the first error. -/
def sumG : Int → Int → List (Int × Int) → Int × Int × Int
  | u, v, [] => (u, v, 0)
  | u, v, p :: r => if (addF u v p.1 p.2).2.2 == 0 then sumG (addF u v p.1 p.2).1 (addF u v p.1 p.2).2.1 r else (0, 0, (addF u v p.1 p.2).2.2)
theorem sumG_ok {u v x y n s : Int} {r : List (Int × Int)} (h : addF u v n s = (x, y, 0)) : sumG u v ((n, s) :: r) = sumG x y r := by
  rw [sumG]
  simp only [h]
  simp
theorem sumG_err {u v n s : Int} {r : List (Int × Int)} (h : addF u v n s = (0, 0, 53)) : sumG u v ((n, s) :: r) = (0, 0, 53) := by
  rw [sumG]
  simp only [h]
  simp
/-- A number of a right row, with its scale as a natural number. -/
theorem rts_at {xs : List (Int × Int)} (hx : ∀ p ∈ xs, Rt p.1 p.2) {j : Nat} (hj : j < xs.length) : ∃ (n : Int) (s : Nat), xs[j]? = some (n, (s : Int)) ∧ Rt n (s : Int) ∧ xs.drop j = (n, (s : Int)) :: xs.drop (j + 1) := by
  have h := hx xs[j] (List.getElem_mem hj)
  obtain ⟨s, hs⟩ : ∃ s : Nat, xs[j].2 = (s : Int) := ⟨xs[j].2.toNat, by have := h.s0; omega⟩
  have e : xs[j] = (xs[j].1, (s : Int)) := by rw [← hs]
  refine ⟨xs[j].1, s, ?_, by rw [← hs]; exact h, ?_⟩
  · rw [List.getElem?_eq_getElem hj, e]
  · rw [List.drop_eq_getElem_cons hj, ← e]
set_option maxHeartbeats 2000000 in
theorem sum_any (a : Option Addr) (c : Nat) (xs : List (Int × Int)) (hx : ∀ p ∈ xs, Rt p.1 p.2) (w : World) (hR : NRow w a xs) (hl : xs.length ≤ 1000000) : Calls Tryz.prog 24 #[.slice a xs.length c] w fun e w' =>
    e = .returned (.tuple #[.agg #[.int .i64 (sumG 0 0 xs).1, .int .i64 (sumG 0 0 xs).2.1], .int .i64 (sumG 0 0 xs).2.2]) ∧ Below w.heap.size w w' := by
  have HR := Lib.hid hR
  have HX := Lib.hid hx
  clear hR hx
  obtain ⟨r1, r2, r3, hr⟩ : ∃ r1 r2 r3, sumG 0 0 xs = (r1, r2, r3) := ⟨_, _, _, rfl⟩
  rw [hr]
  have HS := Lib.hid hr
  clear hr
  go_enter Tryz.func24, Tryz.ntmps24
  go_wp2_with fail
  go_loopg [11] (xs.length + 1) (fun m jj wr => ∃ (j : Nat) (u : Int) (v : Nat), j ≤ xs.length ∧ m + j = xs.length + 1 ∧ jj = .int .i64 (j : Int) ∧ Below w.heap.size w wr ∧ Blk wr w.heap.size #[.int .i64 0, .int .i64 0] 23 ∧ Blk wr (w.heap.size + 1) #[.int .i64 u, .int .i64 (v : Int)] 23 ∧ Rt u v ∧ sumG u v (xs.drop j) = (r1, r2, r3))
  case atStart =>
    refine ⟨0, 0, 0, by omega, by omega, rfl, by go_grown, ?_, ?_, Rt.zero, HS.out⟩
    · exact Blk.alloc (Blk.here rfl rfl) _
    · exact Blk.here rfl (by simp)
  case round =>
    obtain ⟨j, u, v, hj, hmj, rfl, hw, E0, E1, hv, hs⟩ := hrel
    have k0 : w.heap.size < wr.heap.size := E0.lt
    have k1 : w.heap.size + 1 < wr.heap.size := E1.lt
    obtain ⟨c00, c01, f00, f01⟩ := E0.two
    obtain ⟨c10, c11, f10, f11⟩ := E1.two
    by_cases hlt : j < xs.length
    · obtain ⟨n, s, hjx, hn, hd⟩ := rts_at HX.out hlt
      rcases HR.out with h0 | ⟨b, rfl, hb, hc⟩
      · rw [h0] at hlt; simp at hlt
      obtain ⟨x0, x1⟩ := hc j n s hjx
      have y0 := hw.cell (p := ⟨b, j * 2, none⟩) hb
      have y1 := hw.cell (p := ⟨b, j * 2 + 1, none⟩) hb
      rw [x0] at y0
      rw [x1] at y1
      have hb' : b < wr.heap.size := Nat.lt_of_lt_of_le hb hw.size
      rw [hd] at hs
      clear x0 x1 hc hjx hd
      have i0 : decide ((j : Int) < (xs.length : Int)) = true := by simp; omega
      have AD := Lib.hid (fun w => add_any u n v s hv hn w)
      rcases addF_cases hv hn with ha | ⟨x, y, ha, hxy, -⟩
      · rw [sumG_err ha] at hs
        obtain ⟨rfl, rfl, rfl⟩ : r1 = 0 ∧ r2 = 0 ∧ r3 = 53 := by simpa [eq_comm] using hs
        rw [ha] at AD
        have HW := Lib.hid hw
        clear hs hv hn ha HS HX HR
        go_wp2_with (go_at_call 11; with_reducible refine (AD.out _).mono ?_; rintro e w1 ⟨rfl, hb1⟩
                     have F0 := (E0.alloc _).below hb1 (by have := E0.lt; simp; omega)
                     have F1 := (E1.alloc _).below hb1 (by have := E1.lt; simp; omega)
                     have l0 : w.heap.size < w1.heap.size := F0.lt
                     have l1 : w.heap.size + 1 < w1.heap.size := F1.lt
                     have hw1 : Below w.heap.size w w1 := (HW.out.alloc HW.out.size _).trans (hb1.mono (by have := HW.out.size; simp; omega))
                     clear hb1 c00 c01 f00 f01 c10 c11 f10 f11 E0 E1
                     obtain ⟨c00, c01, f00, f01⟩ := F0.two
                     obtain ⟨c10, c11, f10, f11⟩ := F1.two)
        refine bodyPost_ret (v := .tuple #[.agg #[.int .i64 0, .int .i64 0], .int .i64 53]) (by simp [results, Tryz.results24, go_sem, c00, c01, f00, f01]) rfl ⟨rfl, ?_⟩
        go_grown
        all_goals first | exact hw1 | exact hw1.size | omega
      · rw [sumG_ok ha] at hs
        rw [ha] at AD
        have HW := Lib.hid hw
        have HSS := Lib.hid hs
        clear hs hv hn ha HS
        go_wp2_with (go_at_call 11; with_reducible refine (AD.out _).mono ?_; rintro e w1 ⟨rfl, hb1⟩
                     have F0 := (E0.alloc _).below hb1 (by have := E0.lt; simp; omega)
                     have F1 := (E1.alloc _).below hb1 (by have := E1.lt; simp; omega)
                     have l0 : w.heap.size < w1.heap.size := F0.lt
                     have l1 : w.heap.size + 1 < w1.heap.size := F1.lt
                     have hw1 : Below w.heap.size w w1 := (HW.out.alloc HW.out.size _).trans (hb1.mono (by have := HW.out.size; simp; omega))
                     clear hb1 c00 c01 f00 f01 c10 c11 f10 f11 E0 E1
                     obtain ⟨c00, c01, f00, f01⟩ := F0.two
                     obtain ⟨c10, c11, f10, f11⟩ := F1.two)
        go_roundg (gk - 1)
        case measure => omega
        case rel =>
          obtain ⟨y', rfl⟩ : ∃ y' : Nat, y = (y' : Int) := ⟨y.toNat, by have := hxy.s0; omega⟩
          refine ⟨j + 1, x, y', by omega, by omega, by go_num, ?_, ?_, ?_, hxy, HSS.out⟩
          · go_grown
            all_goals first | exact hw1 | exact hw1.size | omega
          · exact (F0.other (by simp) _).other (by simp) _
          · exact (F1.set 0 _).set 1 _
    · have i0 : decide ((j : Int) < (xs.length : Int)) = false := by simp; omega
      rw [List.drop_eq_nil_of_le (by omega), sumG] at hs
      obtain ⟨rfl, rfl, rfl⟩ : r1 = u ∧ r2 = v ∧ r3 = 0 := by simpa [eq_comm] using hs
      clear hs HS HX HR
      go_wp2_with fail
      refine bodyPost_ret (v := .tuple #[.agg #[.int .i64 r1, .int .i64 (v : Int)], .int .i64 0]) (by simp [results, Tryz.results24, go_sem, c00, c01, f00, f01]) rfl ⟨rfl, ?_⟩
      go_grown
      all_goals first | exact hw | exact hw.size | omega
end Go.Proofs.YtgbghbeolndfiaaGreatDoor

/- Valid and Name: what they return, for every text of at most 2^47/8 bytes. -/
import Derived.Test.YtaoobajokhcimaaGreatDoorAtC
namespace Go.Proofs.YtaoobajokhcimaaGreatDoor
open Go.RowKit

theorem all_take (xs : List Int) (y : Int) (k : Nat) (h : xs[k]? = some y) (p : Int → Bool) : (xs.take (k+1)).all p = ((xs.take k).all p && p y) := by
  rw [List.take_add_one, h]
  simp

set_option maxRecDepth 100000 in
set_option maxHeartbeats 1000000 in
theorem valid_any (t : ByteArray) (w : World) (hm : t.size * 8 ≤ 140737488351232) :
    Calls Tryz.prog 40 #[.string t] w fun e w' => e = .returned (.bool (validF t)) ∧ Below w.heap.size w w' := by
  have HV : Hid (validF t = match pointsF t with | none => false | some l => l.all xmlF) := rfl
  go_enter Tryz.func40, Tryz.ntmps40
  go_wp2_with fail
  refine (points_any t w hm).mono ?_
  rintro e w1 ⟨a, n, cap, rfl, hI, hb, hc⟩
  generalize pointsF t = r at *
  cases r with
  | none =>
    have h0 : n = 0 := by have := hI.1; simpa using this.symm
    subst h0
    go_wp2_with fail
    go_loop [4, 5] (fun u v => u = .bool false ∧ v = .int .i64 0) (fun _ _ => 0)
    case atStart => exact ⟨rfl, rfl⟩
    case round =>
      obtain ⟨rfl, rfl⟩ := hrel
      go_wp2_with fail
      go_light
      go_ret
      exact ⟨by rw [HV.out]; rfl, hb⟩
  | some xs =>
    simp only [Option.getD_some] at hI
    have HI := Lib.hid hI
    have hn := hI.1
    have hn2 := hI.2.1
    clear hI
    go_wp2_with fail
    go_loopg [4, 5] (n + 1) (fun m u v wr => ∃ k : Nat, k ≤ n ∧ m + k = n + 1 ∧ v = .int .i64 k ∧ u = .bool ((xs.take k).all xmlF) ∧ Below w1.heap.size w1 wr)
    case atStart => exact ⟨0, Nat.zero_le _, by omega, rfl, by simp, Below.refl _ _⟩
    case round =>
      obtain ⟨k, hk, hmk, rfl, rfl, hwr⟩ := hrel
      by_cases hlk : k < n
      · obtain ⟨y, hyy⟩ : ∃ y, xs[k]? = some y := ⟨xs[k]'(by omega), by simp⟩
        obtain ⟨b, o, rfl, lb, hx⟩ := HI.out.2.2 (by omega)
        have y1 := hx k y hyy
        have HT := Lib.hid (all_take xs y k hyy xmlF)
        have z1 := hwr.cell (p := ⟨b, o + k, none⟩) lb
        rw [y1] at z1
        clear hx hyy y1
        cases hall : (xs.take k).all xmlF
        all_goals go_wp2_with (go_at_call 67; refine (xml_any _ _).mono ?_; rintro e w2 ⟨rfl, rfl⟩)
        all_goals
          go_roundg (gk - 1)
          case measure => omega
          case rel =>
            go_light
            exact ⟨k + 1, by omega, by omega, by go_num, by rw [HT.out, hall]; rfl, hwr⟩
      · have hfull : xs.take k = xs := List.take_of_length_le (by omega)
        have HF : Hid (validF t = (xs.take k).all xmlF) := by unfold Hid; rw [hfull, HV.out]
        clear hfull
        go_wp2_with fail
        go_light
        go_ret
        exact ⟨by rw [HF.out]; rfl, hb.trans (hwr.mono hb.size)⟩

end Go.Proofs.YtaoobajokhcimaaGreatDoor

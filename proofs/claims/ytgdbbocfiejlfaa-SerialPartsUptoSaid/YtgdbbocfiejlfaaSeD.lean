/- Texts put one behind the other. -/
import Derived.Test.YtgdbbocfiejlfaaSeC
import Derived.Deep.LoopGhost
import Derived.IntWalk
set_option linter.unusedSimpArgs false
set_option linter.unusedVariables false
set_option linter.constructorNameAsVariable false
namespace Go.Proofs.Ytgdbbocfiejlfaa
open Go.RowKit

def catF (xs : List ByteArray) : List UInt8 := xs.flatMap fun x => x.data.toList
theorem catF_nil : catF [] = [] := rfl
theorem catF_snoc (xs : List ByteArray) (j : Nat) (x : ByteArray) (h : xs[j]? = some x) : catF (xs.take (j + 1)) = catF (xs.take j) ++ x.data.toList := by
  unfold catF
  rw [List.take_add_one, h, List.flatMap_append]
  simp
theorem catF_le (xs : List ByteArray) (j : Nat) : (catF (xs.take j)).length ≤ (catF xs).length := by
  conv => rhs; rw [← List.take_append_drop j xs]
  unfold catF
  rw [List.flatMap_append, List.length_append]
  omega
set_option maxRecDepth 100000 in
set_option maxHeartbeats 2000000 in
theorem put_any (B b q c : Nat) (ok : Bool) (bs : List UInt8) (xs : List ByteArray) (w : World) (h : WB B b ok bs w) (hB : Blk w q (xs.map Value.string).toArray 9) (hlen : bs.length + (catF xs).length ≤ 140737488355328) (hBw : B ≤ w.heap.size) (hxl : xs.length ≤ 1000000) :
    Calls Try.prog 12 #[.pointer (some ⟨b, 0, none⟩), .slice (some ⟨q, 0, none⟩) xs.length c] w fun e w' => e = .returned (.tuple #[]) ∧ WB B b ok (bs ++ catF xs) w' ∧ WK B w w' := by
  have HW := Lib.hid h
  have HB := Lib.hid hB
  clear h hB
  go_enter Try.func12, Try.ntmps12
  go_wp2_with fail
  go_loopg [8] (xs.length + 1) (fun m ii wr => ∃ j : Nat, j ≤ xs.length ∧ m + j = xs.length + 1 ∧ ii = .int .i64 (j : Int) ∧ Hid (WB B b ok (bs ++ catF (xs.take j)) wr ∧ WK B w wr))
  case atStart => exact ⟨0, by omega, by omega, rfl, by unfold Hid; rw [List.take_zero, catF_nil, List.append_nil]; exact ⟨HW.out, WK.refl _ _⟩⟩
  case round =>
    obtain ⟨j, hj, hmj, rfl, HD⟩ := hrel
    have hj0 : (0 : Int) ≤ (j : Int) := Int.natCast_nonneg _
    by_cases hlt : j < xs.length
    · have i0 : decide ((j : Int) < (xs.length : Int)) = true := by simp; omega
      have i6 : (j : Int) < (xs.length : Int) := by omega
      obtain ⟨x, hjx⟩ : ∃ x, xs[j]? = some x := ⟨xs[j], by simp [hlt]⟩
      have hq := (HD.out.2.oth q _ _ (by decide) HB.out)
      have kq := hq.lt
      have u0 : wr.cell? ⟨q, j, none⟩ = some (.string x) := by rw [hq.cell j]; simp [hjx]
      have hcs := catF_snoc xs j x hjx
      have hle := catF_le xs (j + 1)
      have hwr := HD.out.2.bl.size
      have hsz : x.data.toList.length = x.size := rfl
      have hlw : (bs ++ catF (xs.take j)).length + x.size ≤ 140737488355328 := by
        rw [hcs, List.length_append] at hle
        rw [List.length_append]
        omega
      have CW := Lib.hid (write_any B b ok (bs ++ catF (xs.take j)) x wr HD.out.1 hlw (by omega))
      have HW2 := Lib.hid HD.out.2
      have HCS := Lib.hid hcs
      clear HD hjx hq hcs hle
      go_wp2_with fail
      with_reducible refine CW.out.mono ?_
      rintro e w1 ⟨rfl, hw1, hk1⟩
      have HN : Hid (WB B b ok (bs ++ catF (xs.take (j + 1))) w1 ∧ WK B w w1) := by
        unfold Hid
        rw [HCS.out, ← List.append_assoc]
        exact ⟨hw1, HW2.out.trans hk1⟩
      clear hw1 hk1 CW
      go_wp2_with fail
      go_roundg (gk - 1)
      case measure => omega
      case rel => exact ⟨j + 1, by omega, by omega, by go_num, HN⟩
    · have i0 : decide ((j : Int) < (xs.length : Int)) = false := by simp; omega
      have hd := HD.out
      rw [List.take_of_length_le (by omega)] at hd
      clear HD HW HB
      go_wp2_with fail
      go_end0
      exact ⟨rfl, hd⟩
end Go.Proofs.Ytgdbbocfiejlfaa

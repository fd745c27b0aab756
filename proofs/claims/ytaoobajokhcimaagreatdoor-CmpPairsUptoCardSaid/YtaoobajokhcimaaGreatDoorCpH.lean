/- The document's examples of comparisons. -/
import Derived.Test.YtaoobajokhcimaaGreatDoorCpG
set_option linter.unusedSimpArgs false
set_option linter.unusedVariables false
set_option linter.constructorNameAsVariable false
namespace Go.Proofs.YtaoobajokhcimaaGreatDoor
open Go.RowKit

theorem lof_any (n : Int) (w : World) : Calls Tryz.prog 57 #[.int .i64 n] w fun e w' => e = .returned (.agg #[.int .i64 1, .int .i64 n, .int .i64 0, .string ⟨#[]⟩, .bool false]) ∧ Below w.heap.size w w' := by
  go_enter Tryz.func57, Tryz.ntmps57
  go_wp2_with fail
  refine bodyPost_ret (v := .agg #[.int .i64 1, .int .i64 n, .int .i64 0, .string ⟨#[]⟩, .bool false]) (by simp [results, Tryz.results57, go_sem] <;> first | done | rfl) rfl ⟨rfl, ?_⟩
  go_grown
theorem lraw_any (t : ByteArray) (w : World) : Calls Tryz.prog 58 #[.string t] w fun e w' => e = .returned (.agg #[.int .i64 5, .int .i64 0, .int .i64 0, .string t, .bool false]) ∧ Below w.heap.size w w' := by
  go_enter Tryz.func58, Tryz.ntmps58
  go_wp2_with fail
  refine bodyPost_ret (v := .agg #[.int .i64 5, .int .i64 0, .int .i64 0, .string t, .bool false]) (by simp [results, Tryz.results58, go_sem] <;> first | done | rfl) rfl ⟨rfl, ?_⟩
  go_grown
theorem RA_two {n : Int} (h : -999999999999999999 ≤ n ∧ n ≤ 999999999999999999) : RA (ofA n) := RA.int n (Rt.whole (by omega) (by omega))
theorem RA_ascii {l : List UInt8} (h : ∀ x ∈ l, 32 ≤ x.toNat ∧ x.toNat < 127) : RA (rawA (bs l)) := RA.raw _ (valid_ascii _ h)
theorem general_any (op : Int) (a1 a2 : Option Addr) (c1 c2 : Nat) (xs ys : List At) (m : Int) (w : World) (hL : Laid m w) (hX : TRow w a1 xs) (hY : TRow w a2 ys) (lx : xs.length ≤ 1000000) (ly : ys.length ≤ 1000000)
    (rx : ∀ x ∈ xs, RA x ∧ x.t.size ≤ 2000000) (ry : ∀ y ∈ ys, RA y ∧ y.t.size ≤ 2000000) :
    Calls Tryz.prog 31 #[.int .i64 op, .slice a1 xs.length c1, .slice a2 ys.length c2] w fun e w' => e = .returned (.tuple #[.bool (generalF op xs ys).1, .int .i64 (generalF op xs ys).2]) ∧ Below w.heap.size w w' := by
  unfold generalF
  cases h : (decide (op < 19) || decide (24 < op))
  · simp only [Bool.false_eq_true, if_false]
    exact general_in op h a1 a2 c1 c2 xs ys w hX hY lx ly fun x hx y hy w' hb => pair_any _ x y (rx x hx).1 (ry y hy).1 (rx x hx).2 (ry y hy).2 m w' (hL.on hb)
  · simp only [if_true]
    exact general_out op h a1 a2 _ _ c1 c2 w
set_option maxRecDepth 100000 in
set_option maxHeartbeats 2000000 in
theorem awake4_any (m : Int) (w : World) (hL : Laid m w) : Calls Tryz.prog 29 #[] w fun e w' => e = .returned (.bool true) ∧ Below w.heap.size w w' := by
  have O1 := Lib.hid (fun w => lof_any 1 w)
  have O2 := Lib.hid (fun w => lof_any 2 w)
  have R1 := Lib.hid (fun w => lraw_any ⟨#[50]⟩ w)
  have R2 := Lib.hid (fun w => lraw_any ⟨#[120]⟩ w)
  have R3 := Lib.hid (fun w => lraw_any ⟨#[]⟩ w)
  have CV := Lib.hid (show ∀ w', Calls Tryz.prog 36 #[.int .i64 15, .agg #[.int .i64 1, .int .i64 1, .int .i64 0, .string ⟨#[]⟩, .bool false], .agg #[.int .i64 2, .int .i64 15, .int .i64 1, .string ⟨#[]⟩, .bool false]] w' fun e w'' => e = .returned (.tuple #[.bool true, .int .i64 0]) ∧ Below w'.heap.size w' w'' from fun w' => by
    have h := value_any 15 (ofA 1) (numA 15 1) (RA_two (by omega)) (RA.dec _ _ ⟨by omega, by omega, by omega, by omega, by omega⟩) w'
    rw [show valueF 15 (ofA 1) (numA 15 1) = (true, 0) by decide +kernel] at h
    exact h)
  have C1 := Lib.hid (show ∀ (q1 q2 : Nat) (w' : World), Below w.heap.size w w' → Blk w' q1 #[.int .i64 1, .int .i64 1, .int .i64 0, .string ⟨#[]⟩, .bool false, .int .i64 1, .int .i64 2, .int .i64 0, .string ⟨#[]⟩, .bool false] 24 → Blk w' q2 #[.int .i64 5, .int .i64 0, .int .i64 0, .string ⟨#[50]⟩, .bool false] 24 →
      Calls Tryz.prog 31 #[.int .i64 19, .slice (some ⟨q1, 0, none⟩) 2 2, .slice (some ⟨q2, 0, none⟩) 1 1] w' fun e w'' => e = .returned (.tuple #[.bool true, .int .i64 0]) ∧ Below w'.heap.size w' w'' from fun q1 q2 w' hb h1 h2 => by
    have h := general_any 19 (some ⟨q1, 0, none⟩) (some ⟨q2, 0, none⟩) 2 1 [ofA 1, ofA 2] [rawA (bs [50])] m w' (hL.on hb) (TRow.pair h1) (TRow.one h2) (by simp) (by simp)
      (fun x hx => by simp at hx; rcases hx with rfl | rfl <;> exact ⟨RA_two (by omega), by show (bs []).size ≤ _; decide⟩) (fun x hx => by simp at hx; subst hx; exact ⟨RA_ascii (by decide), by show (bs [50]).size ≤ _; decide⟩)
    rw [show generalF 19 [ofA 1, ofA 2] [rawA (bs [50])] = (true, 0) by decide +kernel] at h
    exact h)
  have C2 := Lib.hid (show ∀ (q1 q2 : Nat) (w' : World), Below w.heap.size w w' → Blk w' q1 #[.int .i64 1, .int .i64 1, .int .i64 0, .string ⟨#[]⟩, .bool false] 24 → Blk w' q2 #[.int .i64 5, .int .i64 0, .int .i64 0, .string ⟨#[120]⟩, .bool false, .int .i64 1, .int .i64 1, .int .i64 0, .string ⟨#[]⟩, .bool false] 24 →
      Calls Tryz.prog 31 #[.int .i64 19, .slice (some ⟨q1, 0, none⟩) 1 1, .slice (some ⟨q2, 0, none⟩) 2 2] w' fun e w'' => e = .returned (.tuple #[.bool false, .int .i64 50]) ∧ Below w'.heap.size w' w'' from fun q1 q2 w' hb h1 h2 => by
    have h := general_any 19 (some ⟨q1, 0, none⟩) (some ⟨q2, 0, none⟩) 1 2 [ofA 1] [rawA (bs [120]), ofA 1] m w' (hL.on hb) (TRow.one h1) (TRow.pair h2) (by simp) (by simp)
      (fun x hx => by simp at hx; subst hx; exact ⟨RA_two (by omega), by show (bs []).size ≤ _; decide⟩) (fun x hx => by simp at hx; rcases hx with rfl | rfl <;> first | exact ⟨RA_ascii (by decide), by show (bs [120]).size ≤ _; decide⟩ | exact ⟨RA_two (by omega), by show (bs []).size ≤ _; decide⟩)
    rw [show generalF 19 [ofA 1] [rawA (bs [120]), ofA 1] = (false, 50) by decide +kernel] at h
    exact h)
  have C3 := Lib.hid (show ∀ (q : Nat) (w' : World), Blk w' q #[.int .i64 5, .int .i64 0, .int .i64 0, .string ⟨#[]⟩, .bool false] 24 →
      Calls Tryz.prog 33 #[.bool false, .slice (some ⟨q, 0, none⟩) 1 1] w' fun e w'' => e = .returned (.tuple #[.bool false, .int .i64 0]) ∧ Below w'.heap.size w' w'' from fun q w' h1 => by
    have h := truth_walk false (some ⟨q, 0, none⟩) 1 [rawA (bs [])] w' (TRow.one h1) (by simp)
    rw [show truthF false [rawA (bs [])] = (false, 0) by decide +kernel] at h
    exact h)
  clear hL
  go_enter Tryz.func29, Tryz.ntmps29
  go_wp2_with fail
  with_reducible refine (O1.out _).mono ?_
  rintro e w1 ⟨rfl, hb⟩
  have hw : Below w.heap.size w w1 := hb
  clear hb
  go_wp2_with fail
  with_reducible refine (CV.out _).mono ?_
  rintro e w2 ⟨rfl, hb⟩
  have hw : Below w.heap.size w w2 := Below.trans hw (hb.mono (by have := hw.size; simp <;> omega))
  clear hb
  go_wp2_with fail
  with_reducible refine (O1.out _).mono ?_
  rintro e w3 ⟨rfl, hb⟩
  have hw : Below w.heap.size w w3 := Below.trans hw (hb.mono (by have := hw.size; simp <;> omega))
  clear hb
  go_wp2_with fail
  with_reducible refine (O2.out _).mono ?_
  rintro e w4 ⟨rfl, hb⟩
  have hw : Below w.heap.size w w4 := Below.trans hw (hb.mono (by have := hw.size; simp <;> omega))
  clear hb
  go_wp2_with fail
  with_reducible refine (R1.out _).mono ?_
  rintro e w5 ⟨rfl, hb⟩
  have hw : Below w.heap.size w w5 := Below.trans (Below.alloc hw hw.size _) (hb.mono (by have := hw.size; simp <;> omega))
  have S1 : Blk w5 w4.heap.size #[.int .i64 1, .int .i64 1, .int .i64 0, .string ⟨#[]⟩, .bool false, .int .i64 1, .int .i64 2, .int .i64 0, .string ⟨#[]⟩, .bool false] 24 := (Blk.here rfl rfl).below hb (by simp)
  clear hb
  go_wp2_with fail
  with_reducible refine (C1.out _ _ _ (Below.alloc hw hw.size _) (S1.alloc _) (Blk.here rfl rfl)).mono ?_
  rintro e w6 ⟨rfl, hb⟩
  have hw : Below w.heap.size w w6 := Below.trans (Below.alloc hw hw.size _) (hb.mono (by have := hw.size; simp <;> omega))
  clear S1
  clear hb
  go_wp2_with fail
  with_reducible refine (O1.out _).mono ?_
  rintro e w7 ⟨rfl, hb⟩
  have hw : Below w.heap.size w w7 := Below.trans hw (hb.mono (by have := hw.size; simp <;> omega))
  clear hb
  go_wp2_with fail
  with_reducible refine (R2.out _).mono ?_
  rintro e w8 ⟨rfl, hb⟩
  have hw : Below w.heap.size w w8 := Below.trans (Below.alloc hw hw.size _) (hb.mono (by have := hw.size; simp <;> omega))
  have S3 : Blk w8 w7.heap.size #[.int .i64 1, .int .i64 1, .int .i64 0, .string ⟨#[]⟩, .bool false] 24 := (Blk.here rfl rfl).below hb (by simp)
  clear hb
  go_wp2_with fail
  with_reducible refine (O1.out _).mono ?_
  rintro e w9 ⟨rfl, hb⟩
  have hw : Below w.heap.size w w9 := Below.trans hw (hb.mono (by have := hw.size; simp <;> omega))
  have S3 := S3.below hb S3.lt
  clear hb
  go_wp2_with fail
  with_reducible refine (C2.out _ _ _ (Below.alloc hw hw.size _) (S3.alloc _) (Blk.here rfl rfl)).mono ?_
  rintro e w10 ⟨rfl, hb⟩
  have hw : Below w.heap.size w w10 := Below.trans (Below.alloc hw hw.size _) (hb.mono (by have := hw.size; simp <;> omega))
  clear S3
  clear hb
  go_wp2_with fail
  with_reducible refine (R3.out _).mono ?_
  rintro e w11 ⟨rfl, hb⟩
  have hw : Below w.heap.size w w11 := Below.trans hw (hb.mono (by have := hw.size; simp <;> omega))
  clear hb
  go_wp2_with fail
  with_reducible refine (C3.out _ _ (Blk.here rfl rfl)).mono ?_
  rintro e w12 ⟨rfl, hb⟩
  have hw : Below w.heap.size w w12 := Below.trans (Below.alloc hw hw.size _) (hb.mono (by have := hw.size; simp <;> omega))
  clear hb
  go_wp2_with fail
  exact bodyPost_ret (v := .bool true) (by simp [results, Tryz.results29, go_sem]) rfl ⟨rfl, hw⟩
end Go.Proofs.YtaoobajokhcimaaGreatDoor

/- Casts of atomic values: texts trimmed and read as numbers. -/
import Derived.Test.YtaoobajokhcimaaGreatDoorAtJ
import Derived.Test.YtaoobajokhcimaaGreatDoorWaL
set_option linter.unusedSimpArgs false
set_option linter.unusedVariables false
set_option linter.constructorNameAsVariable false
namespace Go.Proofs.YtaoobajokhcimaaGreatDoor
open Go.RowKit

/-- What the walks ask of the laid variables. -/
structure Laid (m : Int) (w : World) : Prop where
  cell : w.cell? ⟨4, 0, none⟩ = some (.int .i64 m)
  tab : Lib.TabIs Tryz.prog w "internal/strconv.uint64pow10" .u64 Lib.pow10Tab
theorem Laid.on {m : Int} {w w' : World} (h : Laid m w) (hb : Below w.heap.size w w') : Laid m w' := by
  refine ⟨?_, Lib.tabBelow_of_tabIs h.tab _ hb⟩
  have hg : 4 < w.heap.size := by
    rcases Nat.lt_or_ge 4 w.heap.size with h' | h'
    · exact h'
    · have := h.cell; simp [World.cell?, Array.getElem?_eq_none h'] at this
  rw [← h.cell]
  exact hb.cell (p := ⟨4, 0, none⟩) hg
theorem trim_len (l cs : List UInt8) : (Lib.trimS l cs).length ≤ l.length := by
  have hd : ∀ (p : UInt8 → Bool) (l : List UInt8), (l.dropWhile p).length ≤ l.length := fun p l => List.IsSuffix.length_le (List.dropWhile_suffix p)
  unfold Lib.trimS Lib.trimLeftS Lib.trimRightS
  refine Nat.le_trans (hd _ _) ?_
  rw [List.length_reverse]
  refine Nat.le_trans (hd _ _) ?_
  rw [List.length_reverse]
  exact Nat.le_refl _
theorem trimT_len (t : ByteArray) : (bs (trimT t)).size ≤ t.size := by
  rw [bs_size]
  unfold trimT
  have := trim_len t.data.toList spS
  simpa using this
theorem ctrim_any (t : ByteArray) (ht : t.size ≤ 9223372036854775807) (w : World) : Calls Tryz.prog 72 #[.string t] w fun e w' => e = .returned (.string (bs (trimT t))) ∧ Below w.heap.size w w' := by
  have CT := fun w => Any.strings_Trim_laid Tryz.lays160 (by kernel_rfl) t ⟨#[9, 10, 13, 32]⟩ w ht (by decide) (ascii_of_all (by decide))
  have CT2 := Lib.hid (show ∀ w, Calls Tryz.prog 96 #[.string t, .string ⟨#[9, 10, 13, 32]⟩] w fun e w' => e = .returned (.string (bs (trimT t))) ∧ Below w.heap.size w w' from CT)
  clear CT
  go_enter Tryz.func72, Tryz.ntmps72
  go_wp2_with (go_at_call 96; with_reducible refine (CT2.out _).mono ?_; rintro e w1 ⟨rfl, hb⟩)
  go_ret
  exact ⟨rfl, hb⟩
set_option maxHeartbeats 1000000 in
theorem anumber_any (t : ByteArray) (ht : t.size ≤ 2000000) (m : Int) (w : World) (hL : Laid m w) : Calls Tryz.prog 71 #[.string t] w fun e w' =>
    e = .returned (.tuple #[.agg #[.int .i64 (numberF t).1, .int .i64 (numberF t).2.1], .int .i64 (numberF t).2.2]) ∧ Below w.heap.size w w' := by
  have CT := Lib.hid (fun w => ctrim_any t (by omega) w)
  have CP := Lib.hid (show ∀ w', Below w.heap.size w w' → Calls Tryz.prog 95 #[.string (bs (trimT t))] w' fun e w'' =>
      e = .returned (.tuple #[.agg #[.int .i64 (parseF (trimT t)).1, .int .i64 (parseF (trimT t)).2.1], .int .i64 (parseF (trimT t)).2.2]) ∧ Below w'.heap.size w' w''
    from fun w' hb => parse_any (bs (trimT t)) (Nat.le_trans (trimT_len t) ht) m w' (hL.on hb).cell)
  unfold numberF
  obtain ⟨p, q, r, hr⟩ : ∃ p q r, parseF (trimT t) = (p, q, r) := ⟨_, _, _, rfl⟩
  rw [hr] at CP ⊢
  generalize bs (trimT t) = T at *
  clear hr hL ht
  cases e12 : (r == 12)
  · have hE : castE r = r := by unfold castE; rw [e12]; rfl
    simp only [hE]
    go_enter Tryz.func71, Tryz.ntmps71
    go_wp2_with (first
      | (go_at_call 72; with_reducible refine (CT.out _).mono ?_; rintro e w1 ⟨rfl, hb⟩
         have B1 : Blk w1 w.heap.size #[.int .i64 0, .int .i64 0] 31 := (Blk.here rfl rfl).below hb (by simp)
         have hw1 : Below w.heap.size w w1 := ((Below.refl _ _).alloc (Nat.le_refl _) _).trans (hb.mono (by simp))
         clear hb)
      | (go_at_call 95; with_reducible refine (CP.out _ hw1).mono ?_; rintro e w2 ⟨rfl, hb⟩
         have B2 := B1.below hb B1.lt
         have hw2 := hw1.trans (hb.mono hw1.size)
         have k2 : w.heap.size < w2.heap.size := B2.lt
         obtain ⟨c0, c1, f0, f1⟩ := B2.two
         clear hb))
    refine bodyPost_ret (v := .tuple #[.agg #[.int .i64 p, .int .i64 q], .int .i64 r]) (by simp [results, Tryz.results71, go_sem, c0, c1, f0, f1, k2]) rfl ⟨rfl, ?_⟩
    go_grown
    all_goals first | exact hw2 | exact hw2.size
  · have hE : castE r = 50 := by unfold castE; rw [e12]; rfl
    simp only [hE]
    go_enter Tryz.func71, Tryz.ntmps71
    go_wp2_with (first
      | (go_at_call 72; with_reducible refine (CT.out _).mono ?_; rintro e w1 ⟨rfl, hb⟩
         have B1 : Blk w1 w.heap.size #[.int .i64 0, .int .i64 0] 31 := (Blk.here rfl rfl).below hb (by simp)
         have hw1 : Below w.heap.size w w1 := ((Below.refl _ _).alloc (Nat.le_refl _) _).trans (hb.mono (by simp))
         clear hb)
      | (go_at_call 95; with_reducible refine (CP.out _ hw1).mono ?_; rintro e w2 ⟨rfl, hb⟩
         have B2 := B1.below hb B1.lt
         have hw2 := hw1.trans (hb.mono hw1.size)
         have k2 : w.heap.size < w2.heap.size := B2.lt
         obtain ⟨c0, c1, f0, f1⟩ := B2.two
         clear hb))
    refine bodyPost_ret (v := .tuple #[.agg #[.int .i64 p, .int .i64 q], .int .i64 50]) (by simp [results, Tryz.results71, go_sem, c0, c1, f0, f1, k2]) rfl ⟨rfl, ?_⟩
    go_grown
    all_goals first | exact hw2 | exact hw2.size
end Go.Proofs.YtaoobajokhcimaaGreatDoor

/- deep.copied of a leaf. -/
import Derived.Test.YtgdbbocfiejlfaaDoorDpM
set_option linter.unusedSimpArgs false
set_option linter.unusedVariables false
set_option linter.constructorNameAsVariable false
namespace Go.Proofs.YtgdbbocfiejlfaaDoor
open Go.RowKit

theorem clonet_nil (w : World) : Calls Tryd.prog 30 #[.slice none 0 0] w fun e w' => e = .returned (.slice none 0 0) ∧ w = w' := by
  have q22 := fun w => eql_nil none 0 0 0 0 w
  simp only [Option.isNone_none] at q22
  go_enter Tryd.func30, Tryd.ntmps30
  go_wp2_with fail
  go_returns
  exact ⟨rfl, rfl⟩
theorem eql_nilp (a : Option Addr) (n c n' c' : Nat) (w : World) : (binOp .eql 23 (.slice a n c) (.slice none n' c')).run Tryd.prog w = .ok (.bool a.isNone) w := Lib.run_eql_slice_nil w _ _ a n c n' c' Tryd.underlying23
theorem clonep_nil (w : World) : Calls Tryd.prog 32 #[.slice none 0 0] w fun e w' => e = .returned (.slice none 0 0) ∧ w = w' := by
  have q22 := fun w => eql_nilp none 0 0 0 0 w
  simp only [Option.isNone_none] at q22
  go_enter Tryd.func32, Tryd.ntmps32
  go_wp2_with fail
  go_returns
  exact ⟨rfl, rfl⟩
set_option maxRecDepth 100000 in
set_option maxHeartbeats 4000000 in
theorem copied_leaf (k : Int) (n v : ByteArray) (w : World) : Calls Tryd.prog 20 #[.agg #[.int .i64 k, .string n, .string v, .slice none 0 0, .slice none 0 0]] w fun e w' => e = .returned (.agg #[.int .i64 k, .string n, .string v, .slice none 0 0, .slice none 0 0]) ∧ Below w.heap.size w w' := by
  have C1 := Lib.hid (fun w => clonep_nil w)
  have C2 := Lib.hid (fun w => clonet_nil w)
  go_enter Tryd.func20, Tryd.ntmps20
  go_wp2_with fail
  have B0 : Blk ((w.alloc (.cells #[.int .i64 k, .string n, .string v, .slice none 0 0, .slice none 0 0] 26)).alloc (.cells #[.int .i64 0, .string ⟨#[]⟩, .string ⟨#[]⟩, .slice none 0 0, .slice none 0 0] 26)) w.heap.size  #[.int .i64 k, .string n, .string v, .slice none 0 0, .slice none 0 0] 26 := (Blk.new w _ _).alloc _
  have B1 : Blk ((w.alloc (.cells #[.int .i64 k, .string n, .string v, .slice none 0 0, .slice none 0 0] 26)).alloc (.cells #[.int .i64 0, .string ⟨#[]⟩, .string ⟨#[]⟩, .slice none 0 0, .slice none 0 0] 26)) (w.heap.size + 1)  #[.int .i64 0, .string ⟨#[]⟩, .string ⟨#[]⟩, .slice none 0 0, .slice none 0 0] 26 := by
    have := Blk.new (w.alloc (.cells #[.int .i64 k, .string n, .string v, .slice none 0 0, .slice none 0 0] 26))  #[.int .i64 0, .string ⟨#[]⟩, .string ⟨#[]⟩, .slice none 0 0, .slice none 0 0] 26
    simpa using this
  have hw1 : Below w.heap.size w ((w.alloc (.cells #[.int .i64 k, .string n, .string v, .slice none 0 0, .slice none 0 0] 26)).alloc (.cells #[.int .i64 0, .string ⟨#[]⟩, .string ⟨#[]⟩, .slice none 0 0, .slice none 0 0] 26)) := ((Below.refl _ _).alloc (Nat.le_refl _) _).alloc (by simp) _
  generalize (w.alloc (.cells #[.int .i64 k, .string n, .string v, .slice none 0 0, .slice none 0 0] 26)).alloc (.cells #[.int .i64 0, .string ⟨#[]⟩, .string ⟨#[]⟩, .slice none 0 0, .slice none 0 0] 26) = W at *
  have k0 := B0.lt
  have k1 := B1.lt
  obtain ⟨⟨x0, x1, x2, x3, x4⟩, f0, f1, f2, f3, f4⟩ := B0.five5
  with_reducible refine (C1.out _).mono ?_
  rintro e w1 ⟨rfl, rfl⟩
  go_wp2_with fail
  have B0' : Blk (W.setCell ⟨w.heap.size, 3, none⟩ (.slice none 0 0)) w.heap.size  #[.int .i64 k, .string n, .string v, .slice none 0 0, .slice none 0 0] 26 := B0.set 3 _
  have B1' : Blk (W.setCell ⟨w.heap.size, 3, none⟩ (.slice none 0 0)) (w.heap.size + 1)  #[.int .i64 0, .string ⟨#[]⟩, .string ⟨#[]⟩, .slice none 0 0, .slice none 0 0] 26 := B1.other (by simp) _
  have hw2 : Below w.heap.size w (W.setCell ⟨w.heap.size, 3, none⟩ (.slice none 0 0)) := hw1.setCell (p := ⟨w.heap.size, 3, none⟩) (Nat.le_refl _) _
  generalize W.setCell ⟨w.heap.size, 3, none⟩ (.slice none 0 0) = W2 at *
  clear B0 B1 hw1 k0 k1 x0 x1 x2 x3 x4 f0 f1 f2 f3 f4 W
  have B0 := B0'
  have B1 := B1'
  have hw1 := hw2
  clear B0' B1' hw2
  have k0 := B0.lt
  have k1 := B1.lt
  obtain ⟨⟨x0, x1, x2, x3, x4⟩, f0, f1, f2, f3, f4⟩ := B0.five5
  with_reducible refine (C2.out _).mono ?_
  rintro e w1 ⟨rfl, rfl⟩
  go_wp2_with fail
  have B0' : Blk (W2.setCell ⟨w.heap.size, 4, none⟩ (.slice none 0 0)) w.heap.size  #[.int .i64 k, .string n, .string v, .slice none 0 0, .slice none 0 0] 26 := B0.set 4 _
  have B1' : Blk (W2.setCell ⟨w.heap.size, 4, none⟩ (.slice none 0 0)) (w.heap.size + 1)  #[.int .i64 0, .string ⟨#[]⟩, .string ⟨#[]⟩, .slice none 0 0, .slice none 0 0] 26 := B1.other (by simp) _
  have hw2 : Below w.heap.size w (W2.setCell ⟨w.heap.size, 4, none⟩ (.slice none 0 0)) := hw1.setCell (p := ⟨w.heap.size, 4, none⟩) (Nat.le_refl _) _
  generalize W2.setCell ⟨w.heap.size, 4, none⟩ (.slice none 0 0) = W3 at *
  clear B0 B1 hw1 k0 k1 x0 x1 x2 x3 x4 f0 f1 f2 f3 f4 W2
  have B0 := B0'
  have B1 := B1'
  have hw1 := hw2
  clear B0' B1' hw2
  have k0 := B0.lt
  have k1 := B1.lt
  obtain ⟨⟨x0, x1, x2, x3, x4⟩, f0, f1, f2, f3, f4⟩ := B0.five5
  go_loopg [15] 0 (fun m jj wr => jj = .int .i64 0 ∧ wr = W3)
  case atStart => exact ⟨rfl, rfl⟩
  case round =>
    obtain ⟨rfl, rfl⟩ := hrel
    obtain ⟨⟨y0, y1, y2, y3, y4⟩, g0, g1, g2, g3, g4⟩ := B1.five5
    go_wp2_with fail
    have BF : Blk (((((wr.setCell ⟨w.heap.size + 1, 0, none⟩ (.int .i64 k)).setCell ⟨w.heap.size + 1, 1, none⟩ (.string n)).setCell ⟨w.heap.size + 1, 2, none⟩ (.string v)).setCell ⟨w.heap.size + 1, 3, none⟩ (.slice none 0 0)).setCell ⟨w.heap.size + 1, 4, none⟩ (.slice none 0 0)) (w.heap.size + 1) #[.int .i64 k, .string n, .string v, .slice none 0 0, .slice none 0 0] 26 := ((((B1.set 0 (.int .i64 k)).set 1 (.string n)).set 2 (.string v)).set 3 (.slice none 0 0)).set 4 (.slice none 0 0)
    have hwF : Below w.heap.size w (((((wr.setCell ⟨w.heap.size + 1, 0, none⟩ (.int .i64 k)).setCell ⟨w.heap.size + 1, 1, none⟩ (.string n)).setCell ⟨w.heap.size + 1, 2, none⟩ (.string v)).setCell ⟨w.heap.size + 1, 3, none⟩ (.slice none 0 0)).setCell ⟨w.heap.size + 1, 4, none⟩ (.slice none 0 0)) := ((((hw1.setCell (p := ⟨w.heap.size + 1, 0, none⟩) (by simp) _).setCell (p := ⟨w.heap.size + 1, 1, none⟩) (by simp) _).setCell (p := ⟨w.heap.size + 1, 2, none⟩) (by simp) _).setCell (p := ⟨w.heap.size + 1, 3, none⟩) (by simp) _).setCell (p := ⟨w.heap.size + 1, 4, none⟩) (by simp) _
    generalize ((((wr.setCell ⟨w.heap.size + 1, 0, none⟩ (.int .i64 k)).setCell ⟨w.heap.size + 1, 1, none⟩ (.string n)).setCell ⟨w.heap.size + 1, 2, none⟩ (.string v)).setCell ⟨w.heap.size + 1, 3, none⟩ (.slice none 0 0)).setCell ⟨w.heap.size + 1, 4, none⟩ (.slice none 0 0) = WF at *
    obtain ⟨⟨z0, z1, z2, z3, z4⟩, -⟩ := BF.five5
    exact bodyPost_ret (v := .agg #[.int .i64 k, .string n, .string v, .slice none 0 0, .slice none 0 0]) (by simp [results, Tryd.results20, go_sem, z0, z1, z2, z3, z4]) rfl ⟨rfl, hwF⟩
end Go.Proofs.YtgdbbocfiejlfaaDoor

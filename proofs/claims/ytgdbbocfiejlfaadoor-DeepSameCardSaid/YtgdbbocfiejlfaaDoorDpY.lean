/- deep.Merge of three texts. -/
import Derived.Test.YtgdbbocfiejlfaaDoorDpX
import Derived.Test.YtgdbbocfiejlfaaDoorLo
import Derived.RangeFuncBox
import Derived.Test.YtgdbbocfiejlfaaDoorDpH
set_option linter.unusedSimpArgs false
set_option linter.unusedVariables false
set_option linter.constructorNameAsVariable false
namespace Go.Proofs.YtgdbbocfiejlfaaDoor
open Go.RowKit

def tC (s : ByteArray) : C5 := ⟨.int .i64 4, .string .empty, .string s, .slice none 0 0, .slice none 0 0⟩
set_option maxRecDepth 100000 in
set_option maxHeartbeats 4000000 in
theorem merge_three (q : Nat) (w : World) (hB : Blk w q #[.int .i64 4, .string .empty, .string ⟨#[120]⟩, .slice none 0 0, .slice none 0 0, .int .i64 4, .string .empty, .string .empty, .slice none 0 0, .slice none 0 0, .int .i64 4, .string .empty, .string ⟨#[121]⟩, .slice none 0 0, .slice none 0 0] 26) :
    Calls Tryd.prog 11 #[.slice (some ⟨q, 0, none⟩) 3 3] w fun e w' => (∃ v, e = .returned v ∧ Own5 w.heap.size w' v [tC ⟨#[120, 121]⟩]) ∧ Below w.heap.size w w' := by
  have CC := Lib.hid (fun k n v w => copied_leaf k n v w)
  go_enter Tryd.func11, Tryd.ntmps11
  go_wp2_with fail
  go_loopg [3, 9] 4 (fun m vv ii wr => ∃ j : Nat, j ≤ 3 ∧ m + j = 4 ∧ ii = .int .i64 (j : Int) ∧ Below w.heap.size w wr ∧ Hid ((j = 0 ∧ vv = .slice none 0 0) ∨ ((j = 1 ∨ j = 2) ∧ Own5 w.heap.size wr vv [tC ⟨#[120]⟩]) ∨ (j = 3 ∧ Own5 w.heap.size wr vv [tC ⟨#[120, 121]⟩])))
  case atStart => exact ⟨0, by omega, by omega, rfl, Below.refl _ _, .inl ⟨rfl, rfl⟩⟩
  case round =>
    obtain ⟨j, hj, hmj, rfl, hwr, HD⟩ := hrel
    have BQ := hB.below hwr hB.lt
    have kQ := BQ.lt
    have hj4 : j = 0 ∨ j = 1 ∨ j = 2 ∨ j = 3 := by omega
    rcases hj4 with rfl | rfl | rfl | rfl
    · rcases HD.out with ⟨-, rfl⟩ | ⟨h0, -⟩ | ⟨h0, -⟩
      · clear HD
        have u0 := BQ.cell 0
        have u1 := BQ.cell 1
        have u2 := BQ.cell 2
        have u3 := BQ.cell 3
        have u4 := BQ.cell 4
        simp at u0 u1 u2 u3 u4
        go_wp2_with fail
        have hbA : Below wr.heap.size wr (wr.alloc (.cells #[.int .i64 4, .string .empty, .string ⟨#[120]⟩, .slice none 0 0, .slice none 0 0] 26)) := (Below.refl _ _).alloc (Nat.le_refl _) _
        have hzA : (wr.alloc (.cells #[.int .i64 4, .string .empty, .string ⟨#[120]⟩, .slice none 0 0, .slice none 0 0] 26)).heap.size = wr.heap.size + 1 := by simp
        generalize wr.alloc (.cells #[.int .i64 4, .string .empty, .string ⟨#[120]⟩, .slice none 0 0, .slice none 0 0] 26) = WA at *
        with_reducible refine (CC.out _ _ _ WA).mono ?_
        rintro e w1 ⟨rfl, hb1⟩
        have hw1 : Below w.heap.size w w1 := hwr.trans ((hbA.mono hwr.size).trans (hb1.mono (by have := hwr.size; omega)))
        go_wp2_with (at_builtin; refine wpList_app5 rfl _ _ rfl w.heap.size _ [] rfl (Own5.nil _ _) w1.heap.size _ (tC ⟨#[120]⟩) rfl ⟨rfl, rfl, rfl, rfl, rfl⟩ (Blk.new _ _ _) (by simp) (by have := hw1.size; simp; omega) ?_)
        intro v' w2 hO hg
        have hw2 : Below w.heap.size w w2 := hw1.trans (((Below.refl _ _).alloc hw1.size _).trans ((Own5.nil w.heap.size _).grown hg (Nat.le_refl _) (by have := hw1.size; simp; omega)))
        go_wp2_with fail
        go_roundg (gk - 1)
        case measure => omega
        case rel => exact ⟨1, by omega, by omega, by go_num, hw2, .inr (.inl ⟨.inl rfl, hO⟩)⟩
      · omega
      · omega
    · rcases HD.out with ⟨h0, -⟩ | ⟨-, hO⟩ | ⟨h0, -⟩
      · omega
      · clear HD
        have u0 := BQ.cell 5
        have u1 := BQ.cell 6
        have u2 := BQ.cell 7
        have u3 := BQ.cell 8
        have u4 := BQ.cell 9
        simp at u0 u1 u2 u3 u4
        obtain ⟨g, cap, rfl⟩ := ownsRow_succ (k := 0) hO
        go_wp2_with fail
        go_roundg (gk - 1)
        case measure => omega
        case rel => exact ⟨2, by omega, by omega, by go_num, hwr.alloc hwr.size _, .inr (.inl ⟨.inr rfl, World.ownsRow.alloc hO _⟩)⟩
      · omega
    · rcases HD.out with ⟨h0, -⟩ | ⟨-, hO⟩ | ⟨h0, -⟩
      · omega
      · clear HD
        have u0 := BQ.cell 10
        have u1 := BQ.cell 11
        have u2 := BQ.cell 12
        have u3 := BQ.cell 13
        have u4 := BQ.cell 14
        simp at u0 u1 u2 u3 u4
        obtain ⟨g, cap, rfl⟩ := ownsRow_succ (k := 0) hO
        obtain ⟨g', cap', cur, e9, hg, hBG, hc1, hc2, hc3, hc4⟩ := hO.2.resolve_left (by rintro ⟨h, -⟩; cases h)
        cases e9
        have BG : Blk wr g cur 26 := hBG
        have hcur : ∀ (i : Nat) (u : Value), [Value.int .i64 4, .string .empty, .string ⟨#[120]⟩, .slice none 0 0, .slice none 0 0][i]? = some u → cur[i]? = some u := by
          intro i u hu
          have : (List.take ([tC ⟨#[120]⟩].length * 5) cur.toList)[i]? = some u := by rw [hc4]; exact hu
          rw [List.getElem?_take] at this
          split at this
          · simpa using this
          · cases this
        have z0 : wr.cell? ⟨g, 0, none⟩ = some (.int .i64 4) := (BG.cell 0).trans (hcur 0 _ rfl)
        have z2 : wr.cell? ⟨g, 2, none⟩ = some (.string ⟨#[120]⟩) := (BG.cell 2).trans (hcur 2 _ rfl)
        have f2 := BG.free 2
        have kG := BG.lt
        have HO := Lib.hid (And.intro hBG (And.intro hg (And.intro hc1 (And.intro hc2 (And.intro hc3 hc4)))))
        clear hO hBG hcur hc1 hc2 hc3 hc4
        go_wp2_with fail
        have hbA : Below wr.heap.size wr (wr.alloc (.cells #[.int .i64 4, .string .empty, .string ⟨#[121]⟩, .slice none 0 0, .slice none 0 0] 26)) := (Below.refl _ _).alloc (Nat.le_refl _) _
        have BX : Blk (wr.alloc (.cells #[.int .i64 4, .string .empty, .string ⟨#[121]⟩, .slice none 0 0, .slice none 0 0] 26)) wr.heap.size #[.int .i64 4, .string .empty, .string ⟨#[121]⟩, .slice none 0 0, .slice none 0 0] 26 := Blk.new _ _ _
        have BG2 := BG.below hbA kG
        have z2' : (wr.alloc (.cells #[.int .i64 4, .string .empty, .string ⟨#[121]⟩, .slice none 0 0, .slice none 0 0] 26)).cell? ⟨g, 2, none⟩ = some (.string ⟨#[120]⟩) := (hbA.cell (p := ⟨g, 2, none⟩) kG).trans z2
        have hwA : Below w.heap.size w (wr.alloc (.cells #[.int .i64 4, .string .empty, .string ⟨#[121]⟩, .slice none 0 0, .slice none 0 0] 26)) := hwr.alloc hwr.size _
        have hzA : (wr.alloc (.cells #[.int .i64 4, .string .empty, .string ⟨#[121]⟩, .slice none 0 0, .slice none 0 0] 26)).heap.size = wr.heap.size + 1 := by simp
        have y2 : (wr.alloc (.cells #[.int .i64 4, .string .empty, .string ⟨#[121]⟩, .slice none 0 0, .slice none 0 0] 26)).cell? ⟨wr.heap.size, 2, none⟩ = some (.string ⟨#[121]⟩) := BX.cell 2
        have kX := BX.lt
        have kG2 := BG2.lt
        generalize wr.alloc (.cells #[.int .i64 4, .string .empty, .string ⟨#[121]⟩, .slice none 0 0, .slice none 0 0] 26) = WA at *
        clear z0 z2 f2 BG kG hbA hzA
        refine region_steps 10 [some 46, some 47, some 48, some 49, some 50, some 51, some 52, some 53, some 54, some 55] (by kernel_rfl) (by kernel_rfl) ?_
        -- 0: Op.move (Operand.tmp 3)
        apply ls_val
        · intro x w' hb hpre K hK
          have hc := (bcell hb).1
          clear hpre
          simp only [frL, Act.put, List.setIfInBounds_toArray, List.set_cons_zero, List.set_cons_succ, Nat.zero_add, Nat.reduceAdd] at hK ⊢
          have HK := Lib.hid hK
          clear hK
          refine Held.mk ?_
          go_simp
          exact HK.out _ (Below.refl _ _)
        -- 1: Op.move (Operand.tmp 6)
        apply ls_val
        · intro x w' hb hpre K hK
          have hc := (bcell hb).1
          clear hpre
          simp only [frL, Act.put, List.setIfInBounds_toArray, List.set_cons_zero, List.set_cons_succ, Nat.zero_add, Nat.reduceAdd] at hK ⊢
          have HK := Lib.hid hK
          clear hK
          refine Held.mk ?_
          go_simp
          exact HK.out _ (Below.refl _ _)
        -- 2: Op.indexAddr 24 (Operand.tmp 46) (Operand.tmp 47)
        apply ls_val
        · intro x w' hb hpre K hK
          have hc := (bcell hb).1
          simp [preds, Region.binds, phi, MP.val, MP.box, MP.row] at hpre
          simp only [frL, Act.put, List.setIfInBounds_toArray, List.set_cons_zero, List.set_cons_succ, Nat.zero_add, Nat.reduceAdd, hpre] at hK ⊢
          have HK := Lib.hid hK
          clear hK
          refine Held.mk ?_
          go_simp
          exact HK.out _ (Below.refl _ _)
        -- 3: Op.fieldAddr 26 (Operand.tmp 48) 2
        apply ls_val
        · intro x w' hb hpre K hK
          have hc := (bcell hb).1
          simp [preds, Region.binds, phi, MP.val, MP.box, MP.row] at hpre
          simp only [frL, Act.put, List.setIfInBounds_toArray, List.set_cons_zero, List.set_cons_succ, Nat.zero_add, Nat.reduceAdd, hpre] at hK ⊢
          have HK := Lib.hid hK
          clear hK
          refine Held.mk ?_
          go_simp
          exact HK.out _ (Below.refl _ _)
        -- 4: Op.load 9 (Operand.tmp 49)
        apply ls_val
        · intro x w' hb hpre K hK
          have hc := (bcell hb).1
          simp [preds, Region.binds, phi, MP.val, MP.box, MP.row] at hpre
          simp only [frL, Act.put, List.setIfInBounds_toArray, List.set_cons_zero, List.set_cons_succ, Nat.zero_add, Nat.reduceAdd, hpre] at hK ⊢
          have HK := Lib.hid hK
          clear hK
          refine Held.mk ?_
          go_simp
          exact HK.out _ (Below.refl _ _)
        -- 5: Op.fieldAddr 26 (Operand.tmp 5) 2
        apply ls_val
        · intro x w' hb hpre K hK
          have hc := (bcell hb).1
          clear hpre
          simp only [frL, Act.put, List.setIfInBounds_toArray, List.set_cons_zero, List.set_cons_succ, Nat.zero_add, Nat.reduceAdd] at hK ⊢
          have HK := Lib.hid hK
          clear hK
          refine Held.mk ?_
          go_simp
          exact HK.out _ (Below.refl _ _)
        -- 6: Op.load 9 (Operand.tmp 51)
        apply ls_val
        · intro x w' hb hpre K hK
          have hc := (bcell hb).1
          simp [preds, Region.binds, phi, MP.val, MP.box, MP.row] at hpre
          simp only [frL, Act.put, List.setIfInBounds_toArray, List.set_cons_zero, List.set_cons_succ, Nat.zero_add, Nat.reduceAdd, hpre] at hK ⊢
          have HK := Lib.hid hK
          clear hK
          refine Held.mk ?_
          go_simp
          exact HK.out _ (Below.refl _ _)
        -- 7: Op.binOp BinOp.add 9 (Operand.tmp 50) (Operand.tmp 52) 9
        apply ls_val
        · intro x w' hb hpre K hK
          have hc := (bcell hb).1
          simp [preds, Region.binds, phi, MP.val, MP.box, MP.row] at hpre
          simp only [frL, Act.put, List.setIfInBounds_toArray, List.set_cons_zero, List.set_cons_succ, Nat.zero_add, Nat.reduceAdd, hpre] at hK ⊢
          have HK := Lib.hid hK
          clear hK
          refine Held.mk ?_
          go_simp
          exact HK.out _ (Below.refl _ _)
        -- 8: Op.indexAddr 24 (Operand.tmp 46) (Operand.tmp 47)
        apply ls_val
        · intro x w' hb hpre K hK
          have hc := (bcell hb).1
          simp [preds, Region.binds, phi, MP.val, MP.box, MP.row] at hpre
          simp only [frL, Act.put, List.setIfInBounds_toArray, List.set_cons_zero, List.set_cons_succ, Nat.zero_add, Nat.reduceAdd, hpre] at hK ⊢
          have HK := Lib.hid hK
          clear hK
          refine Held.mk ?_
          go_simp
          exact HK.out _ (Below.refl _ _)
        -- 9: Op.fieldAddr 26 (Operand.tmp 54) 2
        apply ls_val
        · intro x w' hb hpre K hK
          have hc := (bcell hb).1
          simp [preds, Region.binds, phi, MP.val, MP.box, MP.row] at hpre
          simp only [frL, Act.put, List.setIfInBounds_toArray, List.set_cons_zero, List.set_cons_succ, Nat.zero_add, Nat.reduceAdd, hpre] at hK ⊢
          have HK := Lib.hid hK
          clear hK
          refine Held.mk ?_
          go_simp
          exact HK.out _ (Below.refl _ _)
        intro x w' hb hp
        simp only [List.cons_append, List.nil_append, phis, MP.val, MP.box, MP.row, frL, Act.put, List.setIfInBounds_toArray, List.set_cons_zero, List.set_cons_succ, Nat.zero_add, Nat.reduceAdd] at hp ⊢
        obtain ⟨h0, h1, h2, h3, h4, h5, h6, h7, h8, h9, -⟩ := hp
        simp only [h0, h1, h2, h3, h4, h5, h6, h7, h8, h9]
        clear h0 h1 h2 h3 h4 h5 h6 h7 h8 h9
        show wpList Tryd.prog _ _ [_] _ _
        have f2 := (BG2.below hb kG2).free 2
        have z2 := (hb.cell (p := ⟨g, 2, none⟩) kG2).trans z2'
        have kG3 := Nat.lt_of_lt_of_le kG2 hb.size
        go_wp2_with fail
        obtain ⟨-, hg, hc1, hc2, hc3, hc4⟩ := HO.out
        have BG5 := (BG2.below hb kG2).set 2 (.string (⟨#[120]⟩ ++ ⟨#[121]⟩))
        have hw6 : Below w.heap.size w (w'.setCell ⟨g, 2, none⟩ (.string (⟨#[120]⟩ ++ ⟨#[121]⟩))) := (hwA.trans (hb.mono hwA.size)).setCell (p := ⟨g, 2, none⟩) hg _
        have hO5 : Own5 w.heap.size (w'.setCell ⟨g, 2, none⟩ (.string (⟨#[120]⟩ ++ ⟨#[121]⟩))) (.slice (some ⟨g, 0, none⟩) 1 cap) [tC ⟨#[120, 121]⟩] := by
          refine ⟨rfl, .inr ⟨g, cap, _, rfl, hg, BG5, hc1, hc2, by simpa using hc3, ?_⟩⟩
          have hc5 : List.take 5 cur.toList = flat5 [tC ⟨#[120]⟩] := hc4
          show List.take 5 _ = flat5 [tC ⟨#[120, 121]⟩]
          have hxy : (⟨#[120]⟩ : ByteArray) ++ ⟨#[121]⟩ = ⟨#[120, 121]⟩ := by decide +kernel
          rw [Array.toList_setIfInBounds, List.take_set, hc5, hxy]
          rfl
        go_roundg (gk - 1)
        case measure => omega
        case rel => exact ⟨3, by omega, by omega, by go_num, hw6, .inr (.inr ⟨rfl, hO5⟩)⟩
      · omega
    · rcases HD.out with ⟨h0, -⟩ | ⟨h0, -⟩ | ⟨-, hO⟩
      · omega
      · omega
      · clear HD
        obtain ⟨g, cap, rfl⟩ := ownsRow_succ (k := 0) hO
        go_wp2_with fail
        go_returns
        exact ⟨⟨_, rfl, hO⟩, hwr⟩
end Go.Proofs.YtgdbbocfiejlfaaDoor

/- The document's Same, of one tree twice. -/
import Derived.Test.YtgdbbocfiejlfaaDoorDpE
import Derived.Test.YtgdbbocfiejlfaaDoorLo
set_option linter.unusedSimpArgs false
set_option linter.unusedVariables false
set_option linter.constructorNameAsVariable false
namespace Go.Proofs.YtgdbbocfiejlfaaDoor
open Go.RowKit

set_option maxRecDepth 100000 in
set_option maxHeartbeats 8000000 in
theorem same_any : ∀ (h : Nat) (S1 S2 : Nat → Prop) (a : Tr h) (cs ds : Array Value) (w : World), TLies S1 h w a cs → TLies S2 h w a ds → Calls Tryd.prog 10 #[.agg cs, .agg ds] w fun e w' => e = .returned (.bool true) ∧ Below w.heap.size w w'
  | 0, _, _, a, _, _, _, _, _ => nomatch a
  | h + 1, S1, S2, (⟨k, n, v, ps, ks⟩ : Nd (Tr h)), cs, ds, w, ⟨aa, ca, ka, ck, H⟩, ⟨ab, cb, kb, cl, H2⟩ => by
    obtain ⟨rfl, -, -, al, kl, hps, hks⟩ := H
    obtain ⟨rfl, -, -, -, -, hqs, hls⟩ := H2
    simp only at al kl hps hks hqs hls ⊢
    have IH := Lib.hid (fun x cx cy w' => same_any h S1 S2 x cx cy w')
    have HP := Lib.hid hps
    have HQ := Lib.hid hqs
    have HK := Lib.hid hks
    have HL := Lib.hid hls
    obtain ⟨np, hnp⟩ : ∃ np, ps.length = np := ⟨_, rfl⟩
    obtain ⟨nk, hnk⟩ : ∃ nk, ks.length = nk := ⟨_, rfl⟩
    rw [hnp] at al
    rw [hnk] at kl
    rw [hnp, hnk]
    have HNP := Lib.hid hnp
    have HNK := Lib.hid hnk
    clear hps hqs hks hls hnp hnk
    go_enter Tryd.func10, Tryd.ntmps10
    go_wp2_with fail
    have BA : Blk ((w.alloc (.cells #[.int .i64 k, .string n, .string v, .slice aa np ca, .slice ka nk ck] 26)).alloc (.cells #[.int .i64 k, .string n, .string v, .slice ab np cb, .slice kb nk cl] 26)) w.heap.size #[.int .i64 k, .string n, .string v, .slice aa np ca, .slice ka nk ck] 26 := (Blk.new _ _ _).alloc _
    have BB : Blk ((w.alloc (.cells #[.int .i64 k, .string n, .string v, .slice aa np ca, .slice ka nk ck] 26)).alloc (.cells #[.int .i64 k, .string n, .string v, .slice ab np cb, .slice kb nk cl] 26)) (w.heap.size + 1) #[.int .i64 k, .string n, .string v, .slice ab np cb, .slice kb nk cl] 26 := by
      have := Blk.new (w.alloc (.cells #[.int .i64 k, .string n, .string v, .slice aa np ca, .slice ka nk ck] 26)) #[.int .i64 k, .string n, .string v, .slice ab np cb, .slice kb nk cl] 26
      simpa using this
    have hw1 : Below w.heap.size w ((w.alloc (.cells #[.int .i64 k, .string n, .string v, .slice aa np ca, .slice ka nk ck] 26)).alloc (.cells #[.int .i64 k, .string n, .string v, .slice ab np cb, .slice kb nk cl] 26)) := ((Below.refl _ _).alloc (Nat.le_refl _) _).alloc (by simp) _
    generalize (w.alloc (.cells #[.int .i64 k, .string n, .string v, .slice aa np ca, .slice ka nk ck] 26)).alloc (.cells #[.int .i64 k, .string n, .string v, .slice ab np cb, .slice kb nk cl] 26) = W at *
    go_loopg [5] (np + 1) (fun m jj wr => ∃ j : Nat, j ≤ np ∧ m + j = np + 1 ∧ jj = .int .i64 (j : Int) ∧ Below W.heap.size W wr)
    case atStart => exact ⟨0, by omega, by omega, rfl, Below.refl _ _⟩
    case round =>
      obtain ⟨j, hj, hmj, rfl, hbr⟩ := hrel
      have hj0 : (0 : Int) ≤ (j : Int) := Int.natCast_nonneg _
      have hwr := hw1.trans (hbr.mono hw1.size)
      replace BA := BA.below hbr BA.lt
      replace BB := BB.below hbr BB.lt
      have kA := BA.lt
      have kB := BB.lt
      obtain ⟨⟨a0, a1, a2, a3, a4⟩, -⟩ := BA.five5
      obtain ⟨⟨b0, b1, b2, b3, b4⟩, -⟩ := BB.five5
      by_cases hlt : j < np
      · have i0 : decide ((j : Int) < (np : Int)) = true := by simp; omega
        have i6 : (j : Int) < (np : Int) := by omega
        obtain ⟨⟨s, t⟩, hjp⟩ : ∃ p, ps[j]? = some p := ⟨ps[j]'(by rw [HNP.out]; exact hlt), by simp⟩
        rcases HP.out with h0 | ⟨b, of, rfl, hb, -, hc⟩
        · have := HNP.out; rw [h0] at this; simp at this; omega
        rcases HQ.out with h0 | ⟨b', of', rfl, hb', -, hc'⟩
        · have := HNP.out; rw [h0] at this; simp at this; omega
        obtain ⟨u0, u1⟩ := hc j (s, t) hjp
        obtain ⟨v0, v1⟩ := hc' j (s, t) hjp
        replace u0 := (hwr.cell (p := ⟨b, of + j * 2, none⟩) hb).trans u0
        replace u1 := (hwr.cell (p := ⟨b, of + j * 2 + 1, none⟩) hb).trans u1
        replace v0 := (hwr.cell (p := ⟨b', of' + j * 2, none⟩) hb').trans v0
        replace v1 := (hwr.cell (p := ⟨b', of' + j * 2 + 1, none⟩) hb').trans v1
        have lb := Nat.lt_of_lt_of_le hb hwr.size
        have lb' := Nat.lt_of_lt_of_le hb' hwr.size
        simp only at u0 u1 v0 v1
        clear hc hc' hjp
        go_wp2_with fail
        go_quiet (fail)
        go_wp2_with fail
        go_roundg (gk - 1)
        case measure => omega
        case rel => exact ⟨j + 1, by omega, by omega, by go_num, below_drewN hbr nq⟩
      · have i0 : decide ((j : Int) < (np : Int)) = false := by simp; omega
        go_wp2_with fail
        clear hlt i0 hj hmj hj0 a0 a1 a2 a3 a4 b0 b1 b2 b3 b4 kA kB
        obtain ⟨W2, hW2⟩ : ∃ W2, W2 = wr := ⟨_, rfl⟩
        subst hW2
        go_loopg [6] (nk + 1) (fun m jj wr => ∃ j : Nat, j ≤ nk ∧ m + j = nk + 1 ∧ jj = .int .i64 (j : Int) ∧ Below W2.heap.size W2 wr)
        case atStart => exact ⟨0, by omega, by omega, rfl, Below.refl _ _⟩
        case round =>
          obtain ⟨j, hj, hmj, rfl, hbr2⟩ := hrel
          have hj0 : (0 : Int) ≤ (j : Int) := Int.natCast_nonneg _
          have hwr2 := hwr.trans (hbr2.mono hwr.size)
          replace BA := BA.below hbr2 BA.lt
          replace BB := BB.below hbr2 BB.lt
          have kA := BA.lt
          have kB := BB.lt
          obtain ⟨⟨a0, a1, a2, a3, a4⟩, -⟩ := BA.five5
          obtain ⟨⟨b0, b1, b2, b3, b4⟩, -⟩ := BB.five5
          by_cases hlt : j < nk
          · have i0 : decide ((j : Int) < (nk : Int)) = true := by simp; omega
            have i6 : (j : Int) < (nk : Int) := by omega
            obtain ⟨p, hjp⟩ : ∃ p, ks[j]? = some p := ⟨ks[j]'(by rw [HNK.out]; exact hlt), by simp⟩
            rcases HK.out with h0 | ⟨b, of, rfl, hb, -, hc⟩
            · have := HNK.out; rw [h0] at this; simp at this; omega
            rcases HL.out with h0 | ⟨b', of', rfl, hb', -, hc'⟩
            · have := HNK.out; rw [h0] at this; simp at this; omega
            obtain ⟨c0, c1, c2, c3, c4, u0, u1, u2, u3, u4, hx⟩ := hc j p hjp
            obtain ⟨d0, d1, d2, d3, d4, v0, v1, v2, v3, v4, hy⟩ := hc' j p hjp
            have CX := Lib.hid (fun w' (hb : Below wr.heap.size wr w') => IH.out p _ _ w' ((hx.on hwr2).on hb) ((hy.on hwr2).on hb))
            replace u0 := (hwr2.cell (p := ⟨b, of + j * 5, none⟩) hb).trans u0
            replace u1 := (hwr2.cell (p := ⟨b, of + j * 5 + 1, none⟩) hb).trans u1
            replace u2 := (hwr2.cell (p := ⟨b, of + j * 5 + 2, none⟩) hb).trans u2
            replace u3 := (hwr2.cell (p := ⟨b, of + j * 5 + 3, none⟩) hb).trans u3
            replace u4 := (hwr2.cell (p := ⟨b, of + j * 5 + 4, none⟩) hb).trans u4
            replace v0 := (hwr2.cell (p := ⟨b', of' + j * 5, none⟩) hb').trans v0
            replace v1 := (hwr2.cell (p := ⟨b', of' + j * 5 + 1, none⟩) hb').trans v1
            replace v2 := (hwr2.cell (p := ⟨b', of' + j * 5 + 2, none⟩) hb').trans v2
            replace v3 := (hwr2.cell (p := ⟨b', of' + j * 5 + 3, none⟩) hb').trans v3
            replace v4 := (hwr2.cell (p := ⟨b', of' + j * 5 + 4, none⟩) hb').trans v4
            have lb := Nat.lt_of_lt_of_le hb hwr2.size
            have lb' := Nat.lt_of_lt_of_le hb' hwr2.size
            clear hc hc' hx hy hjp hb hb'
            go_wp2_with fail
            refine region_steps 12 [some 69, some 70, some 71, some 72, some 73, some 74, some 75, some 76, some 77, some 78, some 79, some 80] (by kernel_rfl) (by kernel_rfl) ?_
            -- 0: Op.fieldAddr 26 (Operand.tmp 2) 4
            apply ls_val
            · intro x w' hb hpre K hK
              have hc := (bcell hb).1
              clear hpre
              simp only [frL, Act.put, List.setIfInBounds_toArray, List.set_cons_zero, List.set_cons_succ, Nat.zero_add, Nat.reduceAdd] at hK ⊢
              have HK := Lib.hid hK
              clear hK
              refine Held.mk ?_
              go_simp
              exact HK.out _ (Below.refl _ _)
            -- 1: Op.load 24 (Operand.tmp 69)
            apply ls_val
            · intro x w' hb hpre K hK
              have hc := (bcell hb).1
              simp [preds, Region.binds, phi, MP.val, MP.box, MP.row] at hpre
              simp only [frL, Act.put, List.setIfInBounds_toArray, List.set_cons_zero, List.set_cons_succ, Nat.zero_add, Nat.reduceAdd, hpre] at hK ⊢
              have HK := Lib.hid hK
              clear hK
              refine Held.mk ?_
              go_simp
              exact HK.out _ (Below.refl _ _)
            -- 2: Op.move (Operand.tmp 6)
            apply ls_val
            · intro x w' hb hpre K hK
              have hc := (bcell hb).1
              clear hpre
              simp only [frL, Act.put, List.setIfInBounds_toArray, List.set_cons_zero, List.set_cons_succ, Nat.zero_add, Nat.reduceAdd] at hK ⊢
              have HK := Lib.hid hK
              clear hK
              refine Held.mk ?_
              go_simp
              exact HK.out _ (Below.refl _ _)
            -- 3: Op.indexAddr 24 (Operand.tmp 70) (Operand.tmp 71)
            apply ls_val
            · intro x w' hb hpre K hK
              have hc := (bcell hb).1
              simp [preds, Region.binds, phi, MP.val, MP.box, MP.row] at hpre
              simp only [frL, Act.put, List.setIfInBounds_toArray, List.set_cons_zero, List.set_cons_succ, Nat.zero_add, Nat.reduceAdd, hpre] at hK ⊢
              have HK := Lib.hid hK
              clear hK
              refine Held.mk ?_
              go_simp
              exact HK.out _ (Below.refl _ _)
            -- 4: Op.load 26 (Operand.tmp 72)
            apply ls_val
            · intro x w' hb hpre K hK
              have hc := (bcell hb).1
              simp [preds, Region.binds, phi, MP.val, MP.box, MP.row] at hpre
              simp only [frL, Act.put, List.setIfInBounds_toArray, List.set_cons_zero, List.set_cons_succ, Nat.zero_add, Nat.reduceAdd, hpre] at hK ⊢
              have HK := Lib.hid hK
              clear hK
              refine Held.mk ?_
              go_simp
              exact HK.out _ (Below.refl _ _)
            -- 5: Op.fieldAddr 26 (Operand.tmp 3) 4
            apply ls_val
            · intro x w' hb hpre K hK
              have hc := (bcell hb).1
              clear hpre
              simp only [frL, Act.put, List.setIfInBounds_toArray, List.set_cons_zero, List.set_cons_succ, Nat.zero_add, Nat.reduceAdd] at hK ⊢
              have HK := Lib.hid hK
              clear hK
              refine Held.mk ?_
              go_simp
              exact HK.out _ (Below.refl _ _)
            -- 6: Op.load 24 (Operand.tmp 74)
            apply ls_val
            · intro x w' hb hpre K hK
              have hc := (bcell hb).1
              simp [preds, Region.binds, phi, MP.val, MP.box, MP.row] at hpre
              simp only [frL, Act.put, List.setIfInBounds_toArray, List.set_cons_zero, List.set_cons_succ, Nat.zero_add, Nat.reduceAdd, hpre] at hK ⊢
              have HK := Lib.hid hK
              clear hK
              refine Held.mk ?_
              go_simp
              exact HK.out _ (Below.refl _ _)
            -- 7: Op.move (Operand.tmp 6)
            apply ls_val
            · intro x w' hb hpre K hK
              have hc := (bcell hb).1
              clear hpre
              simp only [frL, Act.put, List.setIfInBounds_toArray, List.set_cons_zero, List.set_cons_succ, Nat.zero_add, Nat.reduceAdd] at hK ⊢
              have HK := Lib.hid hK
              clear hK
              refine Held.mk ?_
              go_simp
              exact HK.out _ (Below.refl _ _)
            -- 8: Op.indexAddr 24 (Operand.tmp 75) (Operand.tmp 76)
            apply ls_val
            · intro x w' hb hpre K hK
              have hc := (bcell hb).1
              simp [preds, Region.binds, phi, MP.val, MP.box, MP.row] at hpre
              simp only [frL, Act.put, List.setIfInBounds_toArray, List.set_cons_zero, List.set_cons_succ, Nat.zero_add, Nat.reduceAdd, hpre] at hK ⊢
              have HK := Lib.hid hK
              clear hK
              refine Held.mk ?_
              go_simp
              exact HK.out _ (Below.refl _ _)
            -- 9: Op.load 26 (Operand.tmp 77)
            apply ls_val
            · intro x w' hb hpre K hK
              have hc := (bcell hb).1
              simp [preds, Region.binds, phi, MP.val, MP.box, MP.row] at hpre
              simp only [frL, Act.put, List.setIfInBounds_toArray, List.set_cons_zero, List.set_cons_succ, Nat.zero_add, Nat.reduceAdd, hpre] at hK ⊢
              have HK := Lib.hid hK
              clear hK
              refine Held.mk ?_
              go_simp
              exact HK.out _ (Below.refl _ _)
            -- 10: Op.call { callee := Callee.value (Operand.func 10), args := #[Operand.tmp 73, Operand.tmp 
            apply ls_val
            · intro x w' hb hpre K hK
              have hc := (bcell hb).1
              simp [preds, Region.binds, phi, MP.val, MP.box, MP.row] at hpre
              simp only [frL, Act.put, List.setIfInBounds_toArray, List.set_cons_zero, List.set_cons_succ, Nat.zero_add, Nat.reduceAdd, hpre] at hK ⊢
              have HK := Lib.hid hK
              clear hK
              refine Held.mk ?_
              go_simp
              (with_reducible refine (CX.out _ hb).mono ?_)
              rintro e w1 ⟨rfl, hb1⟩
              dsimp only
              exact HK.out _ hb1
            -- 11: Op.unOp UnOp.not 4 (Operand.tmp 79)
            apply ls_val
            · intro x w' hb hpre K hK
              have hc := (bcell hb).1
              simp [preds, Region.binds, phi, MP.val, MP.box, MP.row] at hpre
              simp only [frL, Act.put, List.setIfInBounds_toArray, List.set_cons_zero, List.set_cons_succ, Nat.zero_add, Nat.reduceAdd, hpre] at hK ⊢
              have HK := Lib.hid hK
              clear hK
              refine Held.mk ?_
              go_simp
              exact HK.out _ (Below.refl _ _)
            intro x w' hb hp
            simp only [List.cons_append, List.nil_append, phis, MP.val, MP.box, MP.row, frL, Act.put, List.setIfInBounds_toArray, List.set_cons_zero, List.set_cons_succ, Nat.zero_add, Nat.reduceAdd] at hp ⊢
            obtain ⟨h0, h1, h2, h3, h4, h5, h6, h7, h8, h9, h10, h11, -⟩ := hp
            simp only [h0, h1, h2, h3, h4, h5, h6, h7, h8, h9, h10, h11]
            clear h0 h1 h2 h3 h4 h5 h6 h7 h8 h9 h10 h11
            show wpList Tryd.prog _ _ [] _ _
            have hw5 := hbr2.trans (hb.mono hbr2.size)
            clear u0 u1 u2 u3 u4 v0 v1 v2 v3 v4 hb
            go_wp2_with fail
            go_roundg (gk - 1)
            case measure => omega
            case rel => exact ⟨j + 1, by omega, by omega, by go_num, hw5⟩
          · have i0 : decide ((j : Int) < (nk : Int)) = false := by simp; omega
            go_wp2_with fail
            go_returns
            exact ⟨rfl, hwr2⟩
end Go.Proofs.YtgdbbocfiejlfaaDoor

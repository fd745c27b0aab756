/- The document's Trees at two elements. -/
import Derived.Test.YtgdbbocfiejlfaaDoorDpF0
set_option linter.unusedSimpArgs false
set_option linter.unusedVariables false
set_option linter.constructorNameAsVariable false
namespace Go.Proofs.YtgdbbocfiejlfaaDoor
open Go.RowKit

set_option maxRecDepth 100000 in
set_option maxHeartbeats 8000000 in
theorem rtrees_elem (h : Nat) (IH0 : ∀ (x y : Tr h) (cx cy : Array Value) (w' : World), TLies All h w' x cx → TLies All h w' y cy → SmallT h x → SmallT h y → Calls Tryd.prog 9 #[.agg cx, .agg cy] w' fun e w'' => e = .returned (.bool (deepF h x y)) ∧ Below w'.heap.size w' w'') (S1 S2 : Nat → Prop) (k : Int) (n v : ByteArray) (ps : List Pr) (ks : List (Tr h)) (k2 : Int) (n2 v2 : ByteArray) (qs : List Pr) (ls : List (Tr h)) (cs ds : Array Value) (w : World)
    (HH : TLies S1 (h + 1) w (⟨k, n, v, ps, ks⟩ : Nd (Tr h)) cs) (HH2 : TLies S2 (h + 1) w (⟨k2, n2, v2, qs, ls⟩ : Nd (Tr h)) ds) (M1 : SmallT (h + 1) (⟨k, n, v, ps, ks⟩ : Nd (Tr h))) (M2 : SmallT (h + 1) (⟨k2, n2, v2, qs, ls⟩ : Nd (Tr h))) (ek : k = k2) (e2 : (k == 2) = true) : Calls Tryd.prog 9 #[.agg cs, .agg ds] w fun e w' => e = .returned (.bool (deepF (h + 1) (⟨k, n, v, ps, ks⟩ : Nd (Tr h)) (⟨k2, n2, v2, qs, ls⟩ : Nd (Tr h)))) ∧ Below w.heap.size w w' := by
  obtain ⟨aa, ca, ka, ck, H⟩ := HH
  obtain ⟨ab, cb, kb, cl, H2⟩ := HH2
  have IH := Lib.hid IH0
  clear IH0
  obtain ⟨rfl, -, -, al, kl, hps, hks⟩ := H
  obtain ⟨rfl, -, -, al2, kl2, hqs, hls⟩ := H2
  obtain ⟨m1, m2, m3⟩ := M1
  obtain ⟨m4, m5, m6⟩ := M2
  simp only at al kl hps hks al2 kl2 hqs hls m1 m2 m3 m4 m5 m6 ⊢
  have m3 : ∀ x ∈ ks, SmallT h x := m3
  have m6 : ∀ x ∈ ls, SmallT h x := m6
  have P1 := Lib.hid (fun w' (hb : Below w.heap.size w w') => rplain_any h ka ck ks w' (TRowT.on (hks.on (kept_of (Below.refl _ _)) (fun _ _ _ => trivial) (fun _ _ hx => hx.all)) hb) (Nat.le_trans m2 (by omega)))
  have P2 := Lib.hid (fun w' (hb : Below w.heap.size w w') => rplain_any h kb cl ls w' (TRowT.on (hls.on (kept_of (Below.refl _ _)) (fun _ _ _ => trivial) (fun _ _ hx => hx.all)) hb) (Nat.le_trans m5 (by omega)))
  have C1 := Lib.hid (fun p w' (hb : Below w.heap.size w w') => count_any aa ca ps p S1 w' (hps.on (kept_of hb) fun _ h _ => h) al)
  have C2 := Lib.hid (fun p w' (hb : Below w.heap.size w w') => count_any ab cb qs p S2 w' (hqs.on (kept_of hb) fun _ h _ => h) al2)
  have hsx : ∀ x ∈ plainT h ks, SmallT h x := fun x hx => m3 x (List.mem_filter.1 hx).1
  have hsy : ∀ x ∈ plainT h ls, SmallT h x := fun x hx => m6 x (List.mem_filter.1 hx).1
  have hlx : (plainT h ks).length ≤ 400 := Nat.le_trans (plain_le h ks) m2
  have hly : (plainT h ls).length ≤ 400 := Nat.le_trans (plain_le h ls) m5
  obtain ⟨RES, hR⟩ : ∃ r, nodeF (deepF h) (plainT h) ⟨k, n, v, ps, ks⟩ ⟨k2, n2, v2, qs, ls⟩ = r := ⟨_, rfl⟩
  rw [show deepF (h + 1) (⟨k, n, v, ps, ks⟩ : Nd (Tr h)) (⟨k2, n2, v2, qs, ls⟩ : Nd (Tr h)) = RES from hR]
  unfold nodeF at hR
  simp only at hR
  have HPS := Lib.hid hps
  have SX := Lib.hid hsx
  have SY := Lib.hid hsy
  clear hks hls hps hqs m3 m6 hsx hsy
  obtain ⟨xs, hxs⟩ : ∃ xs, plainT h ks = xs := ⟨_, rfl⟩
  obtain ⟨ys, hys⟩ : ∃ ys, plainT h ls = ys := ⟨_, rfl⟩
  rw [hxs] at P1 hR SX hlx
  rw [hys] at P2 hR SY hly
  obtain ⟨nx, hnx⟩ : ∃ nx, xs.length = nx := ⟨_, rfl⟩
  obtain ⟨ny, hny⟩ : ∃ ny, ys.length = ny := ⟨_, rfl⟩
  obtain ⟨np, hnp⟩ : ∃ np, ps.length = np := ⟨_, rfl⟩
  obtain ⟨nq, hnq⟩ : ∃ nq, qs.length = nq := ⟨_, rfl⟩
  rw [hnx] at P1 hlx
  rw [hny] at P2 hly
  rw [hnp] at C1 al m1
  rw [hnq] at C2 al2 m4
  rw [hnp, hnq]
  have HNX := Lib.hid hnx
  have HNY := Lib.hid hny
  have HNP := Lib.hid hnp
  have HNQ := Lib.hid hnq
  clear hxs hys hnx hny hnp hnq
  have ne : (k != k2) = false := by simpa using ek
  clear ek
  rw [ne] at hR
  simp only [Bool.false_eq_true, if_false] at hR
  have e1 : (k == 1) = false := by simp at e2 ⊢; omega
  have e3 : (k == 3) = false := by simp at e2 ⊢; omega
  have e4 : (k == 4) = false := by simp at e2 ⊢; omega
  have e5 : (k == 5) = false := by simp at e2 ⊢; omega
  have f2 : (k != 2) = false := by unfold bne; rw [e2]; rfl
  rw [e2] at hR
  replace hR : (n == n2 && (attrsF ps qs && listF (deepF h) xs ys)) = RES := hR
  by_cases en : n = n2
  · have g1 : (n.toList == n2.toList) = true := by rw [en]; simp
    have g2 : (n.toList != n2.toList) = false := by rw [en]; simp
    have g3 : (n == n2) = true := by simpa using en
    clear en
    rw [g3, Bool.true_and, attrs_counts] at hR
    rw [HNP.out, HNQ.out] at hR
    by_cases hlen : np = nq
    · have i4 : (np == nq) = true := by simpa using hlen
      rw [i4, Bool.true_and] at hR
      have HR0 := Lib.hid hR
      subst hlen
      clear hR i4
      go_enter Tryd.func9, Tryd.ntmps9
      go_wp2_with fail
      have BA : Blk ((w.alloc (.cells #[.int .i64 k, .string n, .string v, .slice aa np ca, .slice ka ks.length ck] 26)).alloc (.cells #[.int .i64 k2, .string n2, .string v2, .slice ab np cb, .slice kb ls.length cl] 26)) w.heap.size #[.int .i64 k, .string n, .string v, .slice aa np ca, .slice ka ks.length ck] 26 := (Blk.new _ _ _).alloc _
      have BB : Blk ((w.alloc (.cells #[.int .i64 k, .string n, .string v, .slice aa np ca, .slice ka ks.length ck] 26)).alloc (.cells #[.int .i64 k2, .string n2, .string v2, .slice ab np cb, .slice kb ls.length cl] 26)) (w.heap.size + 1) #[.int .i64 k2, .string n2, .string v2, .slice ab np cb, .slice kb ls.length cl] 26 := by
        have := Blk.new (w.alloc (.cells #[.int .i64 k, .string n, .string v, .slice aa np ca, .slice ka ks.length ck] 26)) #[.int .i64 k2, .string n2, .string v2, .slice ab np cb, .slice kb ls.length cl] 26
        simpa using this
      have hw1 : Below w.heap.size w ((w.alloc (.cells #[.int .i64 k, .string n, .string v, .slice aa np ca, .slice ka ks.length ck] 26)).alloc (.cells #[.int .i64 k2, .string n2, .string v2, .slice ab np cb, .slice kb ls.length cl] 26)) := ((Below.refl _ _).alloc (Nat.le_refl _) _).alloc (by simp) _
      generalize (w.alloc (.cells #[.int .i64 k, .string n, .string v, .slice aa np ca, .slice ka ks.length ck] 26)).alloc (.cells #[.int .i64 k2, .string n2, .string v2, .slice ab np cb, .slice kb ls.length cl] 26) = W at *
      have kA := BA.lt
      have kB := BB.lt
      obtain ⟨⟨a0, a1, a2, a3, a4⟩, -⟩ := BA.five5
      obtain ⟨⟨b0, b1, b2, b3, b4⟩, -⟩ := BB.five5
      go_loopg [5] (np + 1) (fun m jj wr => ∃ j : Nat, j ≤ np ∧ m + j = np + 1 ∧ jj = .int .i64 (j : Int) ∧ Below W.heap.size W wr ∧ Hid ((ps.take j).all (fun p => ps.count p == qs.count p) = true))
      case atStart => exact ⟨0, by omega, by omega, rfl, Below.refl _ _, rfl⟩
      case round =>
        obtain ⟨j, hj, hmj, rfl, hbr, HD⟩ := hrel
        have hj0 : (0 : Int) ≤ (j : Int) := Int.natCast_nonneg _
        have hwr := hw1.trans (hbr.mono hw1.size)
        replace BA := BA.below hbr BA.lt
        replace BB := BB.below hbr BB.lt
        clear kA kB a0 a1 a2 a3 a4 b0 b1 b2 b3 b4
        have kA := BA.lt
        have kB := BB.lt
        obtain ⟨⟨a0, a1, a2, a3, a4⟩, -⟩ := BA.five5
        obtain ⟨⟨b0, b1, b2, b3, b4⟩, -⟩ := BB.five5
        by_cases hlt : j < np
        · have i0 : decide ((j : Int) < (np : Int)) = true := by simp; omega
          have i6 : (j : Int) < (np : Int) := by omega
          obtain ⟨⟨s, t⟩, hjp⟩ : ∃ p, ps[j]? = some p := ⟨ps[j]'(by rw [HNP.out]; exact hlt), by simp⟩
          rcases HPS.out with h0 | ⟨b, of, rfl, hb, -, hc⟩
          · have := HNP.out; rw [h0] at this; simp at this; omega
          obtain ⟨u0, u1⟩ := hc j (s, t) hjp
          replace u0 := (hwr.cell (p := ⟨b, of + j * 2, none⟩) hb).trans u0
          replace u1 := (hwr.cell (p := ⟨b, of + j * 2 + 1, none⟩) hb).trans u1
          have lb := Nat.lt_of_lt_of_le hb hwr.size
          have D1 := Lib.hid (fun w' (hb : Below wr.heap.size wr w') => C1.out (s, t) w' (hwr.trans (hb.mono hwr.size)))
          have D2 := Lib.hid (fun w' (hb : Below wr.heap.size wr w') => C2.out (s, t) w' (hwr.trans (hb.mono hwr.size)))
          have hst := all_step (fun p => ps.count p == qs.count p) ps j (s, t) hjp
          have hno := all_no (fun p => ps.count p == qs.count p) ps j (s, t) hjp
          simp only at u0 u1 D1 D2 hst hno
          rw [HD.out, Bool.true_and] at hst
          obtain ⟨x1, hx1⟩ : ∃ x1, List.count (s, t) ps = x1 := ⟨_, rfl⟩
          obtain ⟨x2, hx2⟩ : ∃ x2, List.count (s, t) qs = x2 := ⟨_, rfl⟩
          rw [hx1] at D1 hst hno
          rw [hx2] at D2 hst hno
          have HST := Lib.hid hst
          have HNO := Lib.hid hno
          clear hc hjp hst hno hx1 hx2 hb
          go_wp2_with fail
          refine region_steps 17 [some 64, some 65, some 66, some 67, some 68, some 69, some 70, some 71, some 72, some 73, some 74, some 75, some 76, some 77, some 78, some 79, some 80] (by kernel_rfl) (by kernel_rfl) ?_
          -- 0: Op.fieldAddr 26 (Operand.tmp 2) 3
          apply ls_val
          · intro x w' hb hpre K hK
            have hc := (bcell hb).1
            clear hpre
            simp only [frL, Act.put, List.setIfInBounds_toArray, List.set_cons_zero, List.set_cons_succ, Nat.zero_add, Nat.reduceAdd] at hK ⊢
            have HK := Lib.hid hK
            clear hK
            refine Held.mk ?_
            go_simp
            exact HK.out _ (Below.refl _ _)
          -- 1: Op.load 23 (Operand.tmp 64)
          apply ls_val
          · intro x w' hb hpre K hK
            have hc := (bcell hb).1
            simp [preds, Region.binds, phi, MP.val, MP.box, MP.row] at hpre
            simp only [frL, Act.put, List.setIfInBounds_toArray, List.set_cons_zero, List.set_cons_succ, Nat.zero_add, Nat.reduceAdd, hpre] at hK ⊢
            have HK := Lib.hid hK
            clear hK
            refine Held.mk ?_
            go_simp
            exact HK.out _ (Below.refl _ _)
          -- 2: Op.fieldAddr 26 (Operand.tmp 2) 3
          apply ls_val
          · intro x w' hb hpre K hK
            have hc := (bcell hb).1
            clear hpre
            simp only [frL, Act.put, List.setIfInBounds_toArray, List.set_cons_zero, List.set_cons_succ, Nat.zero_add, Nat.reduceAdd] at hK ⊢
            have HK := Lib.hid hK
            clear hK
            refine Held.mk ?_
            go_simp
            exact HK.out _ (Below.refl _ _)
          -- 3: Op.load 23 (Operand.tmp 66)
          apply ls_val
          · intro x w' hb hpre K hK
            have hc := (bcell hb).1
            simp [preds, Region.binds, phi, MP.val, MP.box, MP.row] at hpre
            simp only [frL, Act.put, List.setIfInBounds_toArray, List.set_cons_zero, List.set_cons_succ, Nat.zero_add, Nat.reduceAdd, hpre] at hK ⊢
            have HK := Lib.hid hK
            clear hK
            refine Held.mk ?_
            go_simp
            exact HK.out _ (Below.refl _ _)
          -- 4: Op.move (Operand.tmp 5)
          apply ls_val
          · intro x w' hb hpre K hK
            have hc := (bcell hb).1
            clear hpre
            simp only [frL, Act.put, List.setIfInBounds_toArray, List.set_cons_zero, List.set_cons_succ, Nat.zero_add, Nat.reduceAdd] at hK ⊢
            have HK := Lib.hid hK
            clear hK
            refine Held.mk ?_
            go_simp
            exact HK.out _ (Below.refl _ _)
          -- 5: Op.indexAddr 23 (Operand.tmp 67) (Operand.tmp 68)
          apply ls_val
          · intro x w' hb hpre K hK
            have hc := (bcell hb).1
            simp [preds, Region.binds, phi, MP.val, MP.box, MP.row] at hpre
            simp only [frL, Act.put, List.setIfInBounds_toArray, List.set_cons_zero, List.set_cons_succ, Nat.zero_add, Nat.reduceAdd, hpre] at hK ⊢
            have HK := Lib.hid hK
            clear hK
            refine Held.mk ?_
            go_simp
            exact HK.out _ (Below.refl _ _)
          -- 6: Op.load 33 (Operand.tmp 69)
          apply ls_val
          · intro x w' hb hpre K hK
            have hc := (bcell hb).1
            simp [preds, Region.binds, phi, MP.val, MP.box, MP.row] at hpre
            simp only [frL, Act.put, List.setIfInBounds_toArray, List.set_cons_zero, List.set_cons_succ, Nat.zero_add, Nat.reduceAdd, hpre] at hK ⊢
            have HK := Lib.hid hK
            clear hK
            refine Held.mk ?_
            go_simp
            exact HK.out _ (Below.refl _ _)
          -- 7: Op.call { callee := Callee.value (Operand.func 18), args := #[Operand.tmp 65, Operand.tmp 
          apply ls_val
          · intro x w' hb hpre K hK
            have hc := (bcell hb).1
            simp [preds, Region.binds, phi, MP.val, MP.box, MP.row] at hpre
            simp only [frL, Act.put, List.setIfInBounds_toArray, List.set_cons_zero, List.set_cons_succ, Nat.zero_add, Nat.reduceAdd, hpre] at hK ⊢
            have HK := Lib.hid hK
            clear hK
            refine Held.mk ?_
            go_simp
            (with_reducible refine (D1.out _ hb).mono ?_)
            rintro e w1 ⟨rfl, hb1⟩
            dsimp only
            exact HK.out _ hb1
          -- 8: Op.fieldAddr 26 (Operand.tmp 3) 3
          apply ls_val
          · intro x w' hb hpre K hK
            have hc := (bcell hb).1
            clear hpre
            simp only [frL, Act.put, List.setIfInBounds_toArray, List.set_cons_zero, List.set_cons_succ, Nat.zero_add, Nat.reduceAdd] at hK ⊢
            have HK := Lib.hid hK
            clear hK
            refine Held.mk ?_
            go_simp
            exact HK.out _ (Below.refl _ _)
          -- 9: Op.load 23 (Operand.tmp 72)
          apply ls_val
          · intro x w' hb hpre K hK
            have hc := (bcell hb).1
            simp [preds, Region.binds, phi, MP.val, MP.box, MP.row] at hpre
            simp only [frL, Act.put, List.setIfInBounds_toArray, List.set_cons_zero, List.set_cons_succ, Nat.zero_add, Nat.reduceAdd, hpre] at hK ⊢
            have HK := Lib.hid hK
            clear hK
            refine Held.mk ?_
            go_simp
            exact HK.out _ (Below.refl _ _)
          -- 10: Op.fieldAddr 26 (Operand.tmp 2) 3
          apply ls_val
          · intro x w' hb hpre K hK
            have hc := (bcell hb).1
            clear hpre
            simp only [frL, Act.put, List.setIfInBounds_toArray, List.set_cons_zero, List.set_cons_succ, Nat.zero_add, Nat.reduceAdd] at hK ⊢
            have HK := Lib.hid hK
            clear hK
            refine Held.mk ?_
            go_simp
            exact HK.out _ (Below.refl _ _)
          -- 11: Op.load 23 (Operand.tmp 74)
          apply ls_val
          · intro x w' hb hpre K hK
            have hc := (bcell hb).1
            simp [preds, Region.binds, phi, MP.val, MP.box, MP.row] at hpre
            simp only [frL, Act.put, List.setIfInBounds_toArray, List.set_cons_zero, List.set_cons_succ, Nat.zero_add, Nat.reduceAdd, hpre] at hK ⊢
            have HK := Lib.hid hK
            clear hK
            refine Held.mk ?_
            go_simp
            exact HK.out _ (Below.refl _ _)
          -- 12: Op.move (Operand.tmp 5)
          apply ls_val
          · intro x w' hb hpre K hK
            have hc := (bcell hb).1
            clear hpre
            simp only [frL, Act.put, List.setIfInBounds_toArray, List.set_cons_zero, List.set_cons_succ, Nat.zero_add, Nat.reduceAdd] at hK ⊢
            have HK := Lib.hid hK
            clear hK
            refine Held.mk ?_
            go_simp
            exact HK.out _ (Below.refl _ _)
          -- 13: Op.indexAddr 23 (Operand.tmp 75) (Operand.tmp 76)
          apply ls_val
          · intro x w' hb hpre K hK
            have hc := (bcell hb).1
            simp [preds, Region.binds, phi, MP.val, MP.box, MP.row] at hpre
            simp only [frL, Act.put, List.setIfInBounds_toArray, List.set_cons_zero, List.set_cons_succ, Nat.zero_add, Nat.reduceAdd, hpre] at hK ⊢
            have HK := Lib.hid hK
            clear hK
            refine Held.mk ?_
            go_simp
            exact HK.out _ (Below.refl _ _)
          -- 14: Op.load 33 (Operand.tmp 77)
          apply ls_val
          · intro x w' hb hpre K hK
            have hc := (bcell hb).1
            simp [preds, Region.binds, phi, MP.val, MP.box, MP.row] at hpre
            simp only [frL, Act.put, List.setIfInBounds_toArray, List.set_cons_zero, List.set_cons_succ, Nat.zero_add, Nat.reduceAdd, hpre] at hK ⊢
            have HK := Lib.hid hK
            clear hK
            refine Held.mk ?_
            go_simp
            exact HK.out _ (Below.refl _ _)
          -- 15: Op.call { callee := Callee.value (Operand.func 18), args := #[Operand.tmp 73, Operand.tmp 
          apply ls_val
          · intro x w' hb hpre K hK
            have hc := (bcell hb).1
            simp [preds, Region.binds, phi, MP.val, MP.box, MP.row] at hpre
            simp only [frL, Act.put, List.setIfInBounds_toArray, List.set_cons_zero, List.set_cons_succ, Nat.zero_add, Nat.reduceAdd, hpre] at hK ⊢
            have HK := Lib.hid hK
            clear hK
            refine Held.mk ?_
            go_simp
            (with_reducible refine (D2.out _ hb).mono ?_)
            rintro e w1 ⟨rfl, hb1⟩
            dsimp only
            exact HK.out _ hb1
          -- 16: Op.binOp BinOp.neq 3 (Operand.tmp 71) (Operand.tmp 79) 3
          apply ls_val
          · intro x w' hb hpre K hK
            have hc := (bcell hb).1
            simp [preds, Region.binds, phi, MP.val, MP.box, MP.row] at hpre
            simp only [frL, Act.put, List.setIfInBounds_toArray, List.set_cons_zero, List.set_cons_succ, Nat.zero_add, Nat.reduceAdd, hpre] at hK ⊢
            have HK := Lib.hid hK
            clear hK
            refine Held.mk ?_
            go_simp
            exact HK.out _ (Below.refl _ _)
          intro x w' hb hp
          simp only [List.cons_append, List.nil_append, phis, MP.val, MP.box, MP.row, frL, Act.put, List.setIfInBounds_toArray, List.set_cons_zero, List.set_cons_succ, Nat.zero_add, Nat.reduceAdd] at hp ⊢
          obtain ⟨h0, h1, h2, h3, h4, h5, h6, h7, h8, h9, h10, h11, h12, h13, h14, h15, h16, -⟩ := hp
          simp only [h0, h1, h2, h3, h4, h5, h6, h7, h8, h9, h10, h11, h12, h13, h14, h15, h16]
          clear h0 h1 h2 h3 h4 h5 h6 h7 h8 h9 h10 h11 h12 h13 h14 h15 h16
          show wpList Tryd.prog _ _ [] _ _
          have hw5 := hbr.trans (hb.mono hbr.size)
          have hw6 := hwr.trans (hb.mono hwr.size)
          by_cases hxx : x1 = x2
          · have hst := HST.out
            have i8 : ((x1 : Int) != (x2 : Int)) = false := by simp; omega
            rw [show (x1 == x2) = true by simpa using hxx] at hst
            have HD2 := Lib.hid hst
            clear u0 u1 hb HST HNO hst D1 D2
            go_wp2_with fail
            go_roundg (gk - 1)
            case measure => omega
            case rel => exact ⟨j + 1, by omega, by omega, by go_num, hw5, HD2⟩
          · have i8 : ((x1 : Int) != (x2 : Int)) = true := by simp; omega
            have hr := HR0.out
            have hf := HNO.out (by simpa using hxx)
            rw [hf] at hr
            replace hr : false = RES := hr
            subst hr
            clear u0 u1 hb HST D1 D2 HR0
            go_wp2_with fail
            go_returns
            exact ⟨rfl, hw6⟩
        · have i0 : decide ((j : Int) < (np : Int)) = false := by simp; omega
          have hd := HD.out
          rw [List.take_of_length_le (by rw [HNP.out]; omega)] at hd
          have hR := HR0.out
          rw [hd, Bool.true_and] at hR
          clear hd HD HR0
          have HR := Lib.hid hR
          clear hR C1 C2
          go_wp2_with fail
          with_reducible refine (P1.out _ hwr).mono ?_
          rintro e w3 ⟨⟨ax, cx, rfl, TX, -⟩, hb⟩
          have hw3 : Below w.heap.size w w3 := hwr.trans (hb.mono hwr.size)
          replace BA := BA.below hb BA.lt
          replace BB := BB.below hb BB.lt
          clear kA kB a0 a1 a2 a3 a4 b0 b1 b2 b3 b4
          have kA := BA.lt
          have kB := BB.lt
          obtain ⟨⟨a0, a1, a2, a3, a4⟩, -⟩ := BA.five5
          obtain ⟨⟨b0, b1, b2, b3, b4⟩, -⟩ := BB.five5
          clear hb
          go_wp2_with fail
          with_reducible refine (P2.out _ hw3).mono ?_
          rintro e w4 ⟨⟨ay, cy, rfl, TY, -⟩, hb⟩
          have hw4 : Below w.heap.size w w4 := hw3.trans (hb.mono hw3.size)
          replace TX := TX.on hb
          have HTX := Lib.hid TX
          have HTY := Lib.hid TY
          clear hb kA kB a0 a1 a2 a3 a4 b0 b1 b2 b3 b4 TX TY BA BB P1 P2
          by_cases hlen : nx = ny
          · subst hlen
            go_wp2_with fail
            go_loopg [8] (nx + 1) (fun m jj wr => ∃ j : Nat, j ≤ nx ∧ m + j = nx + 1 ∧ jj = .int .i64 (j : Int) ∧ Below w4.heap.size w4 wr ∧ Hid (listF (deepF h) (xs.drop j) (ys.drop j) = RES))
            case atStart => exact ⟨0, by omega, by omega, rfl, Below.refl _ _, by unfold Hid; rw [List.drop_zero, List.drop_zero]; exact HR.out⟩
            case round =>
              obtain ⟨j, hj, hmj, rfl, hbr, HD⟩ := hrel
              have hj0 : (0 : Int) ≤ (j : Int) := Int.natCast_nonneg _
              have hwr := hw4.trans (hbr.mono hw4.size)
              by_cases hlt : j < nx
              · have i0 : decide ((j : Int) < (nx : Int)) = true := by simp; omega
                have i6 : (j : Int) < (nx : Int) := by omega
                have i7 : (j : Int) < (nx : Int) := by omega
                obtain ⟨p, hjp⟩ : ∃ p, xs[j]? = some p := ⟨xs[j]'(by rw [HNX.out]; exact hlt), by simp⟩
                obtain ⟨q, hjq⟩ : ∃ q, ys[j]? = some q := ⟨ys[j]'(by rw [HNY.out]; exact hlt), by simp⟩
                have hd := HD.out
                rw [kdrop hjp, kdrop hjq, listF_step] at hd
                rcases HTX.out with h0 | ⟨b, of, rfl, hb, -, hc⟩
                · have := HNX.out; rw [h0] at this; simp at this; omega
                rcases HTY.out with h0 | ⟨b', of', rfl, hb', -, hc'⟩
                · have := HNY.out; rw [h0] at this; simp at this; omega
                obtain ⟨c0, c1, c2, c3, c4, u0, u1, u2, u3, u4, hx⟩ := hc j p hjp
                obtain ⟨d0, d1, d2, d3, d4, v0, v1, v2', v3, v4, hy⟩ := hc' j q hjq
                have CX := Lib.hid (fun w' (hb : Below wr.heap.size wr w') => IH.out p q _ _ w' ((hx.on hbr).on hb) ((hy.on hbr).on hb) (SX.out p (List.mem_of_getElem? hjp)) (SY.out q (List.mem_of_getElem? hjq)))
                replace u0 := (hbr.cell (p := ⟨b, of + j * 5, none⟩) hb).trans u0
                replace u1 := (hbr.cell (p := ⟨b, of + j * 5 + 1, none⟩) hb).trans u1
                replace u2 := (hbr.cell (p := ⟨b, of + j * 5 + 2, none⟩) hb).trans u2
                replace u3 := (hbr.cell (p := ⟨b, of + j * 5 + 3, none⟩) hb).trans u3
                replace u4 := (hbr.cell (p := ⟨b, of + j * 5 + 4, none⟩) hb).trans u4
                replace v0 := (hbr.cell (p := ⟨b', of' + j * 5, none⟩) hb').trans v0
                replace v1 := (hbr.cell (p := ⟨b', of' + j * 5 + 1, none⟩) hb').trans v1
                replace v2' := (hbr.cell (p := ⟨b', of' + j * 5 + 2, none⟩) hb').trans v2'
                replace v3 := (hbr.cell (p := ⟨b', of' + j * 5 + 3, none⟩) hb').trans v3
                replace v4 := (hbr.cell (p := ⟨b', of' + j * 5 + 4, none⟩) hb').trans v4
                have lb := Nat.lt_of_lt_of_le hb hbr.size
                have lb' := Nat.lt_of_lt_of_le hb' hbr.size
                obtain ⟨rr, hrr⟩ : ∃ rr, deepF h p q = rr := ⟨_, rfl⟩
                rw [hrr] at CX hd
                clear HD hc hc' hx hy hjp hjq hrr hb hb'
                go_wp2_with fail
                refine region_steps 10 [some 106, some 107, some 108, some 109, some 110, some 111, some 112, some 113, some 114, some 115] (by kernel_rfl) (by kernel_rfl) ?_
                -- 0: Op.move (Operand.tmp 6)
                apply ls_val
                · intro x w' hb hpre K hK
                  have hc := (bcell hb).1
                  clear hpre
                  simp only [frL, Act.put, List.setIfInBounds_toArray, List.set_cons_zero, List.set_cons_succ, Nat.zero_add, Nat.reduceAdd] at hK ⊢
                  have HK := Lib.hid hK
                  clear hK
                  refine Held.mk ?_
                  go_simp
                  exact HK.out _ (Below.refl _ _)
                -- 1: Op.move (Operand.tmp 8)
                apply ls_val
                · intro x w' hb hpre K hK
                  have hc := (bcell hb).1
                  clear hpre
                  simp only [frL, Act.put, List.setIfInBounds_toArray, List.set_cons_zero, List.set_cons_succ, Nat.zero_add, Nat.reduceAdd] at hK ⊢
                  have HK := Lib.hid hK
                  clear hK
                  refine Held.mk ?_
                  go_simp
                  exact HK.out _ (Below.refl _ _)
                -- 2: Op.indexAddr 24 (Operand.tmp 106) (Operand.tmp 107)
                apply ls_val
                · intro x w' hb hpre K hK
                  have hc := (bcell hb).1
                  simp [preds, Region.binds, phi, MP.val, MP.box, MP.row] at hpre
                  simp only [frL, Act.put, List.setIfInBounds_toArray, List.set_cons_zero, List.set_cons_succ, Nat.zero_add, Nat.reduceAdd, hpre] at hK ⊢
                  have HK := Lib.hid hK
                  clear hK
                  refine Held.mk ?_
                  go_simp
                  exact HK.out _ (Below.refl _ _)
                -- 3: Op.load 26 (Operand.tmp 108)
                apply ls_val
                · intro x w' hb hpre K hK
                  have hc := (bcell hb).1
                  simp [preds, Region.binds, phi, MP.val, MP.box, MP.row] at hpre
                  simp only [frL, Act.put, List.setIfInBounds_toArray, List.set_cons_zero, List.set_cons_succ, Nat.zero_add, Nat.reduceAdd, hpre] at hK ⊢
                  have HK := Lib.hid hK
                  clear hK
                  refine Held.mk ?_
                  go_simp
                  exact HK.out _ (Below.refl _ _)
                -- 4: Op.move (Operand.tmp 7)
                apply ls_val
                · intro x w' hb hpre K hK
                  have hc := (bcell hb).1
                  clear hpre
                  simp only [frL, Act.put, List.setIfInBounds_toArray, List.set_cons_zero, List.set_cons_succ, Nat.zero_add, Nat.reduceAdd] at hK ⊢
                  have HK := Lib.hid hK
                  clear hK
                  refine Held.mk ?_
                  go_simp
                  exact HK.out _ (Below.refl _ _)
                -- 5: Op.move (Operand.tmp 8)
                apply ls_val
                · intro x w' hb hpre K hK
                  have hc := (bcell hb).1
                  clear hpre
                  simp only [frL, Act.put, List.setIfInBounds_toArray, List.set_cons_zero, List.set_cons_succ, Nat.zero_add, Nat.reduceAdd] at hK ⊢
                  have HK := Lib.hid hK
                  clear hK
                  refine Held.mk ?_
                  go_simp
                  exact HK.out _ (Below.refl _ _)
                -- 6: Op.indexAddr 24 (Operand.tmp 110) (Operand.tmp 111)
                apply ls_val
                · intro x w' hb hpre K hK
                  have hc := (bcell hb).1
                  simp [preds, Region.binds, phi, MP.val, MP.box, MP.row] at hpre
                  simp only [frL, Act.put, List.setIfInBounds_toArray, List.set_cons_zero, List.set_cons_succ, Nat.zero_add, Nat.reduceAdd, hpre] at hK ⊢
                  have HK := Lib.hid hK
                  clear hK
                  refine Held.mk ?_
                  go_simp
                  exact HK.out _ (Below.refl _ _)
                -- 7: Op.load 26 (Operand.tmp 112)
                apply ls_val
                · intro x w' hb hpre K hK
                  have hc := (bcell hb).1
                  simp [preds, Region.binds, phi, MP.val, MP.box, MP.row] at hpre
                  simp only [frL, Act.put, List.setIfInBounds_toArray, List.set_cons_zero, List.set_cons_succ, Nat.zero_add, Nat.reduceAdd, hpre] at hK ⊢
                  have HK := Lib.hid hK
                  clear hK
                  refine Held.mk ?_
                  go_simp
                  exact HK.out _ (Below.refl _ _)
                -- 8: Op.call { callee := Callee.value (Operand.func 9), args := #[Operand.tmp 109, Operand.tmp 
                apply ls_val
                · intro x w' hb hpre K hK
                  have hc := (bcell hb).1
                  simp [preds, Region.binds, phi, MP.val, MP.box, MP.row] at hpre
                  simp only [frL, Act.put, List.setIfInBounds_toArray, List.set_cons_zero, List.set_cons_succ, Nat.zero_add, Nat.reduceAdd, hpre] at hK ⊢
                  have HK := Lib.hid hK
                  clear hK
                  refine Held.mk ?_
                  go_simp
                  (with_reducible refine (CX.out _ hb).mono ?_)
                  rintro e w1 ⟨rfl, hb1⟩
                  dsimp only
                  exact HK.out _ hb1
                -- 9: Op.unOp UnOp.not 4 (Operand.tmp 114)
                apply ls_val
                · intro x w' hb hpre K hK
                  have hc := (bcell hb).1
                  simp [preds, Region.binds, phi, MP.val, MP.box, MP.row] at hpre
                  simp only [frL, Act.put, List.setIfInBounds_toArray, List.set_cons_zero, List.set_cons_succ, Nat.zero_add, Nat.reduceAdd, hpre] at hK ⊢
                  have HK := Lib.hid hK
                  clear hK
                  refine Held.mk ?_
                  go_simp
                  exact HK.out _ (Below.refl _ _)
                intro x w' hb hp
                simp only [List.cons_append, List.nil_append, phis, MP.val, MP.box, MP.row, frL, Act.put, List.setIfInBounds_toArray, List.set_cons_zero, List.set_cons_succ, Nat.zero_add, Nat.reduceAdd] at hp ⊢
                obtain ⟨h0, h1, h2, h3, h4, h5, h6, h7, h8, h9, -⟩ := hp
                simp only [h0, h1, h2, h3, h4, h5, h6, h7, h8, h9]
                clear h0 h1 h2 h3 h4 h5 h6 h7 h8 h9
                show wpList Tryd.prog _ _ [] _ _
                have hw5 := hbr.trans (hb.mono hbr.size)
                have hw6 := hwr.trans (hb.mono hwr.size)
                cases rr
                · replace hd : false = RES := hd
                  subst hd
                  clear u0 u1 u2 u3 u4 v0 v1 v2' v3 v4 hb
                  go_wp2_with fail
                  go_returns
                  exact ⟨rfl, hw6⟩
                · have HD2 := Lib.hid (show listF (deepF h) (xs.drop (j + 1)) (ys.drop (j + 1)) = RES from hd)
                  clear u0 u1 u2 u3 u4 v0 v1 v2' v3 v4 hb hd
                  go_wp2_with fail
                  go_roundg (gk - 1)
                  case measure => omega
                  case rel => exact ⟨j + 1, by omega, by omega, by go_num, hw5, HD2⟩
              · have i0 : decide ((j : Int) < (nx : Int)) = false := by simp; omega
                have hd := HD.out
                rw [List.drop_eq_nil_of_le (by rw [HNX.out]; omega), List.drop_eq_nil_of_le (by rw [HNY.out]; omega)] at hd
                replace hd : true = RES := hd
                subst hd
                clear HD
                go_wp2_with fail
                go_returns
                exact ⟨rfl, hwr⟩
          · have i5 : ((nx : Int) != (ny : Int)) = true := by simp; omega
            have hr := HR.out
            rw [listF_len _ _ _ (by rw [HNX.out, HNY.out]; exact hlen)] at hr
            subst hr
            clear HR
            go_wp2_with fail
            go_returns
            exact ⟨rfl, hw4⟩
    · have i5 : ((np : Int) != (nq : Int)) = true := by simp; omega
      have i4 : (np == nq) = false := by simpa using hlen
      rw [i4] at hR
      replace hR : false = RES := hR
      subst hR
      go_enter Tryd.func9, Tryd.ntmps9
      go_wp2_with fail
      go_returns
      exact ⟨rfl, by go_grown⟩
  · obtain ⟨g1, g2⟩ := ne_list en
    have g3 : (n == n2) = false := by simpa using en
    clear en
    rw [g3] at hR
    replace hR : false = RES := hR
    subst hR
    go_enter Tryd.func9, Tryd.ntmps9
    go_wp2_with fail
    go_returns
    exact ⟨rfl, by go_grown⟩
end Go.Proofs.YtgdbbocfiejlfaaDoor

/- The program's Trees. -/
import Derived.Test.YtgdbbocfiejlfaaDoorDpV
import Derived.Test.YtgdbbocfiejlfaaDoorDqC
import Derived.Test.YtgdbbocfiejlfaaDoorDpP
import Derived.Test.YtgdbbocfiejlfaaDoorDpL
import Derived.Test.YtgdbbocfiejlfaaDoorDpF
set_option linter.unusedSimpArgs false
set_option linter.unusedVariables false
set_option linter.constructorNameAsVariable false
namespace Go.Proofs.YtgdbbocfiejlfaaDoor
open Go.RowKit

def MPrt (h : Nat) (n : Nat) (xs : List (Tr h)) : RC.MP RB := ⟨fun v w => ∃ a c, v = .slice a n c ∧ TRowT h w a xs, fun _ _ _ ⟨a, c, h1, h2⟩ hr => ⟨a, c, h1, h2.on hr⟩⟩
def MPrp (n : Nat) (xs : List Pr) : RC.MP RB := ⟨fun v w => ∃ a c, v = .slice a n c ∧ PRow All w a xs, fun _ _ _ ⟨a, c, h1, h2⟩ hr => ⟨a, c, h1, h2.on (kept_of hr) (fun _ _ _ => trivial)⟩⟩
set_option maxRecDepth 100000 in
set_option maxHeartbeats 8000000 in
theorem trees_any : ∀ (h : Nat) (a b : Tr h) (cs ds : Array Value) (w : World), TLies All h w a cs → TLies All h w b ds → SmallT h a → SmallT h b → Calls Tryd.prog 8 #[.agg cs, .agg ds] w fun e w' => e = .returned (.bool (deepF h a b)) ∧ Below w.heap.size w w'
  | 0, a, _, _, _, _, _, _, _, _ => nomatch a
  | h + 1, (⟨k, n, v, ps, ks⟩ : Nd (Tr h)), (⟨k2, n2, v2, qs, ls⟩ : Nd (Tr h)), cs, ds, w, ⟨aa, ca, ka, ck, H⟩, ⟨ab, cb, kb, cl, H2⟩, M1, M2 => by
    obtain ⟨rfl, an, kn, al, kl, hps, hks⟩ := H
    obtain ⟨rfl, an2, kn2, al2, kl2, hqs, hls⟩ := H2
    obtain ⟨m1, m2, m3⟩ := M1
    obtain ⟨m4, m5, m6⟩ := M2
    simp only at al kl hps hks al2 kl2 hqs hls m1 m2 m3 m4 m5 m6 an kn an2 kn2 ⊢
    have m3 : ∀ x ∈ ks, SmallT h x := m3
    have m6 : ∀ x ∈ ls, SmallT h x := m6
    have P1 := Lib.hid (fun w' (hb : Below w.heap.size w w') => pplain_any h ka ck ks w' (TRowT.on hks hb) kn (Nat.le_trans m2 (by omega)))
    have P2 := Lib.hid (fun w' (hb : Below w.heap.size w w') => pplain_any h kb cl ls w' (TRowT.on hls hb) kn2 (Nat.le_trans m5 (by omega)))
    have S1 := Lib.hid (fun w' (hb : Below w.heap.size w w') => sorted_any aa ca ps (Nat.le_trans m1 (by omega)) w' (hps.on (kept_of hb) fun _ h _ => h))
    have S2 := Lib.hid (fun w' (hb : Below w.heap.size w w') => sorted_any ab cb qs (Nat.le_trans m4 (by omega)) w' (hqs.on (kept_of hb) fun _ h _ => h))
    have hlx : (plainT h ks).length ≤ 400 := Nat.le_trans (plain_le h ks) m2
    have hly : (plainT h ls).length ≤ 400 := Nat.le_trans (plain_le h ls) m5
    have EF := Lib.hid (fun a b c d w' hX hY => equalfunc_any h (deepF h) a b c d (plainT h ks) (plainT h ls) w' hX hY (by omega) (by omega) (fun x hx y hy cx cy w2 h1 h2 => trees_any h x y cx cy w2 h1 h2 (m3 x (List.mem_filter.1 hx).1) (m6 y (List.mem_filter.1 hy).1)))
    have EQ := Lib.hid (fun a b c d w' hX hY => equal_any a b c d (ps.mergeSort prLe) (qs.mergeSort prLe) w' hX hY (by simp; omega) (by simp; omega))
    rw [← attrs_sort] at EQ
    rw [List.length_mergeSort, List.length_mergeSort] at EQ
    obtain ⟨RES, hR⟩ : ∃ r, nodeF (deepF h) (plainT h) ⟨k, n, v, ps, ks⟩ ⟨k2, n2, v2, qs, ls⟩ = r := ⟨_, rfl⟩
    rw [show deepF (h + 1) (⟨k, n, v, ps, ks⟩ : Nd (Tr h)) (⟨k2, n2, v2, qs, ls⟩ : Nd (Tr h)) = RES from hR]
    unfold nodeF at hR
    simp only at hR
    clear hks hls hps hqs m3 m6 an kn an2 kn2
    obtain ⟨xs, hxs⟩ : ∃ xs, plainT h ks = xs := ⟨_, rfl⟩
    obtain ⟨ys, hys⟩ : ∃ ys, plainT h ls = ys := ⟨_, rfl⟩
    obtain ⟨pe, hpe⟩ : ∃ pe, attrsF ps qs = pe := ⟨_, rfl⟩
    rw [hpe] at EQ hR
    rw [hxs] at P1 EF hR hlx
    rw [hys] at P2 EF hR hly
    obtain ⟨lf, hlf⟩ : ∃ lf, listF (deepF h) xs ys = lf := ⟨_, rfl⟩
    rw [hlf] at EF hR
    obtain ⟨nx, hnx⟩ : ∃ nx, xs.length = nx := ⟨_, rfl⟩
    obtain ⟨ny, hny⟩ : ∃ ny, ys.length = ny := ⟨_, rfl⟩
    obtain ⟨np, hnp⟩ : ∃ np, ps.length = np := ⟨_, rfl⟩
    obtain ⟨nq, hnq⟩ : ∃ nq, qs.length = nq := ⟨_, rfl⟩
    obtain ⟨nk, hnk⟩ : ∃ nk, ks.length = nk := ⟨_, rfl⟩
    obtain ⟨nl, hnl⟩ : ∃ nl, ls.length = nl := ⟨_, rfl⟩
    obtain ⟨sp, hsp⟩ : ∃ sp, ps.mergeSort prLe = sp := ⟨_, rfl⟩
    obtain ⟨sq, hsq⟩ : ∃ sq, qs.mergeSort prLe = sq := ⟨_, rfl⟩
    rw [hnx] at P1 EF hlx
    rw [hny] at P2 EF hly
    rw [hnp] at S1 EQ al m1
    rw [hnq] at S2 EQ al2 m4
    rw [hnk] at P1 kl m2
    rw [hnl] at P2 kl2 m5
    rw [hsp] at S1 EQ
    rw [hsq] at S2 EQ
    rw [hnp, hnq, hnk, hnl]
    clear hxs hys hpe hlf hnx hny hnp hnq hnk hnl hsp hsq
    by_cases ek : k = k2
    · have ne : (k != k2) = false := by simpa using ek
      clear ek
      rw [ne] at hR
      simp only [Bool.false_eq_true, if_false] at hR
      cases e2 : (k == 2)
      · cases e1 : (k == 1)
        · cases e3 : (k == 3)
          · cases e4 : (k == 4)
            · cases e5 : (k == 5)
              · rw [e2, e1, e3, e4, e5] at hR
                replace hR : true = RES := hR
                subst hR
                clear P1 P2 S1 S2 EF EQ
                go_enter Tryd.func8, Tryd.ntmps8
                go_wp2_with fail
                go_returns
                exact ⟨rfl, by go_grown⟩
              · rw [e2, e1, e3, e4, e5] at hR
                replace hR : (v == v2) = RES := hR
                subst hR
                clear P1 P2 S1 S2 EF EQ
                by_cases ev : v = v2
                · have g1 : (v.toList == v2.toList) = true := by rw [ev]; simp
                  have g3 : (v == v2) = true := by simpa using ev
                  clear ev
                  go_enter Tryd.func8, Tryd.ntmps8
                  go_wp2_with fail
                  go_returns
                  exact ⟨by simp only [g1, g3]; rfl, by go_grown⟩
                · obtain ⟨g1, g2⟩ := ne_list ev
                  have g3 : (v == v2) = false := by simpa using ev
                  clear ev
                  go_enter Tryd.func8, Tryd.ntmps8
                  go_wp2_with fail
                  go_returns
                  exact ⟨by simp only [g1, g3]; rfl, by go_grown⟩
            · rw [e2, e1, e3, e4] at hR
              replace hR : (v == v2) = RES := hR
              subst hR
              clear P1 P2 S1 S2 EF EQ
              by_cases ev : v = v2
              · have g1 : (v.toList == v2.toList) = true := by rw [ev]; simp
                have g3 : (v == v2) = true := by simpa using ev
                clear ev
                go_enter Tryd.func8, Tryd.ntmps8
                go_wp2_with fail
                go_returns
                exact ⟨by simp only [g1, g3]; rfl, by go_grown⟩
              · obtain ⟨g1, g2⟩ := ne_list ev
                have g3 : (v == v2) = false := by simpa using ev
                clear ev
                go_enter Tryd.func8, Tryd.ntmps8
                go_wp2_with fail
                go_returns
                exact ⟨by simp only [g1, g3]; rfl, by go_grown⟩
          · rw [e2, e1, e3] at hR
            replace hR : (n == n2 && v == v2) = RES := hR
            subst hR
            clear P1 P2 S1 S2 EF EQ
            by_cases en : n = n2
            · have h1 : (n.toList == n2.toList) = true := by rw [en]; simp
              have h3 : (n == n2) = true := by simpa using en
              clear en
              rw [h3, Bool.true_and]
              by_cases ev : v = v2
              · have g1 : (v.toList == v2.toList) = true := by rw [ev]; simp
                have g3 : (v == v2) = true := by simpa using ev
                clear ev
                go_enter Tryd.func8, Tryd.ntmps8
                go_wp2_with fail
                go_returns
                exact ⟨by simp only [g1, g3]; rfl, by go_grown⟩
              · obtain ⟨g1, g2⟩ := ne_list ev
                have g3 : (v == v2) = false := by simpa using ev
                clear ev
                go_enter Tryd.func8, Tryd.ntmps8
                go_wp2_with fail
                go_returns
                exact ⟨by simp only [g1, g3]; rfl, by go_grown⟩
            · obtain ⟨g1, g2⟩ := ne_list en
              have g3 : (n == n2) = false := by simpa using en
              clear en
              go_enter Tryd.func8, Tryd.ntmps8
              go_wp2_with fail
              go_returns
              exact ⟨by rw [g3]; rfl, by go_grown⟩
        · rw [e2, e1] at hR
          simp only [Bool.false_eq_true, if_false, if_true] at hR
          subst hR
          clear S1 S2 EQ
          go_enter Tryd.func8, Tryd.ntmps8
          go_wp2_with fail
          have BA : Blk ((w.alloc (.cells #[.int .i64 k, .string n, .string v, .slice aa np ca, .slice ka nk ck] 26)).alloc (.cells #[.int .i64 k2, .string n2, .string v2, .slice ab nq cb, .slice kb nl cl] 26)) w.heap.size #[.int .i64 k, .string n, .string v, .slice aa np ca, .slice ka nk ck] 26 := (Blk.new _ _ _).alloc _
          have BB : Blk ((w.alloc (.cells #[.int .i64 k, .string n, .string v, .slice aa np ca, .slice ka nk ck] 26)).alloc (.cells #[.int .i64 k2, .string n2, .string v2, .slice ab nq cb, .slice kb nl cl] 26)) (w.heap.size + 1) #[.int .i64 k2, .string n2, .string v2, .slice ab nq cb, .slice kb nl cl] 26 := by
            have := Blk.new (w.alloc (.cells #[.int .i64 k, .string n, .string v, .slice aa np ca, .slice ka nk ck] 26)) #[.int .i64 k2, .string n2, .string v2, .slice ab nq cb, .slice kb nl cl] 26
            simpa using this
          have hw1 : Below w.heap.size w ((w.alloc (.cells #[.int .i64 k, .string n, .string v, .slice aa np ca, .slice ka nk ck] 26)).alloc (.cells #[.int .i64 k2, .string n2, .string v2, .slice ab nq cb, .slice kb nl cl] 26)) := ((Below.refl _ _).alloc (Nat.le_refl _) _).alloc (by simp) _
          generalize (w.alloc (.cells #[.int .i64 k, .string n, .string v, .slice aa np ca, .slice ka nk ck] 26)).alloc (.cells #[.int .i64 k2, .string n2, .string v2, .slice ab nq cb, .slice kb nl cl] 26) = W at *
          have kA := BA.lt
          have kB := BB.lt
          obtain ⟨⟨a0, a1, a2, a3, a4⟩, -⟩ := BA.five5
          obtain ⟨⟨b0, b1, b2, b3, b4⟩, -⟩ := BB.five5
          refine RC.region_steps (R := RB) 7 [some 38, some 39, some 40, some 41, some 42, some 43, some 44] (fun _ _ => True) (fun a b c h1 h2 => h1.trans (h2.mono h1.size)) (fun w => below_drewN (Below.refl _ w) 1) (fun _ => trivial) (by kernel_rfl) (by kernel_rfl) ?_
          -- 0: Op.fieldAddr 26 (Operand.tmp 2) 4
          apply RC.ls_val (fun _ _ _ _ _ _ => trivial)
          · intro x w' hb hpre K hK
            have z4 := (hb.cell (p := ⟨w.heap.size, 4, none⟩) kA).trans a4
            have t4 := (hb.cell (p := ⟨w.heap.size + 1, 4, none⟩) kB).trans b4
            have zs := hb.size
            clear hpre
            simp only [frL, Act.put, List.setIfInBounds_toArray, List.set_cons_zero, List.set_cons_succ, Nat.zero_add, Nat.reduceAdd] at hK ⊢
            have HK := Lib.hid hK
            clear hK
            refine Held.mk ?_
            go_simp
            exact HK.out _ (Below.refl _ _)
          -- 1: Op.load 24 (Operand.tmp 38)
          apply RC.ls_val (fun _ _ _ _ _ _ => trivial)
          · intro x w' hb hpre K hK
            have z4 := (hb.cell (p := ⟨w.heap.size, 4, none⟩) kA).trans a4
            have t4 := (hb.cell (p := ⟨w.heap.size + 1, 4, none⟩) kB).trans b4
            have zs := hb.size
            simp [preds, Region.binds, RC.phi, RC.MP.val] at hpre
            simp only [frL, Act.put, List.setIfInBounds_toArray, List.set_cons_zero, List.set_cons_succ, Nat.zero_add, Nat.reduceAdd, hpre] at hK ⊢
            have HK := Lib.hid hK
            clear hK
            refine Held.mk ?_
            go_simp
            exact HK.out _ (Below.refl _ _)
          -- 2: Op.call { callee := Callee.value (Operand.func 17), args := #[Operand.tmp 39], a
          refine RC.ls_gen (MPrt h nx xs) ?_ ?_
          · intro x w' hb hj hpre K hK
            have p0 := hpre.1 rfl
            simp [RC.phi, RC.MP.val, MPrt, MPrp] at p0
            clear hpre
            simp only [frL, Act.put, List.setIfInBounds_toArray, List.set_cons_zero, List.set_cons_succ, Nat.zero_add, Nat.reduceAdd, p0] at hK ⊢
            have HK := Lib.hid hK
            clear hK
            refine Held.mk ?_
            go_simp
            with_reducible refine (P1.out _ (hw1.trans (hb.mono hw1.size))).mono ?_
            rintro e w1 ⟨⟨a', c', rfl, T9⟩, hb1⟩
            dsimp only
            exact HK.out _ _ ⟨_, _, rfl, T9⟩ trivial hb1
          -- 3: Op.fieldAddr 26 (Operand.tmp 3) 4
          apply RC.ls_val (fun _ _ _ _ _ _ => trivial)
          · intro x w' hb hpre K hK
            have z4 := (hb.cell (p := ⟨w.heap.size, 4, none⟩) kA).trans a4
            have t4 := (hb.cell (p := ⟨w.heap.size + 1, 4, none⟩) kB).trans b4
            have zs := hb.size
            clear hpre
            simp only [frL, Act.put, List.setIfInBounds_toArray, List.set_cons_zero, List.set_cons_succ, Nat.zero_add, Nat.reduceAdd] at hK ⊢
            have HK := Lib.hid hK
            clear hK
            refine Held.mk ?_
            go_simp
            exact HK.out _ (Below.refl _ _)
          -- 4: Op.load 24 (Operand.tmp 41)
          apply RC.ls_val (fun _ _ _ _ _ _ => trivial)
          · intro x w' hb hpre K hK
            have z4 := (hb.cell (p := ⟨w.heap.size, 4, none⟩) kA).trans a4
            have t4 := (hb.cell (p := ⟨w.heap.size + 1, 4, none⟩) kB).trans b4
            have zs := hb.size
            simp [preds, Region.binds, RC.phi, RC.MP.val] at hpre
            simp only [frL, Act.put, List.setIfInBounds_toArray, List.set_cons_zero, List.set_cons_succ, Nat.zero_add, Nat.reduceAdd, hpre] at hK ⊢
            have HK := Lib.hid hK
            clear hK
            refine Held.mk ?_
            go_simp
            exact HK.out _ (Below.refl _ _)
          -- 5: Op.call { callee := Callee.value (Operand.func 17), args := #[Operand.tmp 42], a
          refine RC.ls_gen (MPrt h ny ys) ?_ ?_
          · intro x w' hb hj hpre K hK
            have p0 := hpre.1 rfl
            simp [RC.phi, RC.MP.val, MPrt, MPrp] at p0
            clear hpre
            simp only [frL, Act.put, List.setIfInBounds_toArray, List.set_cons_zero, List.set_cons_succ, Nat.zero_add, Nat.reduceAdd, p0] at hK ⊢
            have HK := Lib.hid hK
            clear hK
            refine Held.mk ?_
            go_simp
            with_reducible refine (P2.out _ (hw1.trans (hb.mono hw1.size))).mono ?_
            rintro e w1 ⟨⟨a', c', rfl, T9⟩, hb1⟩
            dsimp only
            exact HK.out _ _ ⟨_, _, rfl, T9⟩ trivial hb1
          -- 6: Op.call { callee := Callee.value (Operand.func 16), args := #[Operand.tmp 40, Op
          refine RC.ls_gen (.val (.bool lf)) ?_ ?_
          · intro x w' hb hj hpre K hK
            obtain ⟨r0, s0, q0, T0⟩ : ∃ a c, x 2 = .slice a nx c ∧ TRowT h w' a xs := hpre.1 rfl
            obtain ⟨r1, s1, q1, T1⟩ : ∃ a c, x 5 = .slice a ny c ∧ TRowT h w' a ys := hpre.2.1 rfl
            clear hpre
            simp only [frL, Act.put, List.setIfInBounds_toArray, List.set_cons_zero, List.set_cons_succ, Nat.zero_add, Nat.reduceAdd, q0, q1] at hK ⊢
            have HK := Lib.hid hK
            clear hK
            refine Held.mk ?_
            go_simp
            with_reducible refine (EF.out _ _ _ _ _ T0 T1).mono ?_
            rintro e w1 ⟨rfl, hb1⟩
            dsimp only
            exact HK.out _ _ rfl trivial hb1
          intro x w' hb hp hJ
          simp only [List.cons_append, List.nil_append, RC.phis, RC.MP.val, frL, Act.put, List.setIfInBounds_toArray, List.set_cons_zero, List.set_cons_succ, Nat.zero_add, Nat.reduceAdd] at hp ⊢
          obtain ⟨h0, h1, h2, h3, h4, h5, h6, -⟩ := hp
          simp only [h0, h1, h3, h4]
          clear h0 h1 h3 h4
          have e6 : x 6 = .bool lf := h6
          simp only [e6]
          clear h2 h5 h6 e6
          show wpList Tryd.prog _ _ [_] _ _
          go_wp2_with fail
          go_returns
          exact ⟨rfl, hw1.trans (hb.mono hw1.size)⟩
      · rw [e2] at hR
        replace hR : (n == n2 && (pe && lf)) = RES := hR
        by_cases en : n = n2
        · have g1 : (n.toList == n2.toList) = true := by rw [en]; simp
          have g2 : (n.toList != n2.toList) = false := by rw [en]; simp
          have g3 : (n == n2) = true := by simpa using en
          clear en
          rw [g3, Bool.true_and] at hR
          subst hR
          go_enter Tryd.func8, Tryd.ntmps8
          go_wp2_with fail
          have BA : Blk ((w.alloc (.cells #[.int .i64 k, .string n, .string v, .slice aa np ca, .slice ka nk ck] 26)).alloc (.cells #[.int .i64 k2, .string n2, .string v2, .slice ab nq cb, .slice kb nl cl] 26)) w.heap.size #[.int .i64 k, .string n, .string v, .slice aa np ca, .slice ka nk ck] 26 := (Blk.new _ _ _).alloc _
          have BB : Blk ((w.alloc (.cells #[.int .i64 k, .string n, .string v, .slice aa np ca, .slice ka nk ck] 26)).alloc (.cells #[.int .i64 k2, .string n2, .string v2, .slice ab nq cb, .slice kb nl cl] 26)) (w.heap.size + 1) #[.int .i64 k2, .string n2, .string v2, .slice ab nq cb, .slice kb nl cl] 26 := by
            have := Blk.new (w.alloc (.cells #[.int .i64 k, .string n, .string v, .slice aa np ca, .slice ka nk ck] 26)) #[.int .i64 k2, .string n2, .string v2, .slice ab nq cb, .slice kb nl cl] 26
            simpa using this
          have hw1 : Below w.heap.size w ((w.alloc (.cells #[.int .i64 k, .string n, .string v, .slice aa np ca, .slice ka nk ck] 26)).alloc (.cells #[.int .i64 k2, .string n2, .string v2, .slice ab nq cb, .slice kb nl cl] 26)) := ((Below.refl _ _).alloc (Nat.le_refl _) _).alloc (by simp) _
          generalize (w.alloc (.cells #[.int .i64 k, .string n, .string v, .slice aa np ca, .slice ka nk ck] 26)).alloc (.cells #[.int .i64 k2, .string n2, .string v2, .slice ab nq cb, .slice kb nl cl] 26) = W at *
          have kA := BA.lt
          have kB := BB.lt
          obtain ⟨⟨a0, a1, a2, a3, a4⟩, -⟩ := BA.five5
          obtain ⟨⟨b0, b1, b2, b3, b4⟩, -⟩ := BB.five5
          refine RC.region_steps (R := RB) 15 [some 14, some 15, some 16, some 17, some 18, some 19, some 20, some 21, some 22, some 23, some 24, some 25, some 26, some 27, some 28] (fun _ _ => True) (fun a b c h1 h2 => h1.trans (h2.mono h1.size)) (fun w => below_drewN (Below.refl _ w) 1) (fun _ => trivial) (by kernel_rfl) (by kernel_rfl) ?_
          -- 0: Op.fieldAddr 26 (Operand.tmp 2) 1
          apply RC.ls_val (fun _ _ _ _ _ _ => trivial)
          · intro x w' hb hpre K hK
            have z1 := (hb.cell (p := ⟨w.heap.size, 1, none⟩) kA).trans a1
            have t1 := (hb.cell (p := ⟨w.heap.size + 1, 1, none⟩) kB).trans b1
            have z3 := (hb.cell (p := ⟨w.heap.size, 3, none⟩) kA).trans a3
            have t3 := (hb.cell (p := ⟨w.heap.size + 1, 3, none⟩) kB).trans b3
            have zs := hb.size
            clear hpre
            simp only [frL, Act.put, List.setIfInBounds_toArray, List.set_cons_zero, List.set_cons_succ, Nat.zero_add, Nat.reduceAdd] at hK ⊢
            have HK := Lib.hid hK
            clear hK
            refine Held.mk ?_
            go_simp
            exact HK.out _ (Below.refl _ _)
          -- 1: Op.load 9 (Operand.tmp 14)
          apply RC.ls_val (fun _ _ _ _ _ _ => trivial)
          · intro x w' hb hpre K hK
            have z1 := (hb.cell (p := ⟨w.heap.size, 1, none⟩) kA).trans a1
            have t1 := (hb.cell (p := ⟨w.heap.size + 1, 1, none⟩) kB).trans b1
            have z3 := (hb.cell (p := ⟨w.heap.size, 3, none⟩) kA).trans a3
            have t3 := (hb.cell (p := ⟨w.heap.size + 1, 3, none⟩) kB).trans b3
            have zs := hb.size
            simp [preds, Region.binds, RC.phi, RC.MP.val] at hpre
            simp only [frL, Act.put, List.setIfInBounds_toArray, List.set_cons_zero, List.set_cons_succ, Nat.zero_add, Nat.reduceAdd, hpre] at hK ⊢
            have HK := Lib.hid hK
            clear hK
            refine Held.mk ?_
            go_simp
            exact HK.out _ (Below.refl _ _)
          -- 2: Op.fieldAddr 26 (Operand.tmp 3) 1
          apply RC.ls_val (fun _ _ _ _ _ _ => trivial)
          · intro x w' hb hpre K hK
            have z1 := (hb.cell (p := ⟨w.heap.size, 1, none⟩) kA).trans a1
            have t1 := (hb.cell (p := ⟨w.heap.size + 1, 1, none⟩) kB).trans b1
            have z3 := (hb.cell (p := ⟨w.heap.size, 3, none⟩) kA).trans a3
            have t3 := (hb.cell (p := ⟨w.heap.size + 1, 3, none⟩) kB).trans b3
            have zs := hb.size
            clear hpre
            simp only [frL, Act.put, List.setIfInBounds_toArray, List.set_cons_zero, List.set_cons_succ, Nat.zero_add, Nat.reduceAdd] at hK ⊢
            have HK := Lib.hid hK
            clear hK
            refine Held.mk ?_
            go_simp
            exact HK.out _ (Below.refl _ _)
          -- 3: Op.load 9 (Operand.tmp 16)
          apply RC.ls_val (fun _ _ _ _ _ _ => trivial)
          · intro x w' hb hpre K hK
            have z1 := (hb.cell (p := ⟨w.heap.size, 1, none⟩) kA).trans a1
            have t1 := (hb.cell (p := ⟨w.heap.size + 1, 1, none⟩) kB).trans b1
            have z3 := (hb.cell (p := ⟨w.heap.size, 3, none⟩) kA).trans a3
            have t3 := (hb.cell (p := ⟨w.heap.size + 1, 3, none⟩) kB).trans b3
            have zs := hb.size
            simp [preds, Region.binds, RC.phi, RC.MP.val] at hpre
            simp only [frL, Act.put, List.setIfInBounds_toArray, List.set_cons_zero, List.set_cons_succ, Nat.zero_add, Nat.reduceAdd, hpre] at hK ⊢
            have HK := Lib.hid hK
            clear hK
            refine Held.mk ?_
            go_simp
            exact HK.out _ (Below.refl _ _)
          -- 4: Op.binOp BinOp.neq 9 (Operand.tmp 15) (Operand.tmp 17) 9
          apply RC.ls_val (fun _ _ _ _ _ _ => trivial)
          · intro x w' hb hpre K hK
            have z1 := (hb.cell (p := ⟨w.heap.size, 1, none⟩) kA).trans a1
            have t1 := (hb.cell (p := ⟨w.heap.size + 1, 1, none⟩) kB).trans b1
            have z3 := (hb.cell (p := ⟨w.heap.size, 3, none⟩) kA).trans a3
            have t3 := (hb.cell (p := ⟨w.heap.size + 1, 3, none⟩) kB).trans b3
            have zs := hb.size
            simp [preds, Region.binds, RC.phi, RC.MP.val] at hpre
            simp only [frL, Act.put, List.setIfInBounds_toArray, List.set_cons_zero, List.set_cons_succ, Nat.zero_add, Nat.reduceAdd, hpre] at hK ⊢
            have HK := Lib.hid hK
            clear hK
            refine Held.mk ?_
            go_simp
            exact HK.out _ (Below.refl _ _)
          -- 5: Op.move (Operand.tmp 18)
          apply RC.ls_val (fun _ _ _ _ _ _ => trivial)
          · intro x w' hb hpre K hK
            have z1 := (hb.cell (p := ⟨w.heap.size, 1, none⟩) kA).trans a1
            have t1 := (hb.cell (p := ⟨w.heap.size + 1, 1, none⟩) kB).trans b1
            have z3 := (hb.cell (p := ⟨w.heap.size, 3, none⟩) kA).trans a3
            have t3 := (hb.cell (p := ⟨w.heap.size + 1, 3, none⟩) kB).trans b3
            have zs := hb.size
            simp [preds, Region.binds, RC.phi, RC.MP.val] at hpre
            simp only [frL, Act.put, List.setIfInBounds_toArray, List.set_cons_zero, List.set_cons_succ, Nat.zero_add, Nat.reduceAdd, hpre] at hK ⊢
            have HK := Lib.hid hK
            clear hK
            refine Held.mk ?_
            go_simp
            exact HK.out _ (Below.refl _ _)
          -- 6: Op.fieldAddr 26 (Operand.tmp 2) 3
          apply RC.ls_val (fun _ _ _ _ _ _ => trivial)
          · intro x w' hb hpre K hK
            have z1 := (hb.cell (p := ⟨w.heap.size, 1, none⟩) kA).trans a1
            have t1 := (hb.cell (p := ⟨w.heap.size + 1, 1, none⟩) kB).trans b1
            have z3 := (hb.cell (p := ⟨w.heap.size, 3, none⟩) kA).trans a3
            have t3 := (hb.cell (p := ⟨w.heap.size + 1, 3, none⟩) kB).trans b3
            have zs := hb.size
            simp [preds, Region.binds, RC.phi, RC.MP.val] at hpre
            simp only [frL, Act.put, List.setIfInBounds_toArray, List.set_cons_zero, List.set_cons_succ, Nat.zero_add, Nat.reduceAdd, hpre] at hK ⊢
            have HK := Lib.hid hK
            clear hK
            refine Held.mk ?_
            go_simp
            exact HK.out _ (Below.refl _ _)
          -- 7: Op.load 23 (Operand.tmp 20)
          apply RC.ls_val (fun _ _ _ _ _ _ => trivial)
          · intro x w' hb hpre K hK
            have z1 := (hb.cell (p := ⟨w.heap.size, 1, none⟩) kA).trans a1
            have t1 := (hb.cell (p := ⟨w.heap.size + 1, 1, none⟩) kB).trans b1
            have z3 := (hb.cell (p := ⟨w.heap.size, 3, none⟩) kA).trans a3
            have t3 := (hb.cell (p := ⟨w.heap.size + 1, 3, none⟩) kB).trans b3
            have zs := hb.size
            simp [preds, Region.binds, RC.phi, RC.MP.val] at hpre
            simp only [frL, Act.put, List.setIfInBounds_toArray, List.set_cons_zero, List.set_cons_succ, Nat.zero_add, Nat.reduceAdd, hpre] at hK ⊢
            have HK := Lib.hid hK
            clear hK
            refine Held.mk ?_
            go_simp
            exact HK.out _ (Below.refl _ _)
          -- 8: Op.call { callee := Callee.value (Operand.func 15), args := #[Operand.tmp 21], a
          refine RC.ls_gen (MPrp np sp) ?_ ?_
          · intro x w' hb hj hpre K hK
            have p0 := hpre.1 rfl
            simp [RC.phi, RC.MP.val, MPrt, MPrp] at p0
            have p1 := hpre.2.1 rfl
            simp [RC.phi, RC.MP.val, MPrt, MPrp] at p1
            clear hpre
            simp only [frL, Act.put, List.setIfInBounds_toArray, List.set_cons_zero, List.set_cons_succ, Nat.zero_add, Nat.reduceAdd, p0, p1] at hK ⊢
            have HK := Lib.hid hK
            clear hK
            refine Held.mk ?_
            go_simp
            with_reducible refine (S1.out _ (hw1.trans (hb.mono hw1.size))).mono ?_
            rintro e w1 ⟨⟨a', c', rfl, T9⟩, hb1⟩
            dsimp only
            exact HK.out _ _ ⟨_, _, rfl, T9⟩ trivial hb1
          -- 9: Op.fieldAddr 26 (Operand.tmp 3) 3
          apply RC.ls_val (fun _ _ _ _ _ _ => trivial)
          · intro x w' hb hpre K hK
            have z1 := (hb.cell (p := ⟨w.heap.size, 1, none⟩) kA).trans a1
            have t1 := (hb.cell (p := ⟨w.heap.size + 1, 1, none⟩) kB).trans b1
            have z3 := (hb.cell (p := ⟨w.heap.size, 3, none⟩) kA).trans a3
            have t3 := (hb.cell (p := ⟨w.heap.size + 1, 3, none⟩) kB).trans b3
            have zs := hb.size
            simp [preds, Region.binds, RC.phi, RC.MP.val] at hpre
            simp only [frL, Act.put, List.setIfInBounds_toArray, List.set_cons_zero, List.set_cons_succ, Nat.zero_add, Nat.reduceAdd, hpre] at hK ⊢
            have HK := Lib.hid hK
            clear hK
            refine Held.mk ?_
            go_simp
            exact HK.out _ (Below.refl _ _)
          -- 10: Op.load 23 (Operand.tmp 23)
          apply RC.ls_val (fun _ _ _ _ _ _ => trivial)
          · intro x w' hb hpre K hK
            have z1 := (hb.cell (p := ⟨w.heap.size, 1, none⟩) kA).trans a1
            have t1 := (hb.cell (p := ⟨w.heap.size + 1, 1, none⟩) kB).trans b1
            have z3 := (hb.cell (p := ⟨w.heap.size, 3, none⟩) kA).trans a3
            have t3 := (hb.cell (p := ⟨w.heap.size + 1, 3, none⟩) kB).trans b3
            have zs := hb.size
            simp [preds, Region.binds, RC.phi, RC.MP.val] at hpre
            simp only [frL, Act.put, List.setIfInBounds_toArray, List.set_cons_zero, List.set_cons_succ, Nat.zero_add, Nat.reduceAdd, hpre] at hK ⊢
            have HK := Lib.hid hK
            clear hK
            refine Held.mk ?_
            go_simp
            exact HK.out _ (Below.refl _ _)
          -- 11: Op.call { callee := Callee.value (Operand.func 15), args := #[Operand.tmp 24], a
          refine RC.ls_gen (MPrp nq sq) ?_ ?_
          · intro x w' hb hj hpre K hK
            have p0 := hpre.1 rfl
            simp [RC.phi, RC.MP.val, MPrt, MPrp] at p0
            have p1 := hpre.2.2.1 rfl
            simp [RC.phi, RC.MP.val, MPrt, MPrp] at p1
            clear hpre
            simp only [frL, Act.put, List.setIfInBounds_toArray, List.set_cons_zero, List.set_cons_succ, Nat.zero_add, Nat.reduceAdd, p0, p1] at hK ⊢
            have HK := Lib.hid hK
            clear hK
            refine Held.mk ?_
            go_simp
            with_reducible refine (S2.out _ (hw1.trans (hb.mono hw1.size))).mono ?_
            rintro e w1 ⟨⟨a', c', rfl, T9⟩, hb1⟩
            dsimp only
            exact HK.out _ _ ⟨_, _, rfl, T9⟩ trivial hb1
          -- 12: Op.call { callee := Callee.value (Operand.func 14), args := #[Operand.tmp 22, Op
          refine RC.ls_gen (.val (.bool pe)) ?_ ?_
          · intro x w' hb hj hpre K hK
            obtain ⟨r0, s0, q0, T0⟩ : ∃ a c, x 8 = .slice a np c ∧ PRow All w' a sp := hpre.1 rfl
            obtain ⟨r1, s1, q1, T1⟩ : ∃ a c, x 11 = .slice a nq c ∧ PRow All w' a sq := hpre.2.1 rfl
            have p2 := hpre.2.2.2.1 rfl
            simp [RC.phi, RC.MP.val, MPrt, MPrp] at p2
            clear hpre
            simp only [frL, Act.put, List.setIfInBounds_toArray, List.set_cons_zero, List.set_cons_succ, Nat.zero_add, Nat.reduceAdd, q0, q1, p2] at hK ⊢
            have HK := Lib.hid hK
            clear hK
            refine Held.mk ?_
            go_simp
            with_reducible refine (EQ.out _ _ _ _ _ T0 T1).mono ?_
            rintro e w1 ⟨rfl, ⟨q9, rfl⟩⟩
            dsimp only
            exact HK.out _ _ rfl trivial (below_drewN (Below.refl _ _) q9)
          -- 13: Op.unOp UnOp.not 4 (Operand.tmp 26)
          refine RC.ls_gen (.val (.bool (!pe))) ?_ ?_
          · intro x w' hb hj hpre K hK
            have p0 := hpre.1 rfl
            simp [RC.phi, RC.MP.val, MPrt, MPrp] at p0
            have p1 := hpre.2.1 rfl
            simp [RC.phi, RC.MP.val, MPrt, MPrp] at p1
            clear hpre
            simp only [frL, Act.put, List.setIfInBounds_toArray, List.set_cons_zero, List.set_cons_succ, Nat.zero_add, Nat.reduceAdd, p0, p1] at hK ⊢
            have HK := Lib.hid hK
            clear hK
            refine Held.mk ?_
            go_simp
            skip
            exact HK.out _ _ rfl trivial (Below.refl _ _)
          -- 14: Op.pick (Operand.tmp 19) (Operand.const (Value.bool true)) (Operand.tmp 27)
          refine RC.ls_gen (.val (.bool (!pe))) ?_ ?_
          · intro x w' hb hj hpre K hK
            have p0 := hpre.1 rfl
            simp [RC.phi, RC.MP.val, MPrt, MPrp] at p0
            have p1 := hpre.2.1 rfl
            simp [RC.phi, RC.MP.val, MPrt, MPrp] at p1
            clear hpre
            simp only [frL, Act.put, List.setIfInBounds_toArray, List.set_cons_zero, List.set_cons_succ, Nat.zero_add, Nat.reduceAdd, p0, p1] at hK ⊢
            have HK := Lib.hid hK
            clear hK
            refine Held.mk ?_
            go_simp
            skip
            exact HK.out _ _ rfl trivial (Below.refl _ _)
          intro x w' hb hp hJ
          simp only [List.cons_append, List.nil_append, RC.phis, RC.MP.val, frL, Act.put, List.setIfInBounds_toArray, List.set_cons_zero, List.set_cons_succ, Nat.zero_add, Nat.reduceAdd] at hp ⊢
          obtain ⟨h0, h1, h2, h3, h4, h5, h6, h7, h8, h9, h10, h11, h12, h13, h14, -⟩ := hp
          simp only [h0, h1, h2, h3, h4, h5, h6, h7, h9, h10]
          clear h0 h1 h2 h3 h4 h5 h6 h7 h9 h10
          have e14 : x 14 = .bool (!pe) := h14
          simp only [e14]
          clear h8 h11 h12 h13 h14 e14
          show wpList Tryd.prog _ _ [] _ _
          have hw2 : Below w.heap.size w w' := hw1.trans (hb.mono hw1.size)
          replace a4 := (hb.cell (p := ⟨w.heap.size, 4, none⟩) kA).trans a4
          replace b4 := (hb.cell (p := ⟨w.heap.size + 1, 4, none⟩) kB).trans b4
          have kA2 := Nat.lt_of_lt_of_le kA hb.size
          have kB2 := Nat.lt_of_lt_of_le kB hb.size
          clear kA kB hb hw1 a0 a1 a2 a3 b0 b1 b2 b3 S1 S2 EQ
          have kA := kA2
          have kB := kB2
          have hw1 := hw2
          clear kA2 kB2 hw2
          cases pe
          · go_wp2_with fail
            go_returns
            exact ⟨rfl, hw1⟩
          · go_wp2_with fail
            refine RC.region_steps (R := RB) 7 [some 29, some 30, some 31, some 32, some 33, some 34, some 35] (fun _ _ => True) (fun a b c h1 h2 => h1.trans (h2.mono h1.size)) (fun w => below_drewN (Below.refl _ w) 1) (fun _ => trivial) (by kernel_rfl) (by kernel_rfl) ?_
            -- 0: Op.fieldAddr 26 (Operand.tmp 2) 4
            apply RC.ls_val (fun _ _ _ _ _ _ => trivial)
            · intro x w' hb hpre K hK
              have z4 := (hb.cell (p := ⟨w.heap.size, 4, none⟩) kA).trans a4
              have t4 := (hb.cell (p := ⟨w.heap.size + 1, 4, none⟩) kB).trans b4
              have zs := hb.size
              clear hpre
              simp only [frL, Act.put, List.setIfInBounds_toArray, List.set_cons_zero, List.set_cons_succ, Nat.zero_add, Nat.reduceAdd] at hK ⊢
              have HK := Lib.hid hK
              clear hK
              refine Held.mk ?_
              go_simp
              exact HK.out _ (Below.refl _ _)
            -- 1: Op.load 24 (Operand.tmp 29)
            apply RC.ls_val (fun _ _ _ _ _ _ => trivial)
            · intro x w' hb hpre K hK
              have z4 := (hb.cell (p := ⟨w.heap.size, 4, none⟩) kA).trans a4
              have t4 := (hb.cell (p := ⟨w.heap.size + 1, 4, none⟩) kB).trans b4
              have zs := hb.size
              simp [preds, Region.binds, RC.phi, RC.MP.val] at hpre
              simp only [frL, Act.put, List.setIfInBounds_toArray, List.set_cons_zero, List.set_cons_succ, Nat.zero_add, Nat.reduceAdd, hpre] at hK ⊢
              have HK := Lib.hid hK
              clear hK
              refine Held.mk ?_
              go_simp
              exact HK.out _ (Below.refl _ _)
            -- 2: Op.call { callee := Callee.value (Operand.func 17), args := #[Operand.tmp 30], a
            refine RC.ls_gen (MPrt h nx xs) ?_ ?_
            · intro x w' hb hj hpre K hK
              have p0 := hpre.1 rfl
              simp [RC.phi, RC.MP.val, MPrt, MPrp] at p0
              clear hpre
              simp only [frL, Act.put, List.setIfInBounds_toArray, List.set_cons_zero, List.set_cons_succ, Nat.zero_add, Nat.reduceAdd, p0] at hK ⊢
              have HK := Lib.hid hK
              clear hK
              refine Held.mk ?_
              go_simp
              with_reducible refine (P1.out _ (hw1.trans (hb.mono hw1.size))).mono ?_
              rintro e w1 ⟨⟨a', c', rfl, T9⟩, hb1⟩
              dsimp only
              exact HK.out _ _ ⟨_, _, rfl, T9⟩ trivial hb1
            -- 3: Op.fieldAddr 26 (Operand.tmp 3) 4
            apply RC.ls_val (fun _ _ _ _ _ _ => trivial)
            · intro x w' hb hpre K hK
              have z4 := (hb.cell (p := ⟨w.heap.size, 4, none⟩) kA).trans a4
              have t4 := (hb.cell (p := ⟨w.heap.size + 1, 4, none⟩) kB).trans b4
              have zs := hb.size
              clear hpre
              simp only [frL, Act.put, List.setIfInBounds_toArray, List.set_cons_zero, List.set_cons_succ, Nat.zero_add, Nat.reduceAdd] at hK ⊢
              have HK := Lib.hid hK
              clear hK
              refine Held.mk ?_
              go_simp
              exact HK.out _ (Below.refl _ _)
            -- 4: Op.load 24 (Operand.tmp 32)
            apply RC.ls_val (fun _ _ _ _ _ _ => trivial)
            · intro x w' hb hpre K hK
              have z4 := (hb.cell (p := ⟨w.heap.size, 4, none⟩) kA).trans a4
              have t4 := (hb.cell (p := ⟨w.heap.size + 1, 4, none⟩) kB).trans b4
              have zs := hb.size
              simp [preds, Region.binds, RC.phi, RC.MP.val] at hpre
              simp only [frL, Act.put, List.setIfInBounds_toArray, List.set_cons_zero, List.set_cons_succ, Nat.zero_add, Nat.reduceAdd, hpre] at hK ⊢
              have HK := Lib.hid hK
              clear hK
              refine Held.mk ?_
              go_simp
              exact HK.out _ (Below.refl _ _)
            -- 5: Op.call { callee := Callee.value (Operand.func 17), args := #[Operand.tmp 33], a
            refine RC.ls_gen (MPrt h ny ys) ?_ ?_
            · intro x w' hb hj hpre K hK
              have p0 := hpre.1 rfl
              simp [RC.phi, RC.MP.val, MPrt, MPrp] at p0
              clear hpre
              simp only [frL, Act.put, List.setIfInBounds_toArray, List.set_cons_zero, List.set_cons_succ, Nat.zero_add, Nat.reduceAdd, p0] at hK ⊢
              have HK := Lib.hid hK
              clear hK
              refine Held.mk ?_
              go_simp
              with_reducible refine (P2.out _ (hw1.trans (hb.mono hw1.size))).mono ?_
              rintro e w1 ⟨⟨a', c', rfl, T9⟩, hb1⟩
              dsimp only
              exact HK.out _ _ ⟨_, _, rfl, T9⟩ trivial hb1
            -- 6: Op.call { callee := Callee.value (Operand.func 16), args := #[Operand.tmp 31, Op
            refine RC.ls_gen (.val (.bool lf)) ?_ ?_
            · intro x w' hb hj hpre K hK
              obtain ⟨r0, s0, q0, T0⟩ : ∃ a c, x 2 = .slice a nx c ∧ TRowT h w' a xs := hpre.1 rfl
              obtain ⟨r1, s1, q1, T1⟩ : ∃ a c, x 5 = .slice a ny c ∧ TRowT h w' a ys := hpre.2.1 rfl
              clear hpre
              simp only [frL, Act.put, List.setIfInBounds_toArray, List.set_cons_zero, List.set_cons_succ, Nat.zero_add, Nat.reduceAdd, q0, q1] at hK ⊢
              have HK := Lib.hid hK
              clear hK
              refine Held.mk ?_
              go_simp
              with_reducible refine (EF.out _ _ _ _ _ T0 T1).mono ?_
              rintro e w1 ⟨rfl, hb1⟩
              dsimp only
              exact HK.out _ _ rfl trivial hb1
            intro x w' hb hp hJ
            simp only [List.cons_append, List.nil_append, RC.phis, RC.MP.val, frL, Act.put, List.setIfInBounds_toArray, List.set_cons_zero, List.set_cons_succ, Nat.zero_add, Nat.reduceAdd] at hp ⊢
            obtain ⟨h0, h1, h2, h3, h4, h5, h6, -⟩ := hp
            simp only [h0, h1, h3, h4]
            clear h0 h1 h3 h4
            have e6 : x 6 = .bool lf := h6
            simp only [e6]
            clear h2 h5 h6 e6
            show wpList Tryd.prog _ _ [_] _ _
            go_wp2_with fail
            go_returns
            exact ⟨rfl, hw1.trans (hb.mono hw1.size)⟩
        · obtain ⟨g1, g2⟩ := ne_list en
          have g3 : (n == n2) = false := by simpa using en
          clear en
          rw [g3] at hR
          replace hR : false = RES := hR
          subst hR
          go_enter Tryd.func8, Tryd.ntmps8
          go_wp2_with fail
          have BA : Blk ((w.alloc (.cells #[.int .i64 k, .string n, .string v, .slice aa np ca, .slice ka nk ck] 26)).alloc (.cells #[.int .i64 k2, .string n2, .string v2, .slice ab nq cb, .slice kb nl cl] 26)) w.heap.size #[.int .i64 k, .string n, .string v, .slice aa np ca, .slice ka nk ck] 26 := (Blk.new _ _ _).alloc _
          have BB : Blk ((w.alloc (.cells #[.int .i64 k, .string n, .string v, .slice aa np ca, .slice ka nk ck] 26)).alloc (.cells #[.int .i64 k2, .string n2, .string v2, .slice ab nq cb, .slice kb nl cl] 26)) (w.heap.size + 1) #[.int .i64 k2, .string n2, .string v2, .slice ab nq cb, .slice kb nl cl] 26 := by
            have := Blk.new (w.alloc (.cells #[.int .i64 k, .string n, .string v, .slice aa np ca, .slice ka nk ck] 26)) #[.int .i64 k2, .string n2, .string v2, .slice ab nq cb, .slice kb nl cl] 26
            simpa using this
          have hw1 : Below w.heap.size w ((w.alloc (.cells #[.int .i64 k, .string n, .string v, .slice aa np ca, .slice ka nk ck] 26)).alloc (.cells #[.int .i64 k2, .string n2, .string v2, .slice ab nq cb, .slice kb nl cl] 26)) := ((Below.refl _ _).alloc (Nat.le_refl _) _).alloc (by simp) _
          generalize (w.alloc (.cells #[.int .i64 k, .string n, .string v, .slice aa np ca, .slice ka nk ck] 26)).alloc (.cells #[.int .i64 k2, .string n2, .string v2, .slice ab nq cb, .slice kb nl cl] 26) = W at *
          have kA := BA.lt
          have kB := BB.lt
          obtain ⟨⟨a0, a1, a2, a3, a4⟩, -⟩ := BA.five5
          obtain ⟨⟨b0, b1, b2, b3, b4⟩, -⟩ := BB.five5
          refine RC.region_steps (R := RB) 15 [some 14, some 15, some 16, some 17, some 18, some 19, some 20, some 21, some 22, some 23, some 24, some 25, some 26, some 27, some 28] (fun _ _ => True) (fun a b c h1 h2 => h1.trans (h2.mono h1.size)) (fun w => below_drewN (Below.refl _ w) 1) (fun _ => trivial) (by kernel_rfl) (by kernel_rfl) ?_
          -- 0: Op.fieldAddr 26 (Operand.tmp 2) 1
          apply RC.ls_val (fun _ _ _ _ _ _ => trivial)
          · intro x w' hb hpre K hK
            have z1 := (hb.cell (p := ⟨w.heap.size, 1, none⟩) kA).trans a1
            have t1 := (hb.cell (p := ⟨w.heap.size + 1, 1, none⟩) kB).trans b1
            have z3 := (hb.cell (p := ⟨w.heap.size, 3, none⟩) kA).trans a3
            have t3 := (hb.cell (p := ⟨w.heap.size + 1, 3, none⟩) kB).trans b3
            have zs := hb.size
            clear hpre
            simp only [frL, Act.put, List.setIfInBounds_toArray, List.set_cons_zero, List.set_cons_succ, Nat.zero_add, Nat.reduceAdd] at hK ⊢
            have HK := Lib.hid hK
            clear hK
            refine Held.mk ?_
            go_simp
            exact HK.out _ (Below.refl _ _)
          -- 1: Op.load 9 (Operand.tmp 14)
          apply RC.ls_val (fun _ _ _ _ _ _ => trivial)
          · intro x w' hb hpre K hK
            have z1 := (hb.cell (p := ⟨w.heap.size, 1, none⟩) kA).trans a1
            have t1 := (hb.cell (p := ⟨w.heap.size + 1, 1, none⟩) kB).trans b1
            have z3 := (hb.cell (p := ⟨w.heap.size, 3, none⟩) kA).trans a3
            have t3 := (hb.cell (p := ⟨w.heap.size + 1, 3, none⟩) kB).trans b3
            have zs := hb.size
            simp [preds, Region.binds, RC.phi, RC.MP.val] at hpre
            simp only [frL, Act.put, List.setIfInBounds_toArray, List.set_cons_zero, List.set_cons_succ, Nat.zero_add, Nat.reduceAdd, hpre] at hK ⊢
            have HK := Lib.hid hK
            clear hK
            refine Held.mk ?_
            go_simp
            exact HK.out _ (Below.refl _ _)
          -- 2: Op.fieldAddr 26 (Operand.tmp 3) 1
          apply RC.ls_val (fun _ _ _ _ _ _ => trivial)
          · intro x w' hb hpre K hK
            have z1 := (hb.cell (p := ⟨w.heap.size, 1, none⟩) kA).trans a1
            have t1 := (hb.cell (p := ⟨w.heap.size + 1, 1, none⟩) kB).trans b1
            have z3 := (hb.cell (p := ⟨w.heap.size, 3, none⟩) kA).trans a3
            have t3 := (hb.cell (p := ⟨w.heap.size + 1, 3, none⟩) kB).trans b3
            have zs := hb.size
            clear hpre
            simp only [frL, Act.put, List.setIfInBounds_toArray, List.set_cons_zero, List.set_cons_succ, Nat.zero_add, Nat.reduceAdd] at hK ⊢
            have HK := Lib.hid hK
            clear hK
            refine Held.mk ?_
            go_simp
            exact HK.out _ (Below.refl _ _)
          -- 3: Op.load 9 (Operand.tmp 16)
          apply RC.ls_val (fun _ _ _ _ _ _ => trivial)
          · intro x w' hb hpre K hK
            have z1 := (hb.cell (p := ⟨w.heap.size, 1, none⟩) kA).trans a1
            have t1 := (hb.cell (p := ⟨w.heap.size + 1, 1, none⟩) kB).trans b1
            have z3 := (hb.cell (p := ⟨w.heap.size, 3, none⟩) kA).trans a3
            have t3 := (hb.cell (p := ⟨w.heap.size + 1, 3, none⟩) kB).trans b3
            have zs := hb.size
            simp [preds, Region.binds, RC.phi, RC.MP.val] at hpre
            simp only [frL, Act.put, List.setIfInBounds_toArray, List.set_cons_zero, List.set_cons_succ, Nat.zero_add, Nat.reduceAdd, hpre] at hK ⊢
            have HK := Lib.hid hK
            clear hK
            refine Held.mk ?_
            go_simp
            exact HK.out _ (Below.refl _ _)
          -- 4: Op.binOp BinOp.neq 9 (Operand.tmp 15) (Operand.tmp 17) 9
          apply RC.ls_val (fun _ _ _ _ _ _ => trivial)
          · intro x w' hb hpre K hK
            have z1 := (hb.cell (p := ⟨w.heap.size, 1, none⟩) kA).trans a1
            have t1 := (hb.cell (p := ⟨w.heap.size + 1, 1, none⟩) kB).trans b1
            have z3 := (hb.cell (p := ⟨w.heap.size, 3, none⟩) kA).trans a3
            have t3 := (hb.cell (p := ⟨w.heap.size + 1, 3, none⟩) kB).trans b3
            have zs := hb.size
            simp [preds, Region.binds, RC.phi, RC.MP.val] at hpre
            simp only [frL, Act.put, List.setIfInBounds_toArray, List.set_cons_zero, List.set_cons_succ, Nat.zero_add, Nat.reduceAdd, hpre] at hK ⊢
            have HK := Lib.hid hK
            clear hK
            refine Held.mk ?_
            go_simp
            exact HK.out _ (Below.refl _ _)
          -- 5: Op.move (Operand.tmp 18)
          apply RC.ls_val (fun _ _ _ _ _ _ => trivial)
          · intro x w' hb hpre K hK
            have z1 := (hb.cell (p := ⟨w.heap.size, 1, none⟩) kA).trans a1
            have t1 := (hb.cell (p := ⟨w.heap.size + 1, 1, none⟩) kB).trans b1
            have z3 := (hb.cell (p := ⟨w.heap.size, 3, none⟩) kA).trans a3
            have t3 := (hb.cell (p := ⟨w.heap.size + 1, 3, none⟩) kB).trans b3
            have zs := hb.size
            simp [preds, Region.binds, RC.phi, RC.MP.val] at hpre
            simp only [frL, Act.put, List.setIfInBounds_toArray, List.set_cons_zero, List.set_cons_succ, Nat.zero_add, Nat.reduceAdd, hpre] at hK ⊢
            have HK := Lib.hid hK
            clear hK
            refine Held.mk ?_
            go_simp
            exact HK.out _ (Below.refl _ _)
          -- 6: Op.fieldAddr 26 (Operand.tmp 2) 3
          apply RC.ls_val (fun _ _ _ _ _ _ => trivial)
          · intro x w' hb hpre K hK
            have z1 := (hb.cell (p := ⟨w.heap.size, 1, none⟩) kA).trans a1
            have t1 := (hb.cell (p := ⟨w.heap.size + 1, 1, none⟩) kB).trans b1
            have z3 := (hb.cell (p := ⟨w.heap.size, 3, none⟩) kA).trans a3
            have t3 := (hb.cell (p := ⟨w.heap.size + 1, 3, none⟩) kB).trans b3
            have zs := hb.size
            simp [preds, Region.binds, RC.phi, RC.MP.val] at hpre
            simp only [frL, Act.put, List.setIfInBounds_toArray, List.set_cons_zero, List.set_cons_succ, Nat.zero_add, Nat.reduceAdd, hpre] at hK ⊢
            have HK := Lib.hid hK
            clear hK
            refine Held.mk ?_
            go_simp
            exact HK.out _ (Below.refl _ _)
          -- 7: Op.load 23 (Operand.tmp 20)
          apply RC.ls_val (fun _ _ _ _ _ _ => trivial)
          · intro x w' hb hpre K hK
            have z1 := (hb.cell (p := ⟨w.heap.size, 1, none⟩) kA).trans a1
            have t1 := (hb.cell (p := ⟨w.heap.size + 1, 1, none⟩) kB).trans b1
            have z3 := (hb.cell (p := ⟨w.heap.size, 3, none⟩) kA).trans a3
            have t3 := (hb.cell (p := ⟨w.heap.size + 1, 3, none⟩) kB).trans b3
            have zs := hb.size
            simp [preds, Region.binds, RC.phi, RC.MP.val] at hpre
            simp only [frL, Act.put, List.setIfInBounds_toArray, List.set_cons_zero, List.set_cons_succ, Nat.zero_add, Nat.reduceAdd, hpre] at hK ⊢
            have HK := Lib.hid hK
            clear hK
            refine Held.mk ?_
            go_simp
            exact HK.out _ (Below.refl _ _)
          -- 8: Op.call { callee := Callee.value (Operand.func 15), args := #[Operand.tmp 21], a
          apply RC.ls_val (fun _ _ _ _ _ _ => trivial)
          · intro x w' hb hpre K hK
            have z1 := (hb.cell (p := ⟨w.heap.size, 1, none⟩) kA).trans a1
            have t1 := (hb.cell (p := ⟨w.heap.size + 1, 1, none⟩) kB).trans b1
            have z3 := (hb.cell (p := ⟨w.heap.size, 3, none⟩) kA).trans a3
            have t3 := (hb.cell (p := ⟨w.heap.size + 1, 3, none⟩) kB).trans b3
            have zs := hb.size
            simp [preds, Region.binds, RC.phi, RC.MP.val] at hpre
            simp only [frL, Act.put, List.setIfInBounds_toArray, List.set_cons_zero, List.set_cons_succ, Nat.zero_add, Nat.reduceAdd, hpre] at hK ⊢
            have HK := Lib.hid hK
            clear hK
            refine Held.mk ?_
            go_simp
            exact HK.out _ (Below.refl _ _)
          -- 9: Op.fieldAddr 26 (Operand.tmp 3) 3
          apply RC.ls_val (fun _ _ _ _ _ _ => trivial)
          · intro x w' hb hpre K hK
            have z1 := (hb.cell (p := ⟨w.heap.size, 1, none⟩) kA).trans a1
            have t1 := (hb.cell (p := ⟨w.heap.size + 1, 1, none⟩) kB).trans b1
            have z3 := (hb.cell (p := ⟨w.heap.size, 3, none⟩) kA).trans a3
            have t3 := (hb.cell (p := ⟨w.heap.size + 1, 3, none⟩) kB).trans b3
            have zs := hb.size
            simp [preds, Region.binds, RC.phi, RC.MP.val] at hpre
            simp only [frL, Act.put, List.setIfInBounds_toArray, List.set_cons_zero, List.set_cons_succ, Nat.zero_add, Nat.reduceAdd, hpre] at hK ⊢
            have HK := Lib.hid hK
            clear hK
            refine Held.mk ?_
            go_simp
            exact HK.out _ (Below.refl _ _)
          -- 10: Op.load 23 (Operand.tmp 23)
          apply RC.ls_val (fun _ _ _ _ _ _ => trivial)
          · intro x w' hb hpre K hK
            have z1 := (hb.cell (p := ⟨w.heap.size, 1, none⟩) kA).trans a1
            have t1 := (hb.cell (p := ⟨w.heap.size + 1, 1, none⟩) kB).trans b1
            have z3 := (hb.cell (p := ⟨w.heap.size, 3, none⟩) kA).trans a3
            have t3 := (hb.cell (p := ⟨w.heap.size + 1, 3, none⟩) kB).trans b3
            have zs := hb.size
            simp [preds, Region.binds, RC.phi, RC.MP.val] at hpre
            simp only [frL, Act.put, List.setIfInBounds_toArray, List.set_cons_zero, List.set_cons_succ, Nat.zero_add, Nat.reduceAdd, hpre] at hK ⊢
            have HK := Lib.hid hK
            clear hK
            refine Held.mk ?_
            go_simp
            exact HK.out _ (Below.refl _ _)
          -- 11: Op.call { callee := Callee.value (Operand.func 15), args := #[Operand.tmp 24], a
          apply RC.ls_val (fun _ _ _ _ _ _ => trivial)
          · intro x w' hb hpre K hK
            have z1 := (hb.cell (p := ⟨w.heap.size, 1, none⟩) kA).trans a1
            have t1 := (hb.cell (p := ⟨w.heap.size + 1, 1, none⟩) kB).trans b1
            have z3 := (hb.cell (p := ⟨w.heap.size, 3, none⟩) kA).trans a3
            have t3 := (hb.cell (p := ⟨w.heap.size + 1, 3, none⟩) kB).trans b3
            have zs := hb.size
            simp [preds, Region.binds, RC.phi, RC.MP.val] at hpre
            simp only [frL, Act.put, List.setIfInBounds_toArray, List.set_cons_zero, List.set_cons_succ, Nat.zero_add, Nat.reduceAdd, hpre] at hK ⊢
            have HK := Lib.hid hK
            clear hK
            refine Held.mk ?_
            go_simp
            exact HK.out _ (Below.refl _ _)
          -- 12: Op.call { callee := Callee.value (Operand.func 14), args := #[Operand.tmp 22, Op
          apply RC.ls_val (fun _ _ _ _ _ _ => trivial)
          · intro x w' hb hpre K hK
            have z1 := (hb.cell (p := ⟨w.heap.size, 1, none⟩) kA).trans a1
            have t1 := (hb.cell (p := ⟨w.heap.size + 1, 1, none⟩) kB).trans b1
            have z3 := (hb.cell (p := ⟨w.heap.size, 3, none⟩) kA).trans a3
            have t3 := (hb.cell (p := ⟨w.heap.size + 1, 3, none⟩) kB).trans b3
            have zs := hb.size
            simp [preds, Region.binds, RC.phi, RC.MP.val] at hpre
            simp only [frL, Act.put, List.setIfInBounds_toArray, List.set_cons_zero, List.set_cons_succ, Nat.zero_add, Nat.reduceAdd, hpre] at hK ⊢
            have HK := Lib.hid hK
            clear hK
            refine Held.mk ?_
            go_simp
            exact HK.out _ (Below.refl _ _)
          -- 13: Op.unOp UnOp.not 4 (Operand.tmp 26)
          apply RC.ls_val (fun _ _ _ _ _ _ => trivial)
          · intro x w' hb hpre K hK
            have z1 := (hb.cell (p := ⟨w.heap.size, 1, none⟩) kA).trans a1
            have t1 := (hb.cell (p := ⟨w.heap.size + 1, 1, none⟩) kB).trans b1
            have z3 := (hb.cell (p := ⟨w.heap.size, 3, none⟩) kA).trans a3
            have t3 := (hb.cell (p := ⟨w.heap.size + 1, 3, none⟩) kB).trans b3
            have zs := hb.size
            simp [preds, Region.binds, RC.phi, RC.MP.val] at hpre
            simp only [frL, Act.put, List.setIfInBounds_toArray, List.set_cons_zero, List.set_cons_succ, Nat.zero_add, Nat.reduceAdd, hpre] at hK ⊢
            have HK := Lib.hid hK
            clear hK
            refine Held.mk ?_
            go_simp
            exact HK.out _ (Below.refl _ _)
          -- 14: Op.pick (Operand.tmp 19) (Operand.const (Value.bool true)) (Operand.tmp 27)
          apply RC.ls_val (fun _ _ _ _ _ _ => trivial)
          · intro x w' hb hpre K hK
            have z1 := (hb.cell (p := ⟨w.heap.size, 1, none⟩) kA).trans a1
            have t1 := (hb.cell (p := ⟨w.heap.size + 1, 1, none⟩) kB).trans b1
            have z3 := (hb.cell (p := ⟨w.heap.size, 3, none⟩) kA).trans a3
            have t3 := (hb.cell (p := ⟨w.heap.size + 1, 3, none⟩) kB).trans b3
            have zs := hb.size
            simp [preds, Region.binds, RC.phi, RC.MP.val] at hpre
            simp only [frL, Act.put, List.setIfInBounds_toArray, List.set_cons_zero, List.set_cons_succ, Nat.zero_add, Nat.reduceAdd, hpre] at hK ⊢
            have HK := Lib.hid hK
            clear hK
            refine Held.mk ?_
            go_simp
            exact HK.out _ (Below.refl _ _)
          intro x w' hb hp hJ
          simp only [List.cons_append, List.nil_append, RC.phis, RC.MP.val, frL, Act.put, List.setIfInBounds_toArray, List.set_cons_zero, List.set_cons_succ, Nat.zero_add, Nat.reduceAdd] at hp ⊢
          obtain ⟨h0, h1, h2, h3, h4, h5, h6, h7, h8, h9, h10, h11, h12, h13, h14, -⟩ := hp
          simp only [h0, h1, h2, h3, h4, h5, h6, h7, h8, h9, h10, h11, h12, h13, h14]
          clear h0 h1 h2 h3 h4 h5 h6 h7 h8 h9 h10 h11 h12 h13 h14
          show wpList Tryd.prog _ _ [] _ _
          go_wp2_with fail
          go_returns
          exact ⟨rfl, hw1.trans (hb.mono hw1.size)⟩
    · have ne : (k != k2) = true := by simpa using ek
      clear ek P1 P2 S1 S2 EF EQ
      rw [ne] at hR
      simp only [if_true] at hR
      subst hR
      go_enter Tryd.func8, Tryd.ntmps8
      go_wp2_with fail
      go_returns
      exact ⟨rfl, by go_grown⟩
end Go.Proofs.YtgdbbocfiejlfaaDoor

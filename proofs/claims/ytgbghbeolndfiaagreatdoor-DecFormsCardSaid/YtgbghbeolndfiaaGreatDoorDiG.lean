/- The document's numbers: times ten to a power. -/
import Derived.Test.YtgbghbeolndfiaaGreatDoorDiF
import Derived.Test.YtgbghbeolndfiaaGreatDoorLoJ
set_option linter.unusedSimpArgs false
set_option linter.unusedVariables false
set_option linter.constructorNameAsVariable false
namespace Go.Proofs.YtgbghbeolndfiaaGreatDoor
open Go.RowKit

/-- 'append(own, row...)', as one operation. -/
theorem wp_app {o : Oper} {act : Act} {K : Act → World → Prop} {Q : Exit → Act → World → Prop} {w : World} (s x : Operand)
    (ho : o.op = .call { callee := .builtin .append, args := #[s, x], argTypes := #[35, 35] }) (base : Nat) (v : Value) (xs ys : List Int) (hs : act.eval s = v) (hown : ORow w base v xs)
    (ax : Option Addr) (m c : Nat) (hx : act.eval x = .slice ax m c) (hI : IRow w ax m ys) (h0 : ax = none → c = 0) (hl : xs.length + m ≤ 10000000) (hb : base ≤ w.heap.size)
    (h : ∀ v' w', ORow w' base v' (xs ++ ys) → Below base w w' → K (act.put o.dst v') w') : o.wp Tryz.prog act w K Q := by
  obtain ⟨i0, hi, hz0, hz1, hz2⟩ := info_parts infoI3
  obtain ⟨rfl, -, hc⟩ := hI
  cases ax with
  | none =>
    have hy : ys = [] := by
      rcases Nat.eq_zero_or_pos ys.length with h | h
      · exact List.length_eq_zero_iff.1 h
      · obtain ⟨b, o, hh, -⟩ := hc h
        cases hh
    subst hy
    obtain rfl := h0 rfl
    have hrun := run_append_owned_none (P := Tryz.prog) (w := w) base 35 o.type 3 i0 1 Tryz.underlying35 hi v xs.length (xs.map (Value.int .i64)) hown
    have hx' : act.eval x = .slice none 0 0 := hx
    unfold Oper.wp
    simp [execOp, ho, resolve, invoke, builtin, hs, hx', hrun, Result.andThen]
    exact h v w (by rw [List.append_nil]; exact hown) (Below.refl _ _)
  | some ad =>
    refine wp_append_own w s x 35 ho base 3 i0 (.int .i64 0) 1 8 Tryz.underlying35 hi hz0 hz1 hz2 rfl (by decide) v xs.length (xs.map (Value.int .i64)) hs hown ad ys.length c (ys.map (Value.int .i64)) hx (by simp) (fun j u hj => ?_) (one_ints ys) (by unfold maxLen; omega) (by omega) hb (fun v' w' h1 h2 _ => h v' w' ?_ (grown_below hown h2 hb))
    · have hj' : j < ys.length := by
        rcases Nat.lt_or_ge j ys.length with h | h
        · exact h
        · rw [List.getElem?_eq_none (by simp; omega)] at hj; cases hj
      obtain ⟨b, q, he, hl, hcell⟩ := hc (by omega)
      cases he
      simp only [List.getElem?_map] at hj
      obtain ⟨y, hy, rfl⟩ := Option.map_eq_some_iff.1 hj
      have := hcell j y hy
      by_cases h0 : j = 0 <;> simp_all [Addr.add]
    · unfold ORow
      simpa using h1
/-- What stays below a mark. -/
def BR (B : Nat) (w w' : World) : Prop := Below B w w'
theorem BR.trans {B : Nat} : ∀ a b c, BR B a b → BR B b c → BR B a c := fun _ _ _ h1 h2 => Below.trans h1 h2
theorem BR.drew {B : Nat} (w : World) : BR B w { w with drawn := w.drawn + 1 } := (Below.refl _ _).drew
/-- The row before the append and behind it, and what is built of it. -/
def JU (B : Nat) (d : Value) (Z L : List Int) (neg : Bool) (x : Nat → Value) (w : World) : Prop :=
  (x 5 = undef ∧ x 6 = undef ∧ ORow w B d Z) ∨ (ORow w B (x 5) L ∧ (x 6 = undef ∨ x 6 = .agg #[.bool neg, x 5]))
theorem orow_val {B : Nat} {v : Value} {xs : List Int} {w : World} (h : ORow w B v xs) : v ≠ undef := by
  rcases h.cases with ⟨rfl, _⟩ | ⟨g, cap, cur, rfl, _⟩ <;> simp [undef]
theorem JU.same {B : Nat} {d : Value} {Z L : List Int} {neg : Bool} {x : Nat → Value} {w : World} (h : JU B d Z L neg x w) {i : Nat} (hi : (i != 5 && i != 6) = true) (v : Value) : JU B d Z L neg (upd x i v) w := by
  simp only [Bool.and_eq_true, bne_iff_ne] at hi
  have h5 : upd x i v 5 = x 5 := by simp [upd]; omega
  have h6 : upd x i v 6 = x 6 := by simp [upd]; omega
  unfold JU
  rw [h5, h6]
  exact h
set_option maxRecDepth 100000 in
set_option maxHeartbeats 8000000 in
theorem up_any (neg : Bool) (a : Option Addr) (c : Nat) (xs : List Int) (k : Nat) (w : World) (hI : IRow w a xs.length xs) (hck : xs.length ≤ c) (h0 : a = none → c = 0) (hl : xs.length ≤ 1000000) (hk : k ≤ 1000000) : Calls Tryz.prog 50 #[.agg #[.bool neg, .slice a xs.length c], .int .i64 (k : Int)] w fun e w' =>
    ∃ v, e = .returned (.agg #[.bool neg, v]) ∧ DRow w' w.heap.size v (upL xs k) ∧ Below w.heap.size w w' := by
  have HI := Lib.hid hI
  clear hI
  cases e0 : ((xs.length : Int) == 0)
  · have hu : upL xs k = List.replicate k 0 ++ xs := by
      have h : (xs.length == 0) = false := by simp at e0 ⊢; exact e0
      unfold upL; rw [h]; rfl
    rw [hu]
    have hul : (List.replicate k (0 : Int) ++ xs).length ≤ 10000000 := by simp; omega
    obtain ⟨L, hL⟩ : ∃ L, L = List.replicate k (0 : Int) ++ xs := ⟨_, rfl⟩
    rw [← hL] at hul ⊢
    have HLL := Lib.hid hL
    clear hu hL
    go_enter Tryz.func50, Tryz.ntmps50
    go_wp2_with fail
    go_loopg [5, 6] k (fun m ov iv wr => ∃ (i : Nat), m + i = k ∧ iv = .int .i64 (i : Int) ∧ ORow wr (w.heap.size + 2) ov (List.replicate i 0) ∧ Blk wr w.heap.size #[.bool neg, .slice a xs.length c] 37 ∧ Blk wr (w.heap.size + 1) #[.bool false, .slice none 0 0] 37 ∧ Below w.heap.size w wr)
    case atStart => exact ⟨0, by omega, rfl, ORow.nil _ _, Blk.alloc (Blk.here rfl rfl) _, Blk.here rfl (by simp), by go_grown⟩
    case round =>
      obtain ⟨i, hmi, rfl, hO, E0, E1, hw⟩ := hrel
      have H := Lib.hid hO
      have k0 : w.heap.size < wr.heap.size := E0.lt
      have k1 : w.heap.size + 1 < wr.heap.size := E1.lt
      obtain ⟨c00, c01, f00, f01⟩ := E0.two
      obtain ⟨c10, c11, f10, f11⟩ := E1.two
      clear hO
      by_cases hi : i < k
      · have i1 : decide ((i : Int) < (k : Int)) = true := by simp; omega
        have j3 : IntKind.i64.wrap ((i : Int) + 1) = (i : Int) + 1 := IntWalk.i64_in _ (by omega)
        go_wp2_with (at_builtin; refine wpList_app rfl _ _ rfl (w.heap.size + 2) _ _ [0] rfl (H.out.below ((Below.refl _ _).alloc (Nat.le_refl _) (.cells #[.int .i64 0] 3)) (Nat.le_refl _)) (some ⟨wr.heap.size, 0, none⟩) 1 1 rfl (irow1 _ _ _) (fun h => by cases h) ?c1 ?c2 ?_)
        case c1 => simp; omega
        case c2 => have := hw.size; simp; omega
        intro v' w1 hO1 hb1
        have H1 := Lib.hid hO1
        have F0 := (E0.alloc (.cells #[.int .i64 0] 3)).below hb1 (by omega)
        have F1 := (E1.alloc (.cells #[.int .i64 0] 3)).below hb1 (by omega)
        clear hO1
        go_wp2_with fail
        go_roundg (gk - 1)
        case measure => omega
        case rel => exact ⟨i + 1, by omega, by go_num, by rw [List.replicate_succ']; exact H1.out, F0, F1, (hw.alloc hw.size _).trans (hb1.mono (by omega))⟩
      · have i1 : decide ((i : Int) < (k : Int)) = false := by simp; omega
        have hik : i = k := by omega
        subst hik
        go_wp2_with fail
        refine RJ.region_steps (R := (BR (w.heap.size + 2))) 7 [some 20, some 21, some 22, some 23, some 24, some 25, some 26] (JU (w.heap.size + 2) u5 (List.replicate i 0) L neg) BR.trans BR.drew (.inl ⟨rfl, rfl, H.out⟩) (by kernel_rfl) (by kernel_rfl) ?_
        -- 0: Op.fieldAddr 37 (Operand.tmp 2) 0
        refine RJ.ls_gen (RJ.MP.val (.pointer (some ⟨w.heap.size, 0, none⟩))) ?_ ?_
        · intro x w' hb hj hpre K hK
          have z00 := (Below.cell (p := ⟨w.heap.size, 0, none⟩) hb (by simp)).trans c00
          have z01 := (Below.cell (p := ⟨w.heap.size, 1, none⟩) hb (by simp)).trans c01
          clear hpre
          simp only [frL, Act.put, List.setIfInBounds_toArray, List.set_cons_zero, List.set_cons_succ, Nat.zero_add, Nat.reduceAdd] at hK ⊢
          have HK := Lib.hid hK
          clear hK
          refine Held.mk ?_
          go_simp
          exact HK.out _ _ rfl (hj.same (by decide) _) (Below.refl _ _)
        -- 1: Op.load 4 (Operand.tmp 20)
        refine RJ.ls_gen (RJ.MP.val (.bool neg)) ?_ ?_
        · intro x w' hb hj hpre K hK
          have z00 := (Below.cell (p := ⟨w.heap.size, 0, none⟩) hb (by simp)).trans c00
          have z01 := (Below.cell (p := ⟨w.heap.size, 1, none⟩) hb (by simp)).trans c01
          simp [preds, Region.binds, RJ.phi, RJ.MP.val] at hpre
          simp only [frL, Act.put, List.setIfInBounds_toArray, List.set_cons_zero, List.set_cons_succ, Nat.zero_add, Nat.reduceAdd, hpre] at hK ⊢
          have HK := Lib.hid hK
          clear hK
          refine Held.mk ?_
          go_simp
          exact HK.out _ _ rfl (hj.same (by decide) _) (Below.refl _ _)
        -- 2: Op.move (Operand.tmp 5)
        refine RJ.ls_gen (RJ.MP.val (u5)) ?_ ?_
        · intro x w' hb hj hpre K hK
          have z00 := (Below.cell (p := ⟨w.heap.size, 0, none⟩) hb (by simp)).trans c00
          have z01 := (Below.cell (p := ⟨w.heap.size, 1, none⟩) hb (by simp)).trans c01
          clear hpre
          simp only [frL, Act.put, List.setIfInBounds_toArray, List.set_cons_zero, List.set_cons_succ, Nat.zero_add, Nat.reduceAdd] at hK ⊢
          have HK := Lib.hid hK
          clear hK
          refine Held.mk ?_
          go_simp
          exact HK.out _ _ rfl (hj.same (by decide) _) (Below.refl _ _)
        -- 3: Op.fieldAddr 37 (Operand.tmp 2) 1
        refine RJ.ls_gen (RJ.MP.val (.pointer (some ⟨w.heap.size, 1, none⟩))) ?_ ?_
        · intro x w' hb hj hpre K hK
          have z00 := (Below.cell (p := ⟨w.heap.size, 0, none⟩) hb (by simp)).trans c00
          have z01 := (Below.cell (p := ⟨w.heap.size, 1, none⟩) hb (by simp)).trans c01
          clear hpre
          simp only [frL, Act.put, List.setIfInBounds_toArray, List.set_cons_zero, List.set_cons_succ, Nat.zero_add, Nat.reduceAdd] at hK ⊢
          have HK := Lib.hid hK
          clear hK
          refine Held.mk ?_
          go_simp
          exact HK.out _ _ rfl (hj.same (by decide) _) (Below.refl _ _)
        -- 4: Op.load 35 (Operand.tmp 23)
        refine RJ.ls_gen (RJ.MP.val (.slice a xs.length c)) ?_ ?_
        · intro x w' hb hj hpre K hK
          have z00 := (Below.cell (p := ⟨w.heap.size, 0, none⟩) hb (by simp)).trans c00
          have z01 := (Below.cell (p := ⟨w.heap.size, 1, none⟩) hb (by simp)).trans c01
          simp [preds, Region.binds, RJ.phi, RJ.MP.val] at hpre
          simp only [frL, Act.put, List.setIfInBounds_toArray, List.set_cons_zero, List.set_cons_succ, Nat.zero_add, Nat.reduceAdd, hpre] at hK ⊢
          have HK := Lib.hid hK
          clear hK
          refine Held.mk ?_
          go_simp
          exact HK.out _ _ rfl (hj.same (by decide) _) (Below.refl _ _)
        -- 5: Op.call { callee := Callee.builtin Builtin.append, args := #[Operand.tmp 22, Ope
        refine RJ.ls_genO ⟨fun v _ => v ≠ undef, fun _ _ _ h _ => h⟩ ?_ ?_
        · intro x w' hb hj hpre ho K hK
          have h5 := ho 5 (by omega) (.inl rfl)
          have h6 := ho 6 (by omega) (.inr (by kernel_rfl))
          simp [orig] at h5 h6
          have hO' : ORow w' (w.heap.size + 2) u5 (List.replicate i 0) := by
            rcases hj with ⟨-, -, h⟩ | ⟨h, -⟩
            · exact h
            · rw [h5] at h
              exact absurd rfl (orow_val h)
          simp [preds, Region.binds, RJ.phi, RJ.MP.val, RJ.MP.any] at hpre
          simp only [frL, Act.put, List.setIfInBounds_toArray, List.set_cons_zero, List.set_cons_succ, Nat.zero_add, Nat.reduceAdd, hpre] at hK ⊢
          have HK := Lib.hid hK
          clear hK
          refine Held.mk ?_
          rw [if_pos (by rfl)]
          refine wp_app _ _ rfl (w.heap.size + 2) _ _ xs rfl hO' a xs.length c rfl (HI.out.below (hw.trans (Below.mono hb (by omega))) (Nat.le_refl _)) h0 (by simp; omega) (by have := Below.size hb; omega) (fun v' w'' hO'' hb' => ?_)
          rw [← HLL.out] at hO''
          refine HK.out v' w'' (orow_val hO'') (.inr ⟨?_, .inl ?_⟩) hb'
          · simpa [upd] using hO''
          · simpa [upd] using h6
        -- 6: Op.build 37 #[(0, Operand.tmp 21), (1, Operand.tmp 25)]
        refine RJ.ls_genO ⟨fun v _ => v ≠ undef, fun _ _ _ h _ => h⟩ ?_ ?_
        · intro x w' hb hj hpre ho K hK
          simp [preds, Region.binds, RJ.phi, RJ.MP.val, RJ.MP.any] at hpre
          have hJ' : ORow w' (w.heap.size + 2) (x 5) L := by
            rcases hj with ⟨h, -, -⟩ | ⟨h, -⟩
            · exact absurd h hpre.2
            · exact h
          obtain ⟨g, cc, hx5, -⟩ := hJ'.drow (by omega)
          clear ho
          simp only [frL, Act.put, List.setIfInBounds_toArray, List.set_cons_zero, List.set_cons_succ, Nat.zero_add, Nat.reduceAdd, hpre, hx5] at hK ⊢
          have HK := Lib.hid hK
          clear hK
          refine Held.mk ?_
          go_simp
          refine HK.out (.agg #[.bool neg, .slice g L.length cc]) w' (by simp [undef]) (.inr ⟨?_, .inr ?_⟩) (Below.refl _ _)
          · simpa [upd] using hJ'
          · simp [upd, hx5]
        intro x w' hb hp hJ
        simp only [List.cons_append, List.nil_append, RJ.phis, RJ.MP.val, frL, Act.put, List.setIfInBounds_toArray, List.set_cons_zero, List.set_cons_succ, Nat.zero_add, Nat.reduceAdd] at hp ⊢
        obtain ⟨h0, h1, h2, h3, h4, h5, h6, -⟩ := hp
        have hx6 : x 6 ≠ undef := h6
        obtain ⟨hO', hx6⟩ : ORow w' (w.heap.size + 2) (x 5) L ∧ x 6 = .agg #[.bool neg, x 5] := by
          rcases hJ with ⟨-, h, -⟩ | ⟨h, h'⟩
          · exact absurd h hx6
          · exact ⟨h, h'.resolve_left hx6⟩
        have hD := hO'.drow (by omega)
        obtain ⟨g, cc, hx5, -⟩ := hD
        have hx5' := hx5
        rw [hx5] at hx6 hO'
        simp only [hx6]
        clear hx6 hx5 hx5' hJ
        have F0 : Blk w' w.heap.size #[.bool neg, .slice a xs.length c] 37 := E0.below hb (by omega)
        have F1 : Blk w' (w.heap.size + 1) #[.bool false, .slice none 0 0] 37 := E1.below hb (by omega)
        have hw1 : Below w.heap.size w w' := hw.trans (Below.mono hb (by omega))
        have H2 := Lib.hid hO'
        clear c00 c01 f00 f01 c10 c11 f10 f11 E0 E1 hO' hb
        obtain ⟨c00, c01, f00, f01⟩ := F0.two
        obtain ⟨c10, c11, f10, f11⟩ := F1.two
        go_wp2_with fail
        refine bodyPost_ret (v := .agg #[.bool neg, .slice g L.length cc]) (by simp [results, Tryz.results50, go_sem, c10, c11, f10, f11]) rfl ⟨_, rfl, ?_, ?_⟩
        · exact (((H2.out.other (by simp) _).other (by simp) _).drow (by omega)).mono (by omega)
        · go_grown
          all_goals first | exact hw1 | exact hw1.size | omega
  · have hx : xs = [] := by simp at e0; exact e0
    subst hx
    go_enter Tryz.func50, Tryz.ntmps50
    go_wp2_with fail
    refine bodyPost_ret (v := .agg #[.bool neg, .slice a 0 c]) (by simp [results, Tryz.results50, go_sem]) rfl ⟨_, rfl, ⟨a, c, rfl, IRow.nil _ _, Nat.zero_le _, h0, fun h => by cases h⟩, ?_⟩
    go_grown
end Go.Proofs.YtgbghbeolndfiaaGreatDoor

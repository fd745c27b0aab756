/- The document's numbers: quotients of whole numbers. -/
import Derived.Test.YtgbghbeolndfiaaGreatDoorDiI
import Derived.Test.YtgbghbeolndfiaaGreatDoorLoJ
set_option linter.unusedSimpArgs false
set_option linter.unusedVariables false
set_option linter.constructorNameAsVariable false
namespace Go.Proofs.YtgbghbeolndfiaaGreatDoor
open Go.RowKit

theorem orow1 (w : World) (base : Nat) (x : Int) (h : base ≤ w.heap.size) : ORow (w.alloc (.cells #[.int .i64 x] 3)) base (.slice (some ⟨w.heap.size, 0, none⟩) 1 1) [x] :=
  ORow.mk' rfl h (Blk.new w #[.int .i64 x] 3) (by simp) (by unfold maxLen; omega) rfl rfl
theorem div_stepI {A Y q r x : Int} (hY : 0 < Y) (hq : q = A / Y) (hr : r = A % Y) (n s : Int) (h1 : s + n * Y = x + 10 * r) (h2 : 0 ≤ s) (h3 : s < Y) : n + 10 * q = (x + 10 * A) / Y ∧ s = (x + 10 * A) % Y := by
  have hA : A = Y * q + r := by rw [hq, hr]; exact (Int.mul_ediv_add_emod A Y).symm
  have he : x + 10 * A = s + Y * (n + 10 * q) := by
    rw [hA, Int.mul_add, Int.mul_add, ← Int.add_assoc, Int.mul_left_comm, Int.mul_comm Y n]
    omega
  rw [he, Int.add_mul_ediv_left _ _ (by omega), Int.ediv_eq_zero_of_lt h2 h3, Int.zero_add, Int.add_mul_emod_self_left, Int.emod_eq_of_lt h2 h3]
  exact ⟨rfl, rfl⟩
theorem few {n Y r x s : Int} (h1 : s + n * Y = x + 10 * r) (hx : x ≤ 9) (hr : r < Y) (hs : Y ≤ s) (hY : 0 < Y) (hn : 0 ≤ n) : n < 9 := by
  rcases Int.lt_or_le n 9 with h | h
  · exact h
  · have := Int.mul_le_mul_of_nonneg_right h (show (0 : Int) ≤ Y by omega)
    omega
theorem few' {n Y r x s : Int} (h1 : s + n * Y = x + 10 * r) (hx : x ≤ 9) (hr : r < Y) (hs : 0 ≤ s) (hY : 0 < Y) : n ≤ 9 := by
  rcases Int.lt_or_le 9 n with h | h
  · have := Int.mul_le_mul_of_nonneg_right (show (10 : Int) ≤ n by omega) (show (0 : Int) ≤ Y by omega)
    omega
  · exact h
theorem r_len {ys R : List Int} (gy : Dg ys) (gr : Dg R) (nr : Nr R) (h : dval R < 10 * dval ys) : R.length ≤ ys.length + 1 := by
  refine len_le gr nr _ ?_
  have := dval_lt gy
  rw [Int.pow_succ]
  omega
theorem cmpL_ge {xs ys : List Int} (gx : Dg xs) (gy : Dg ys) (nx : Nr xs) (ny : Nr ys) : 0 ≤ cmpL xs ys ↔ dval ys ≤ dval xs := by
  rw [cmpL_val gx gy nx ny]
  unfold sgnI
  constructor
  · intro h
    split at h
    · omega
    · split at h <;> omega
  · intro h
    split
    · omega
    · split <;> omega
/-- All stays but one block. -/
structure XR (B S M : Nat) (w w' : World) : Prop where
  bl : Below B w w'
  ke : ∀ q, q < M → q ≠ S → w'.heap[q]? = w.heap[q]?
theorem XR.refl {B S M : Nat} (w : World) : XR B S M w w := ⟨Below.refl _ _, fun _ _ _ => rfl⟩
theorem XR.trans {B S M : Nat} : ∀ a b c, XR B S M a b → XR B S M b c → XR B S M a c := fun _ _ _ h1 h2 => ⟨h1.bl.trans h2.bl, fun q h h' => (h2.ke q h h').trans (h1.ke q h h')⟩
theorem XR.drew {B S M : Nat} (w : World) : XR B S M w { w with drawn := w.drawn + 1 } := ⟨(Below.refl _ _).drew, fun _ _ _ => rfl⟩
theorem XR.blk {B S M q : Nat} {w w' : World} {cs : Array Value} {t : TypeId} (h : XR B S M w w') (hB : Blk w q cs t) (hq : q < M) (hS : q ≠ S) : Blk w' q cs t := by
  unfold Blk at *
  rw [h.ke q hq hS, hB]
theorem XR.irow {B S : Nat} {w w' : World} {a : Option Addr} {n : Nat} {xs : List Int} (h : XR B S w.heap.size w w') (hI : IRow w a n xs) (hS : 0 < n → ∀ b o, a = some ⟨b, o, none⟩ → S < b) : IRow w' a n xs := by
  refine ⟨hI.1, hI.2.1, fun hn => ?_⟩
  obtain ⟨b, o, e, hb, hc⟩ := hI.2.2 hn
  have := hS hn b o e
  have hk := h.ke b hb (by omega)
  refine ⟨b, o, e, Nat.lt_of_lt_of_le hb h.bl.size, fun j x hx => ?_⟩
  rw [← hc j x hx]
  simp [World.cell?, hk]
theorem XR.drow {B S base : Nat} {w w' : World} {v : Value} {xs : List Int} (h : XR B S w.heap.size w w') (hD : DRow w base v xs) (hS : S < base) : DRow w' base v xs := by
  obtain ⟨a, c, h1, h2, h3, h4, h5⟩ := hD
  exact ⟨a, c, h1, h.irow h2 (fun hn b o e => by have := h5 hn b o e; omega), h3, h4, h5⟩
theorem XR.put {B S M : Nat} {w : World} (hB : B ≤ S) (u v : Value) : XR B S M w ((w.setCell ⟨S, 0, none⟩ u).setCell ⟨S, 1, none⟩ v) :=
  ⟨((Below.refl _ _).setCell (by simpa using hB) _).setCell (by simpa using hB) _, fun q _ hq => by rw [Below.heap_setCell _ _ _ _ (by simpa using hq), Below.heap_setCell _ _ _ _ (by simpa using hq)]⟩
/-- A block before its store and behind it. -/
structure JT (k S : Nat) (t : TypeId) (E F : Array Value) (x : Nat → Value) (w : World) : Prop where
  a : x k = undef → Blk w S E t
  b : x k = .bool true → Blk w S F t
theorem JT.same {k S : Nat} {t : TypeId} {E F : Array Value} {x : Nat → Value} {w : World} (h : JT k S t E F x w) {i : Nat} (hi : (i != k) = true) (v : Value) : JT k S t E F (upd x i v) w := by
  have e : upd x i v k = x k := by simp at hi; simp [upd]; omega
  exact ⟨fun h' => h.a (by rw [← e]; exact h'), fun h' => h.b (by rw [← e]; exact h')⟩
theorem JT.put {k S : Nat} {t : TypeId} {E F : Array Value} {x : Nat → Value} {w : World} (h : Blk w S F t) : JT k S t E F (upd x k (.bool true)) w :=
  ⟨fun h' => by simp [upd, undef] at h', fun _ => h⟩
set_option maxRecDepth 100000 in
set_option maxHeartbeats 8000000 in
theorem rdiv_any (n1 n2 : Bool) (a b : Option Addr) (c d : Nat) (xs ys : List Int) (w : World) (hI : IRow w a xs.length xs) (hJ : IRow w b ys.length ys) (gx : Dg xs) (gy : Dg ys) (ny : Nr ys) (y0 : ys ≠ []) (hl : xs.length ≤ 1000) (hm : ys.length ≤ 1000) : Calls Tryz.prog 53 #[.agg #[.bool n1, .slice a xs.length c], .agg #[.bool n2, .slice b ys.length d]] w fun e w' =>
    ∃ v u Q R, e = .returned (.tuple #[.agg #[.bool (!(n1 == n2)), v], .agg #[.bool n1, u]]) ∧ DRow w' w.heap.size v Q ∧ Dg Q ∧ Nr Q ∧ dval Q = dval xs / dval ys ∧ DRow w' w.heap.size u R ∧ Dg R ∧ Nr R ∧ dval R = dval xs % dval ys ∧ Below w.heap.size w w' := by
  have hY : 0 < dval ys := dval_pos gy ny y0
  have HI := Lib.hid hI
  have HJ := Lib.hid hJ
  have GX := Lib.hid gx
  have GY := Lib.hid gy
  have NY := Lib.hid ny
  clear hI hJ gx gy ny y0
  go_enter Tryz.func53, Tryz.ntmps53
  go_wp2_with fail
  go_loopg [6, 7, 8] (xs.length) (fun m qv rv iv wr => ∃ (Q R : List Int), m ≤ xs.length ∧ iv = .int .i64 ((m : Int) - 1) ∧ Below w.heap.size w wr ∧ Blk wr w.heap.size #[.bool n1, .slice a xs.length c] 37 ∧ Blk wr (w.heap.size + 1) #[.bool n2, .slice b ys.length d] 37 ∧ Blk wr (w.heap.size + 1 + 1) #[.bool false, .slice none 0 0] 37 ∧ Blk wr (w.heap.size + 1 + 1 + 1) #[.bool false, .slice none 0 0] 37 ∧ DRow wr (w.heap.size + 4) qv Q ∧ Dg Q ∧ Q.length + m = xs.length ∧ dval Q = dval (xs.drop m) / dval ys ∧ DRow wr (w.heap.size + 4) rv R ∧ Dg R ∧ Nr R ∧ dval R = dval (xs.drop m) % dval ys)
  case atStart => exact ⟨[], [], Nat.le_refl _, rfl, by go_grown, Blk.alloc (Blk.alloc (Blk.alloc (Blk.here rfl rfl) _) _) _, Blk.alloc (Blk.alloc (Blk.here rfl (by simp)) _) _, Blk.alloc (Blk.here rfl (by simp)) _, Blk.here rfl (by simp), DRow.nil _ _, Dg.nil, by simp, by rw [List.drop_length]; simp [dval], DRow.nil _ _, Dg.nil, Nr.nil, by rw [List.drop_length]; simp [dval]⟩
  case round =>
    obtain ⟨Q, R, hm', rfl, hw, E0, E1, E2, E3, hQ, gq, hql, hqv, hR, gr, nr, hrv⟩ := hrel
    have k0 : w.heap.size < wr.heap.size := E0.lt
    have k1 : w.heap.size + 1 < wr.heap.size := E1.lt
    have k2 : w.heap.size + 1 + 1 < wr.heap.size := E2.lt
    have k3 : w.heap.size + 1 + 1 + 1 < wr.heap.size := E3.lt
    obtain ⟨c00, c01, f00, f01⟩ := E0.two
    obtain ⟨c10, c11, f10, f11⟩ := E1.two
    cases gk with
    | zero => 
      rw [List.drop_zero] at hqv hrv
      obtain ⟨gq', cq, rfl, hIQ, hcq, hq0, hqb⟩ := hQ
      obtain ⟨tq1, tq2, tq3, -⟩ := trimL_spec Q
      have tr := fun w' (h : IRow w' gq' Q.length Q) => trim_row h
      have TR := Lib.hid (fun w' h => trim_any gq' cq Q w' h hcq hq0 (by omega))
      have hTl : (trimL Q).length ≤ Q.length := (trim_row hIQ).2
      have HIQ := Lib.hid hIQ
      obtain ⟨T, hT⟩ : ∃ T, T = trimL Q := ⟨_, rfl⟩
      rw [← hT] at TR tq1 tq2 tq3 tr hTl
      have TR2 := Lib.hid tr
      have TQ := Lib.hid (And.intro tq1 (And.intro (tq2 gq) tq3))
      obtain ⟨gr', cr, rfl, -⟩ := id hR
      have HR := Lib.hid hR
      have HG := Lib.hid gr
      have HN := Lib.hid nr
      have HQV := Lib.hid hqv
      have HRV := Lib.hid hrv
      clear tr tq1 tq2 tq3 hT hIQ hR gr nr hqv hrv gq
      go_wp2_with fail
      refine RJ.region_steps (R := (XR w.heap.size (w.heap.size + 1 + 1) wr.heap.size)) 13 [some 42, some 43, some 44, some 45, some 46, some 47, some 48, some 49, some 50, some 51, some 52, some 53, none] (JT 12 (w.heap.size + 1 + 1) 37 #[.bool false, .slice none 0 0] #[.bool (!(n1 == n2)), .slice gq' T.length cq]) XR.trans XR.drew ⟨fun _ => E2, fun h => by simp [orig, undef] at h⟩ (by kernel_rfl) (by kernel_rfl) ?_
      -- 0: Op.fieldAddr 37 (Operand.tmp 2) 0
      refine RJ.ls_gen (RJ.MP.val (.pointer (some ⟨w.heap.size, 0, none⟩))) ?_ ?_
      · intro x w' hb hj hpre K hK
        obtain ⟨z00, z01, -, -⟩ := (hb.blk E0 k0 (by omega)).two
        obtain ⟨z10, z11, -, -⟩ := (hb.blk E1 k1 (by omega)).two
        clear hpre
        simp only [frL, Act.put, List.setIfInBounds_toArray, List.set_cons_zero, List.set_cons_succ, Nat.zero_add, Nat.reduceAdd] at hK ⊢
        have HK := Lib.hid hK
        clear hK
        refine Held.mk ?_
        go_simp
        exact HK.out _ _ rfl (hj.same (by decide) _) (XR.refl _)
      -- 1: Op.load 4 (Operand.tmp 42)
      refine RJ.ls_gen (RJ.MP.val (.bool n1)) ?_ ?_
      · intro x w' hb hj hpre K hK
        obtain ⟨z00, z01, -, -⟩ := (hb.blk E0 k0 (by omega)).two
        obtain ⟨z10, z11, -, -⟩ := (hb.blk E1 k1 (by omega)).two
        simp [preds, Region.binds, RJ.phi, RJ.MP.val] at hpre
        simp only [frL, Act.put, List.setIfInBounds_toArray, List.set_cons_zero, List.set_cons_succ, Nat.zero_add, Nat.reduceAdd, hpre] at hK ⊢
        have HK := Lib.hid hK
        clear hK
        refine Held.mk ?_
        go_simp
        exact HK.out _ _ rfl (hj.same (by decide) _) (XR.refl _)
      -- 2: Op.fieldAddr 37 (Operand.tmp 3) 0
      refine RJ.ls_gen (RJ.MP.val (.pointer (some ⟨w.heap.size + 1, 0, none⟩))) ?_ ?_
      · intro x w' hb hj hpre K hK
        obtain ⟨z00, z01, -, -⟩ := (hb.blk E0 k0 (by omega)).two
        obtain ⟨z10, z11, -, -⟩ := (hb.blk E1 k1 (by omega)).two
        clear hpre
        simp only [frL, Act.put, List.setIfInBounds_toArray, List.set_cons_zero, List.set_cons_succ, Nat.zero_add, Nat.reduceAdd] at hK ⊢
        have HK := Lib.hid hK
        clear hK
        refine Held.mk ?_
        go_simp
        exact HK.out _ _ rfl (hj.same (by decide) _) (XR.refl _)
      -- 3: Op.load 4 (Operand.tmp 44)
      refine RJ.ls_gen (RJ.MP.val (.bool n2)) ?_ ?_
      · intro x w' hb hj hpre K hK
        obtain ⟨z00, z01, -, -⟩ := (hb.blk E0 k0 (by omega)).two
        obtain ⟨z10, z11, -, -⟩ := (hb.blk E1 k1 (by omega)).two
        simp [preds, Region.binds, RJ.phi, RJ.MP.val] at hpre
        simp only [frL, Act.put, List.setIfInBounds_toArray, List.set_cons_zero, List.set_cons_succ, Nat.zero_add, Nat.reduceAdd, hpre] at hK ⊢
        have HK := Lib.hid hK
        clear hK
        refine Held.mk ?_
        go_simp
        exact HK.out _ _ rfl (hj.same (by decide) _) (XR.refl _)
      -- 4: Op.binOp BinOp.neq 4 (Operand.tmp 43) (Operand.tmp 45) 4
      refine RJ.ls_gen (RJ.MP.val (.bool (!(n1 == n2)))) ?_ ?_
      · intro x w' hb hj hpre K hK
        obtain ⟨z00, z01, -, -⟩ := (hb.blk E0 k0 (by omega)).two
        obtain ⟨z10, z11, -, -⟩ := (hb.blk E1 k1 (by omega)).two
        simp [preds, Region.binds, RJ.phi, RJ.MP.val] at hpre
        simp only [frL, Act.put, List.setIfInBounds_toArray, List.set_cons_zero, List.set_cons_succ, Nat.zero_add, Nat.reduceAdd, hpre] at hK ⊢
        have HK := Lib.hid hK
        clear hK
        refine Held.mk ?_
        go_simp
        exact HK.out _ _ rfl (hj.same (by decide) _) (XR.refl _)
      -- 5: Op.move (Operand.tmp 6)
      refine RJ.ls_gen (RJ.MP.val (.slice gq' Q.length cq)) ?_ ?_
      · intro x w' hb hj hpre K hK
        obtain ⟨z00, z01, -, -⟩ := (hb.blk E0 k0 (by omega)).two
        obtain ⟨z10, z11, -, -⟩ := (hb.blk E1 k1 (by omega)).two
        clear hpre
        simp only [frL, Act.put, List.setIfInBounds_toArray, List.set_cons_zero, List.set_cons_succ, Nat.zero_add, Nat.reduceAdd] at hK ⊢
        have HK := Lib.hid hK
        clear hK
        refine Held.mk ?_
        go_simp
        exact HK.out _ _ rfl (hj.same (by decide) _) (XR.refl _)
      -- 6: Op.call { callee := Callee.value (Operand.func 37), args := #[Operand.tmp 47], a
      refine RJ.ls_gen (RJ.MP.val (.slice gq' T.length cq)) ?_ ?_
      · intro x w' hb hj hpre K hK
        simp [preds, Region.binds, RJ.phi, RJ.MP.val] at hpre
        simp only [frL, Act.put, List.setIfInBounds_toArray, List.set_cons_zero, List.set_cons_succ, Nat.zero_add, Nat.reduceAdd, hpre] at hK ⊢
        have HK := Lib.hid hK
        clear hK
        refine Held.mk ?_
        go_simp
        refine (TR.out w' (hb.irow HIQ.out (fun h b o e => by have := hqb h b o e; omega))).mono ?_
        rintro e w1 ⟨rfl, rfl⟩
        dsimp only
        exact HK.out _ _ rfl (hj.same (by decide) _) (XR.refl _)
      -- 7: Op.build 37 #[(0, Operand.tmp 46), (1, Operand.tmp 48)]
      refine RJ.ls_gen (RJ.MP.val (.agg #[.bool (!(n1 == n2)), .slice gq' T.length cq])) ?_ ?_
      · intro x w' hb hj hpre K hK
        obtain ⟨z00, z01, -, -⟩ := (hb.blk E0 k0 (by omega)).two
        obtain ⟨z10, z11, -, -⟩ := (hb.blk E1 k1 (by omega)).two
        simp [preds, Region.binds, RJ.phi, RJ.MP.val] at hpre
        simp only [frL, Act.put, List.setIfInBounds_toArray, List.set_cons_zero, List.set_cons_succ, Nat.zero_add, Nat.reduceAdd, hpre] at hK ⊢
        have HK := Lib.hid hK
        clear hK
        refine Held.mk ?_
        go_simp
        exact HK.out _ _ rfl (hj.same (by decide) _) (XR.refl _)
      -- 8: Op.fieldAddr 37 (Operand.tmp 2) 0
      refine RJ.ls_gen (RJ.MP.val (.pointer (some ⟨w.heap.size, 0, none⟩))) ?_ ?_
      · intro x w' hb hj hpre K hK
        obtain ⟨z00, z01, -, -⟩ := (hb.blk E0 k0 (by omega)).two
        obtain ⟨z10, z11, -, -⟩ := (hb.blk E1 k1 (by omega)).two
        clear hpre
        simp only [frL, Act.put, List.setIfInBounds_toArray, List.set_cons_zero, List.set_cons_succ, Nat.zero_add, Nat.reduceAdd] at hK ⊢
        have HK := Lib.hid hK
        clear hK
        refine Held.mk ?_
        go_simp
        exact HK.out _ _ rfl (hj.same (by decide) _) (XR.refl _)
      -- 9: Op.load 4 (Operand.tmp 50)
      refine RJ.ls_gen (RJ.MP.val (.bool n1)) ?_ ?_
      · intro x w' hb hj hpre K hK
        obtain ⟨z00, z01, -, -⟩ := (hb.blk E0 k0 (by omega)).two
        obtain ⟨z10, z11, -, -⟩ := (hb.blk E1 k1 (by omega)).two
        simp [preds, Region.binds, RJ.phi, RJ.MP.val] at hpre
        simp only [frL, Act.put, List.setIfInBounds_toArray, List.set_cons_zero, List.set_cons_succ, Nat.zero_add, Nat.reduceAdd, hpre] at hK ⊢
        have HK := Lib.hid hK
        clear hK
        refine Held.mk ?_
        go_simp
        exact HK.out _ _ rfl (hj.same (by decide) _) (XR.refl _)
      -- 10: Op.move (Operand.tmp 7)
      refine RJ.ls_gen (RJ.MP.val (.slice gr' R.length cr)) ?_ ?_
      · intro x w' hb hj hpre K hK
        obtain ⟨z00, z01, -, -⟩ := (hb.blk E0 k0 (by omega)).two
        obtain ⟨z10, z11, -, -⟩ := (hb.blk E1 k1 (by omega)).two
        clear hpre
        simp only [frL, Act.put, List.setIfInBounds_toArray, List.set_cons_zero, List.set_cons_succ, Nat.zero_add, Nat.reduceAdd] at hK ⊢
        have HK := Lib.hid hK
        clear hK
        refine Held.mk ?_
        go_simp
        exact HK.out _ _ rfl (hj.same (by decide) _) (XR.refl _)
      -- 11: Op.build 37 #[(0, Operand.tmp 51), (1, Operand.tmp 52)]
      refine RJ.ls_gen (RJ.MP.val (.agg #[.bool n1, .slice gr' R.length cr])) ?_ ?_
      · intro x w' hb hj hpre K hK
        obtain ⟨z00, z01, -, -⟩ := (hb.blk E0 k0 (by omega)).two
        obtain ⟨z10, z11, -, -⟩ := (hb.blk E1 k1 (by omega)).two
        simp [preds, Region.binds, RJ.phi, RJ.MP.val] at hpre
        simp only [frL, Act.put, List.setIfInBounds_toArray, List.set_cons_zero, List.set_cons_succ, Nat.zero_add, Nat.reduceAdd, hpre] at hK ⊢
        have HK := Lib.hid hK
        clear hK
        refine Held.mk ?_
        go_simp
        exact HK.out _ _ rfl (hj.same (by decide) _) (XR.refl _)
      -- 12: Op.store 37 (Operand.tmp 4) (Operand.tmp 49)
      refine RJ.ls_genO (RJ.MP.val (.bool true)) ?_ ?_
      · intro x w' hb hj hpre ho K hK
        have hS := hj.a (by rw [ho 12 (by omega) (.inl rfl)]; simp [orig])
        obtain ⟨d0, d1, d2, d3⟩ := hS.two
        have dk : w.heap.size + 1 + 1 < w'.heap.size := hS.lt
        clear ho
        simp [preds, Region.binds, RJ.phi, RJ.MP.val] at hpre
        simp only [frL, Act.put, List.setIfInBounds_toArray, List.set_cons_zero, List.set_cons_succ, Nat.zero_add, Nat.reduceAdd, hpre] at hK ⊢
        have HK := Lib.hid hK
        clear hK
        refine Held.mk ?_
        go_simp
        exact HK.out (.bool true) _ rfl (JT.put ((hS.set 0 _).set 1 _)) (XR.put (by omega) _ _)
      intro x w' hb hp hJ
      simp only [List.cons_append, List.nil_append, RJ.phis, RJ.MP.val, frL, Act.put, List.setIfInBounds_toArray, List.set_cons_zero, List.set_cons_succ, Nat.zero_add, Nat.reduceAdd] at hp ⊢
      obtain ⟨h0, h1, h2, h3, h4, h5, h6, h7, h8, h9, h10, h11, h12, -⟩ := hp
      have F2 : Blk w' (w.heap.size + 1 + 1) #[.bool (!(n1 == n2)), .slice gq' T.length cq] 37 := hJ.b h12
      simp only [h0, h1, h2, h3, h4, h5, h6, h7, h8, h9, h10, h11]
      clear hJ h0 h1 h2 h3 h4 h5 h6 h7 h8 h9 h10 h11 h12
      have hw1 : Below w.heap.size w w' := hw.trans hb.bl
      have F3 := hb.blk E3 k3 (by omega)
      have l2 : w.heap.size + 1 + 1 < w'.heap.size := F2.lt
      have l3 : w.heap.size + 1 + 1 + 1 < w'.heap.size := F3.lt
      have hd2 : DRow wr (w.heap.size + 4) (.slice gq' T.length cq) T := ⟨gq', cq, rfl, (TR2.out _ HIQ.out).1, by omega, hq0, fun h => hqb (by omega)⟩
      have HQ2 := hb.drow hd2 (by omega)
      have HR2 := hb.drow HR.out (by omega)
      clear c00 c01 f00 f01 c10 c11 f10 f11 E0 E1 E2 E3 hb hw
      obtain ⟨c20, c21, f20, f21⟩ := F2.two
      obtain ⟨c30, c31, f30, f31⟩ := F3.two
      go_wp2_with fail
      refine bodyPost_ret (v := .tuple #[.agg #[.bool (!(n1 == n2)), .slice gq' T.length cq], .agg #[.bool n1, .slice gr' R.length cr]]) (by simp [results, Tryz.results53, go_sem, c20, c21, f20, f21, c30, c31, f30, f31]) rfl ⟨_, _, T, R, rfl, ?_, TQ.out.2.1, TQ.out.2.2, by rw [TQ.out.1, HQV.out], ?_, HG.out, HN.out, HRV.out, ?_⟩
      · exact ((HQ2.other (by simp) _).other (by simp) _).mono (by omega)
      · exact ((HR2.other (by simp) _).other (by simp) _).mono (by omega)
      · go_grown
        all_goals first | exact hw1 | exact hw1.size | omega
    | succ j =>
      obtain ⟨x, hx, -⟩ := at_lt xs (show j < xs.length by omega)
      obtain ⟨p, o, rfl, hpb, y0⟩ := irow_at HI.out hx
      have z0 := (hw.cell (p := ⟨p, o + j, none⟩) hpb).trans y0
      have gx := GX.out.at hx
      have i1 : ((j + 1 : Nat) : Int) - 1 = (j : Int) := by omega
      have hj1 : j < xs.length := by omega
      have j3 : IntKind.i64.wrap ((j : Int) - 1) = (j : Int) - 1 := IntWalk.i64_in _ (by omega)
      have hRb : dval R < dval ys := by rw [hrv]; exact Int.emod_lt_of_pos _ hY
      have hRl : R.length ≤ ys.length + 1 := r_len GY.out gr nr (by omega)
      obtain ⟨gr', cr, rfl, hIR, hcr, hr0, hrb⟩ := hR
      have HIR := Lib.hid hIR
      have HGR := Lib.hid gr
      have HNR := Lib.hid nr
      have HQ := Lib.hid hQ
      have HGQ := Lib.hid gq
      have HQV := Lib.hid hqv
      have HRV := Lib.hid hrv
      have HX := Lib.hid hx
      clear hIR gr nr hQ gq hqv hrv hx y0
      go_wp2_with (at_builtin; refine wpList_app rfl _ _ rfl wr.heap.size _ [x] R rfl (orow1 wr wr.heap.size x (Nat.le_refl _)) gr' R.length cr rfl (HIR.out.below ((Below.refl _ _).alloc (Nat.le_refl _) _) (Nat.le_refl _)) hr0 ?c1 ?c2 ?_)
      case c1 => simp; omega
      case c2 => simp
      intro v' w1 hO1 hb1
      have hO1 : ORow w1 wr.heap.size v' (x :: R) := hO1
      have hLl : (x :: R).length ≤ 1001 + 1 := by simp; omega
      have hdr := hO1.drow (by omega)
      obtain ⟨g1, k1', rfl, hI1, hc1, hn1, hg1⟩ := hdr
      have TR := Lib.hid (trim_any g1 k1' (x :: R) w1 hI1 hc1 hn1 (by omega))
      obtain ⟨tq1, tq2, tq3, -⟩ := trimL_spec (x :: R)
      have htr := trim_row hI1
      have hTD := tq2 (Dg.cons gx HGR.out)
      have hwb : Below w.heap.size w w1 := (hw.alloc hw.size _).trans (hb1.mono hw.size)
      have hbb : Below wr.heap.size wr w1 := ((Below.refl _ _).alloc (Nat.le_refl _) _).trans hb1
      have F0 := E0.below hbb k0
      have F1 := E1.below hbb k1
      have F2 := E2.below hbb k2
      have F3 := E3.below hbb k3
      have HQ1 := Lib.hid (HQ.out.below hbb (Nat.le_refl _))
      have hD1 : DRow w1 (w.heap.size + 4) (.slice g1 (trimL (x :: R)).length k1') (trimL (x :: R)) := ⟨g1, k1', rfl, htr.1, by have := htr.2; omega, hn1, fun h b o e => by have := hg1 (by simp) b o e; omega⟩
      obtain ⟨T, hT⟩ : ∃ T, T = trimL (x :: R) := ⟨_, rfl⟩
      rw [← hT] at TR tq1 tq3 htr hTD hD1
      simp only [List.length_cons] at TR
      have HD1 := Lib.hid hD1
      have HTV := Lib.hid tq1
      have HTN := Lib.hid tq3
      have HTD := Lib.hid hTD
      clear hT htr hD1 tq1 tq2 tq3 hTD hO1 hI1 hg1 hb1 hbb hw c00 c01 f00 f01 c10 c11 f10 f11 E0 E1 E2 E3 k0 k1 k2 k3 z0 HIR HQ
      obtain ⟨c00, c01, f00, f01⟩ := F0.two
      obtain ⟨c10, c11, f10, f11⟩ := F1.two
      have k0 : w.heap.size < w1.heap.size := F0.lt
      have k1 : w.heap.size + 1 < w1.heap.size := F1.lt
      have k2 : w.heap.size + 1 + 1 < w1.heap.size := F2.lt
      have k3 : w.heap.size + 1 + 1 + 1 < w1.heap.size := F3.lt
      go_wp2_with (go_at_call 37; with_reducible refine TR.out.mono ?_; rintro e w2 ⟨rfl, rfl⟩)
      obtain ⟨G, hG⟩ : ∃ G, G = j := ⟨_, rfl⟩
      have hbr : dval T = x + 10 * dval R := HTV.out
      have hY10 : x + 10 * dval R < 10 * dval ys := by have := gx.2; omega
      clear HTV
      go_loopg [7, 9] 10 (fun m rv nv wt => ∃ (n : Nat) (S : List Int), m + n = 10 ∧ nv = .int .i64 (n : Int) ∧ Below w1.heap.size w1 wt ∧ DRow wt (w.heap.size + 4) rv S ∧ Dg S ∧ Nr S ∧ dval S + (n : Int) * dval ys = x + 10 * dval R)
      case atStart => exact ⟨0, T, by omega, rfl, Below.refl _ _, HD1.out, HTD.out, HTN.out, by rw [hbr]; simp⟩
      case round =>
        obtain ⟨n, S, hmn, rfl, hwt, hDS, gs, ns, hsv⟩ := hrel
        have T0 := F0.below hwt k0
        have T1 := F1.below hwt k1
        have m0 : w.heap.size < wr.heap.size := T0.lt
        have m1 : w.heap.size + 1 < wr.heap.size := T1.lt
        clear c00 c01 f00 f01 c10 c11 f10 f11
        obtain ⟨c00, c01, f00, f01⟩ := T0.two
        obtain ⟨c10, c11, f10, f11⟩ := T1.two
        have hs0 := dval_nonneg gs
        have hny : (0 : Int) ≤ (n : Int) * dval ys := Int.mul_nonneg (Int.natCast_nonneg _) (by omega)
        have hSl := r_len GY.out gs ns (by omega)
        have hw2 := hwb.trans (hwt.mono hwb.size)
        obtain ⟨gS, cS, rfl, hIS, hcS, hS0, hSb⟩ := id hDS
        have CM := Lib.hid (dcmp_any gS b cS d S ys wr hIS (HJ.out.below hw2 (Nat.le_refl _)) (by omega) (by omega))
        have j4 : IntKind.i64.wrap ((n : Int) + 1) = (n : Int) + 1 := IntWalk.i64_in _ (by omega)
        have hcmp := cmpL_ge gs GY.out ns NY.out
        have hle := fun h => cmpL_len (xs := S) (ys := ys) h
        obtain ⟨cv, hcv⟩ : ∃ cv, cmpL S ys = cv := ⟨_, rfl⟩
        rw [hcv] at CM hcmp hle
        have HDS := Lib.hid hDS
        have HGS := Lib.hid gs
        have HNS := Lib.hid ns
        have HSV := Lib.hid hsv
        have HIS := Lib.hid hIS
        clear hcv hDS gs ns hsv hIS
        cases e3 : decide (0 ≤ cv)
        · have hlt : dval S < dval ys := by
            rcases Int.lt_or_le (dval S) (dval ys) with h | h
            · exact h
            · have := hcmp.2 h; simp at e3; omega
          have hn9 := few' HSV.out gx.2 hRb hs0 hY
          obtain ⟨hq', hr'⟩ := div_stepI hY HQV.out HRV.out (n : Int) (dval S) HSV.out hs0 hlt
          have hdr : dval (xs.drop j) = x + 10 * dval (xs.drop (j + 1)) := by rw [drop_at HX.out]; rfl
          rw [← hdr] at hq' hr'
          have HQ' := Lib.hid hq'
          have HR' := Lib.hid hr'
          clear hcmp hle hq' hr' hdr HSV HQV HRV
          obtain ⟨gQ, cQ, rfl, hIQ, hcQ, hQ0, hQb⟩ := HQ1.out
          have HIQ := Lib.hid hIQ
          have hQl : Q.length ≤ 1000 := by omega
          clear hIQ
          go_wp2_with (first
            | (go_at_call 80; with_reducible refine CM.out.mono ?_
               rintro e w3 ⟨rfl, hb⟩
               have hw3 := hw2.trans (hb.mono hw2.size)
               have H0 := T0.below hb m0
               have H1 := T1.below hb m1
               have hb13 := hwt.trans (hb.mono hwt.size)
               have HDS3 := Lib.hid (HDS.out.below hb (Nat.le_refl _))
               clear c00 c01 f00 f01 c10 c11 f10 f11 hb)
            | (at_builtin; refine wpList_app rfl _ _ rfl w3.heap.size _ [(n : Int)] Q rfl (orow1 w3 w3.heap.size n (Nat.le_refl _)) gQ Q.length cQ rfl ((HIQ.out.below hb13 (Nat.le_refl _)).below ((Below.refl _ _).alloc (Nat.le_refl _) _) (Nat.le_refl _)) hQ0 ?c1 ?c2 ?_))
          case c1 => simp; omega
          case c2 => simp
          intro v' w4 hO1 hb4
          have hO1 : ORow w4 w3.heap.size v' ((n : Int) :: Q) := hO1
          have hdq := (hO1.drow (by simp; omega)).mono (show w.heap.size + 4 ≤ w3.heap.size by have := hb13.size; omega)
          have hb34 : Below w3.heap.size w3 w4 := ((Below.refl _ _).alloc (Nat.le_refl _) _).trans hb4
          have hw4 := hw3.trans (hb34.mono hw3.size)
          have hb14 := hb13.trans (hb34.mono hb13.size)
          have HDQ := Lib.hid hdq
          have HDS4 := Lib.hid (HDS3.out.below hb34 (Nat.le_refl _))
          clear hO1 hdq hb34 hb4
          go_wp2_with fail
          go_roundg G
          case measure => omega
          case rel => exact ⟨(n : Int) :: Q, S, by omega, by rw [hG], hw4, F0.below hb14 k0, F1.below hb14 k1, F2.below hb14 k2, F3.below hb14 k3, HDQ.out, Dg.cons ⟨Int.natCast_nonneg _, hn9⟩ HGQ.out, by rw [hG]; simp; omega, by rw [hG]; exact HQ'.out, HDS4.out, HGS.out, HNS.out, by rw [hG]; exact HR'.out⟩
        · have hge : dval ys ≤ dval S := hcmp.1 (by simpa using e3)
          have hlen := hle (by simpa using e3)
          have hn9 := few HSV.out gx.2 hRb hge hY (Int.natCast_nonneg _)
          obtain ⟨u1, u2, u3⟩ := minus_val HGS.out GY.out hlen hge
          have MI := Lib.hid (fun w' h1 h2 => dminus_any gS b cS d S ys w' h1 h2 HGS.out GY.out (by omega) (by omega) hlen)
          obtain ⟨U, hU⟩ : ∃ U, U = trimL (minusL S ys 0) := ⟨_, rfl⟩
          rw [← hU] at MI u1 u2 u3
          have HU1 := Lib.hid u1
          have HU2 := Lib.hid u2
          have HU3 := Lib.hid u3
          clear hU u1 u2 u3 hcmp hle
          go_wp2_with (first
            | (go_at_call 80; with_reducible refine CM.out.mono ?_
               rintro e w3 ⟨rfl, hb⟩
               have hw3 := hw2.trans (hb.mono hw2.size)
               have H0 := T0.below hb m0
               have H1 := T1.below hb m1
               have hb13 := hwt.trans (hb.mono hwt.size)
               have HIS3 := Lib.hid (HIS.out.below hb (Nat.le_refl _))
               clear c00 c01 f00 f01 c10 c11 f10 f11 hb
               obtain ⟨c00, c01, f00, f01⟩ := H0.two
               obtain ⟨c10, c11, f10, f11⟩ := H1.two
               have p0 : w.heap.size < w3.heap.size := H0.lt
               have p1 : w.heap.size + 1 < w3.heap.size := H1.lt)
            | (go_at_call 81; refine (MI.out _ HIS3.out (HJ.out.below hw3 (Nat.le_refl _))).mono ?_
               rintro e w4 ⟨v, rfl, hDU, hb⟩
               have hb14 := hb13.trans (hb.mono hb13.size)
               have hDU' := hDU.mono (show w.heap.size + 4 ≤ w3.heap.size by have := hb13.size; omega)
               clear c00 c01 f00 f01 c10 c11 f10 f11 hb hDU))
          go_roundg (gk - 1)
          case measure => omega
          case rel => exact ⟨n + 1, U, by omega, by go_num, hb14, hDU', HU2.out, HU3.out, by
            rw [HU1.out, ← HSV.out, show ((n + 1 : Nat) : Int) = (n : Int) + 1 by omega, Int.add_mul]
            omega⟩
end Go.Proofs.YtgbghbeolndfiaaGreatDoor

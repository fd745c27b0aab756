/- What SeqCuts' walk wants beside the contracts: rows of the call's own that lie apart, told while they are made. -/
import Derived.Test.YtpnlhkpibgngbaaSqG
import Derived.Test.YtpnlhkpibgngbaaSx
set_option linter.unusedSimpArgs false
set_option linter.unusedVariables false
namespace Go.Proofs.Ytpnlhkpibgngbaa
open Go.RowKit Go.Sort

/-- The four answers. -/
def resF (xs ys : List Int) (a b : Int) (k : Nat) : List Int := if k = 0 then xs.reverse else if k = 1 then remF xs a else if k = 2 then putF xs ys (plF xs.length a) else partF xs a b
theorem resF_len (xs ys : List Int) (a b : Int) (k : Nat) : (resF xs ys a b k).length ≤ xs.length + ys.length := by
  unfold resF
  split
  · simp
  split
  · unfold remF cutF
    split
    · omega
    · simp; omega
  split
  · rw [putF_len _ _ _ (plF_le _ _)]
    exact Nat.le_refl _
  · unfold partF
    simp
    omega
theorem do_any (k : Nat) (hk : k < 4) (al am : Option Addr) (n cl m cm : Nat) (xs ys : List Int) (a b : Int) (w : World) (h : IRow w al n xs) (hn : n ≤ 1000000) (hy : IRow w am m ys) (hm : m ≤ 1000000) (h0 : am = none → cm = 0) :
    Calls Try.prog 23 #[.int .i64 (k : Int), .slice al n cl, .int .i64 a, .int .i64 b, .slice am m cm] w (Own (resF xs ys a b k) w) := by
  have : k = 0 ∨ k = 1 ∨ k = 2 ∨ k = 3 := by omega
  rcases this with rfl | rfl | rfl | rfl
  · exact do0_any al am n cl m cm xs a b w h hn
  · exact do1_any al am n cl m cm xs a b w h hn
  · exact do2_any al am n cl m cm xs ys a b w h hn hy hm h0
  · exact do3_any al am n cl m cm xs a b w h hn

/-- 'append([]int{}, row...)'. -/
theorem app_fresh (w : World) (base q : Nat) (hq : Blk w q #[] 3) (hbq : base ≤ q) (ax : Option Addr) (m c : Nat) (ys : List Int) (hI : IRow w ax m ys) (h0 : ax = none → c = 0) (hm : m ≤ 1000000) :
    ∃ v' w', (Builtin.append_ #[33, 33] 33 #[.slice (some ⟨q, 0, none⟩) 0 0, .slice ax m c]).run Try.prog w = .ok v' w' ∧ ORow w' base v' ys ∧ Below w.heap.size w w' := by
  obtain ⟨i0, hi, hz0, hz1, hz2⟩ := info_parts infoI3
  obtain ⟨rfl, -, hc⟩ := hI
  have hql := hq.lt
  have hO : w.ownsRow base 3 1 (.slice (some ⟨q, 0, none⟩) 0 0) 0 [] := ⟨rfl, .inr ⟨q, 0, #[], rfl, hbq, hq, Nat.le_refl _, Nat.zero_le _, rfl, rfl⟩⟩
  cases ax with
  | none =>
    have hy : ys = [] := by
      rcases Nat.eq_zero_or_pos ys.length with h | h
      · exact List.length_eq_zero_iff.1 h
      · obtain ⟨b, o, hh, -⟩ := hc h
        cases hh
    subst hy
    obtain rfl := h0 rfl
    exact ⟨_, _, run_append_owned_none w base 33 33 3 i0 1 Try.underlying33 hi _ 0 [] hO, hO, Below.refl _ _⟩
  | some ad =>
    have hcells : ∀ j u, (ys.map (Value.int .i64))[j]? = some u → w.cell? (ad.add j) = some u := fun j u hj => by
      have hj' : j < ys.length := by
        rcases Nat.lt_or_ge j ys.length with h | h
        · exact h
        · rw [List.getElem?_eq_none (by simp; omega)] at hj; cases hj
      obtain ⟨b, o, he, hl, hcell⟩ := hc (by omega)
      cases he
      simp only [List.getElem?_map] at hj
      obtain ⟨y, hy, rfl⟩ := Option.map_eq_some_iff.1 hj
      have := hcell j y hy
      by_cases h0 : j = 0 <;> simp_all [Addr.add]
    by_cases hm0 : ys.length = 0
    · have hy : ys = [] := List.length_eq_zero_iff.1 hm0
      subst hy
      have hr := run_append_room (w := w) (P := Try.prog) 33 33 3 i0 Try.underlying33 hi q 0 0 #[] hq ad 0 c [] (by simp) (fun j u hj => by simp at hj) (fun u hu => by cases hu) (Nat.le_refl _) (by simp)
      have e : (Array.toList (#[] : Array Value)).take (0 * i0.size) ++ [] ++ (Array.toList (#[] : Array Value)).drop (0 * i0.size + ([] : List Value).length) = [] := by simp
      rw [e] at hr
      have hh : (w.setRow q #[]).heap[q]? = some (.cells #[] 3 (0, 0)) := setRow_heap w q #[] #[] 3 (0, 0) hq
      refine ⟨_, _, hr, ⟨rfl, .inr ⟨q, 0, #[], rfl, hbq, hh, Nat.le_refl _, Nat.zero_le _, rfl, rfl⟩⟩, ⟨rfl, rfl, rfl, by simp, fun k hk => ?_⟩⟩
      by_cases hkq : k = q
      · subst hkq
        rw [hh]
        exact hq.symm
      · exact setRow_other w q k _ hkq
    · have hr := run_append_grow (w := w) (P := Try.prog) 33 33 3 i0 (.int .i64 0) Try.underlying33 hi hz0 ⟨q, 0, none⟩ 0 0 [] (by simp) (fun j v hj => by simp at hj) ad ys.length c (ys.map (Value.int .i64)) (by simp [hz1]) hcells (by omega) (by omega) (growslice_fits (by omega) (by rw [hz2]; omega))
      have k := own_grown w base (0 + ys.length) (grownCap w (0 + ys.length) 0 3) ([] ++ ys) (by omega) (by simp) (grownCap_ge _ _ _ _) (grownCap_le_maxLen _ _ _ _ (by unfold maxLen; omega))
      exact ⟨_, _, hr, by simpa using k, (Below.refl _ _).drew.alloc (Nat.le_refl _) _⟩
/-- .. as a step of a region. -/
theorem step_app {ops : Array Oper} {o : Oper} {a : Act} {w : World} {K : Act → World → Prop} {Q : Exit → Act → World → Prop} {E : Prop} (hg : o.guard = none) (d x : Operand)
    (hop : o.op = Op.call { callee := Callee.builtin Builtin.append, args := #[d, x], argTypes := #[33, 33] }) (v u : Value) (hd : a.eval d = v) (hx : a.eval x = u) {v' : Value} {w' : World}
    (hr : (Builtin.append_ #[33, 33] o.type #[v, u]).run Try.prog w = .ok v' w') (hK : K (a.put o.dst v') w') {T : Array Value} (hT : a.tmps = T) : if Region.wanted o (yielded ops T) = true then Oper.wp Try.prog o a w K Q else E := by
  have hw : Region.wanted o (yielded ops T) = true := by simp [Region.wanted, hg]
  rw [if_pos hw]
  unfold Oper.wp
  simp [execOp, hop, resolve, invoke, builtin, hd, hx, hr, Result.andThen]
  exact hK

theorem wp_worldS {P : Program} {c : Code} {Q : Exit → Act → World → Prop} {a : Act} {w : World} (h : ∀ W, W = w → c.wp P Q a W) : c.wp P Q a w := h w rfl
/-- Two values that own no block together. -/
def apart (u v : Value) : Prop := ∀ g, u.ownBlock = some g → v.ownBlock ≠ some g
theorem ORow.lo {w : World} {base : Nat} {v : Value} {xs : List Int} (h : ORow w base v xs) : ∀ g, v.ownBlock = some g → base ≤ g ∧ g < w.heap.size := by
  intro g hg
  rcases h.cases with ⟨rfl, rfl⟩ | ⟨g', cap, cur, rfl, h1, h2, -⟩
  · cases hg
  · have e : g' = g := by simpa [Value.ownBlock] using hg
    subst e
    exact ⟨h1, Blk.lt (show Blk w g' cur 3 from h2)⟩
theorem apart_new {w w1 : World} {base : Nat} {u v : Value} {xs ys : List Int} (hu : ORow w base u xs) (hv : ORow w1 w.heap.size v ys) : apart u v := fun g h1 h2 => by
  have := (hu.lo g h1).2
  have := (hv.lo g h2).1
  omega
theorem ORow.other {w : World} {base : Nat} {v : Value} {xs : List Int} (h : ORow w base v xs) {a : Addr} (hne : ∀ g, v.ownBlock = some g → g ≠ a.block) (u : Value) : ORow (w.setCell a u) base v xs := by
  rcases h.cases with ⟨rfl, rfl⟩ | ⟨g, cap, cur, rfl, h1, h2, h3, h4, h5, h6⟩
  · exact ORow.nil _ _
  · exact ORow.mk' rfl h1 (Blk.other (show Blk w g cur 3 from h2) (hne g rfl) u) h3 h4 h5 h6
def Ch1 (w : World) (M : Nat) (R : Nat → List Int) (u0 : Value) : Prop := ORow w M u0 (R 0)
def Ch2 (w : World) (M : Nat) (R : Nat → List Int) (u0 u1 : Value) : Prop := Ch1 w M R u0 ∧ ORow w M u1 (R 1) ∧ apart u0 u1
def Ch3 (w : World) (M : Nat) (R : Nat → List Int) (u0 u1 u2 : Value) : Prop := Ch2 w M R u0 u1 ∧ ORow w M u2 (R 2) ∧ apart u0 u2 ∧ apart u1 u2
def Ch4 (w : World) (M : Nat) (R : Nat → List Int) (u0 u1 u2 u3 : Value) : Prop := Ch3 w M R u0 u1 u2 ∧ ORow w M u3 (R 3) ∧ apart u0 u3 ∧ apart u1 u3 ∧ apart u2 u3
section
variable {w w' w1 : World} {M : Nat} {R : Nat → List Int} {u0 u1 u2 u3 : Value}
theorem Ch2.below (h : Ch2 w M R u0 u1) (hb : Below w.heap.size w w') : Ch2 w' M R u0 u1 := ⟨ORow.below h.1 hb (Nat.le_refl _), h.2.1.below hb (Nat.le_refl _), h.2.2⟩
theorem Ch3.below (h : Ch3 w M R u0 u1 u2) (hb : Below w.heap.size w w') : Ch3 w' M R u0 u1 u2 := ⟨h.1.below hb, h.2.1.below hb (Nat.le_refl _), h.2.2⟩
theorem Ch4.below (h : Ch4 w M R u0 u1 u2 u3) (hb : Below w.heap.size w w') : Ch4 w' M R u0 u1 u2 u3 := ⟨h.1.below hb, h.2.1.below hb (Nat.le_refl _), h.2.2⟩
theorem Ch1.next (h : Ch1 w M R u0) (hb : Below w.heap.size w w1) (hM : M ≤ w.heap.size) (hO : ORow w1 w.heap.size u1 (R 1)) : Ch2 w1 M R u0 u1 := ⟨ORow.below h hb (Nat.le_refl _), hO.mono hM, apart_new h hO⟩
theorem Ch2.next (h : Ch2 w M R u0 u1) (hb : Below w.heap.size w w1) (hM : M ≤ w.heap.size) (hO : ORow w1 w.heap.size u2 (R 2)) : Ch3 w1 M R u0 u1 u2 := ⟨h.below hb, hO.mono hM, apart_new h.1 hO, apart_new h.2.1 hO⟩
theorem Ch3.next (h : Ch3 w M R u0 u1 u2) (hb : Below w.heap.size w w1) (hM : M ≤ w.heap.size) (hO : ORow w1 w.heap.size u3 (R 3)) : Ch4 w1 M R u0 u1 u2 u3 := ⟨h.below hb, hO.mono hM, apart_new h.1.1 hO, apart_new h.1.2.1 hO, apart_new h.2.1 hO⟩
end
def MP.own (base : Nat) (xs : List Int) : MP := ⟨fun v w => ORow w base v xs, fun _ _ _ h hb => h.below hb (Nat.le_refl _)⟩
def MX.c2 (M : Nat) (R : Nat → List Int) : MX := ⟨fun x v w => Ch2 w M R (x 1) v, fun _ _ _ _ h hb => h.below hb, [1], fun x y v w h => by rw [h 1 (by simp)]; exact id⟩
def MX.c3 (M : Nat) (R : Nat → List Int) : MX := ⟨fun x v w => Ch3 w M R (x 1) (x 5) v, fun _ _ _ _ h hb => h.below hb, [1, 5], fun x y v w h => by rw [h 1 (by simp), h 5 (by simp)]; exact id⟩
def MX.c4 (M : Nat) (R : Nat → List Int) : MX := ⟨fun x v w => Ch4 w M R (x 1) (x 5) (x 10) v, fun _ _ _ _ h hb => h.below hb, [1, 5, 10], fun x y v w h => by rw [h 1 (by simp), h 5 (by simp), h 10 (by simp)]; exact id⟩
/-- The row of the four rows. -/
def Quad (w : World) (M : Nat) (R : Nat → List Int) (u0 u1 u2 u3 v : Value) : Prop := Ch4 w M R u0 u1 u2 u3 ∧ ∃ q, v = .slice (some ⟨q, 0, none⟩) 4 4 ∧ M ≤ q ∧ Blk w q #[u0, u1, u2, u3] 33 ∧
  apart u0 (.slice (some ⟨q, 0, none⟩) 4 4) ∧ apart u1 (.slice (some ⟨q, 0, none⟩) 4 4) ∧ apart u2 (.slice (some ⟨q, 0, none⟩) 4 4) ∧ apart u3 (.slice (some ⟨q, 0, none⟩) 4 4)
theorem Quad.below {w w' : World} {M : Nat} {R : Nat → List Int} {u0 u1 u2 u3 v : Value} (h : Quad w M R u0 u1 u2 u3 v) (hb : Below w.heap.size w w') : Quad w' M R u0 u1 u2 u3 v := by
  obtain ⟨h1, q, h2, h3, h4, h5⟩ := h
  exact ⟨h1.below hb, q, h2, h3, h4.below hb h4.lt, h5⟩
theorem apart_end {w : World} {M : Nat} {u : Value} {xs : List Int} (h : ORow w M u xs) : apart u (.slice (some ⟨w.heap.size, 0, none⟩) 4 4) := fun g h1 h2 => by
  have h3 := (h.lo g h1).2
  have e : w.heap.size = g := by simpa [Value.ownBlock] using h2
  omega
theorem Ch4.quad {w : World} {M : Nat} {R : Nat → List Int} {u0 u1 u2 u3 : Value} (h : Ch4 w M R u0 u1 u2 u3) (hM : M ≤ w.heap.size) : Quad (w.alloc (.cells #[u0, u1, u2, u3] 33)) M R u0 u1 u2 u3 (.slice (some ⟨w.heap.size, 0, none⟩) 4 4) :=
  ⟨h.below ((Below.refl _ _).alloc (Nat.le_refl _) _), w.heap.size, rfl, hM, Blk.new _ _ _, apart_end h.1.1.1, apart_end h.1.1.2.1, apart_end h.1.2.1, apart_end h.2.1⟩
def MX.quad (M : Nat) (R : Nat → List Int) : MX := ⟨fun x v w => Quad w M R (x 1) (x 5) (x 10) (x 16) v, fun _ _ _ _ h hb => h.below hb, [1, 5, 10, 16], fun x y v w h => by rw [h 1 (by simp), h 5 (by simp), h 10 (by simp), h 16 (by simp)]; exact id⟩
end Go.Proofs.Ytpnlhkpibgngbaa

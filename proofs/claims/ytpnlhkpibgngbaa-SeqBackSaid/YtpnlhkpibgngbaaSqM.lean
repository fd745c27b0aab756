/- SeqBack returns true and keeps what was there, for every row and numbers. -/
import Derived.Test.YtpnlhkpibgngbaaSqE
set_option linter.unusedSimpArgs false
set_option linter.unusedVariables false
namespace Go.Proofs.Ytpnlhkpibgngbaa
open Go.RowKit Go.Sort

theorem back_rem (xs : List Int) (x : Int) (i : Nat) (hi : i ≤ xs.length) : remF (putF xs [x] i) ((i : Int) + 1) = xs := by
  have hl := putF_len xs [x] i hi
  simp at hl
  unfold remF
  rw [if_neg (by omega), show ((i : Int) + 1 - 1).toNat = i by omega]
  have l0 : (xs.take i).length = i := by simp; omega
  have l1 : (xs.take i).drop (i + 1) = [] := List.drop_of_length_le (by omega)
  simp [cutF, putF, List.take_append, List.drop_append, l0, l1]
theorem back_parts (xs : List Int) (i : Nat) (hi : i ≤ xs.length) : partF xs 1 ((i : Int) + 1) ++ partF xs ((i : Int) + 1) ((xs.length : Int) + 1) = xs := by
  have e1 : partF xs 1 ((i : Int) + 1) = xs.take i := by
    unfold partF
    rw [show (max (1 : Int) 1 - 1).toNat = 0 by omega, show (min ((i : Int) + 1) ((xs.length : Int) + 1) - max (1 : Int) 1).toNat = i by omega, List.drop_zero]
  have e2 : partF xs ((i : Int) + 1) ((xs.length : Int) + 1) = xs.drop i := by
    unfold partF
    rw [show (max ((i : Int) + 1) 1 - 1).toNat = i by omega, show (min ((xs.length : Int) + 1) ((xs.length : Int) + 1) - max ((i : Int) + 1) 1).toNat = xs.length - i by omega, List.take_of_length_le (by simp)]
  rw [e1, e2, List.take_append_drop]
theorem back_at (xs : List Int) (x : Int) (i : Nat) (hi : i ≤ xs.length) : (putF xs [x] i)[i]? = some x := by
  have l0 : (xs.take i).length = i := by simp; omega
  simp [putF, List.getElem?_append, l0]

/-- 'append(own, row...)', guarded, the guard being open. -/
theorem wpList_appg {ops : Array Oper} {rest : List Oper} {o : Oper} {a : Act} {Q : Exit → Act → World → Prop} {w : World} (hw : Region.wanted o (yielded ops a.tmps) = true) (s x : Operand)
    (ho : o.op = .call { callee := .builtin .append, args := #[s, x], argTypes := #[33, 33] }) (base : Nat) (v : Value) (xs ys : List Int) (hs : a.eval s = v) (hown : ORow w base v xs)
    (ax : Option Addr) (m c : Nat) (hx : a.eval x = .slice ax m c) (hI : IRow w ax m ys) (h0 : ax = none → c = 0) (hl : xs.length + m ≤ 10000000) (hb : base ≤ w.heap.size)
    (h : ∀ v' w', ORow w' base v' (xs ++ ys) → Below base w w' → wpList Try.prog ops Q rest (a.put o.dst v') w') : wpList Try.prog ops Q (o :: rest) a w := by
  obtain ⟨i0, hi, hz0, hz1, hz2⟩ := info_parts infoI3
  have hrun : ∃ v' w', (Builtin.append_ #[33, 33] o.type #[v, .slice ax m c]).run Try.prog w = .ok v' w' ∧ ORow w' base v' (xs ++ ys) ∧ Below base w w' := by
    obtain ⟨rfl, -, hc⟩ := hI
    cases ax with
    | none =>
      have hy : ys = [] := by
        rcases Nat.eq_zero_or_pos ys.length with h | h
        · exact List.length_eq_zero_iff.1 h
        · obtain ⟨b, o, hh, -⟩ := hc h
          cases hh
      subst hy
      obtain rfl := h0 rfl
      exact ⟨v, w, run_append_owned_none w base 33 o.type 3 i0 1 Try.underlying33 hi v xs.length (xs.map (Value.int .i64)) hown, by rw [List.append_nil]; exact hown, Below.refl _ _⟩
    | some ad =>
      obtain ⟨v', w', hr, h1, h2, -⟩ := run_append_own (w := w) (P := Try.prog) base 33 o.type 3 i0 (.int .i64 0) 1 8 Try.underlying33 hi hz0 hz1 hz2 rfl (by decide) v xs.length (xs.map (Value.int .i64)) hown ad ys.length c (ys.map (Value.int .i64)) (by simp) (fun j u hj => by
        have hj' : j < ys.length := by
          rcases Nat.lt_or_ge j ys.length with h | h
          · exact h
          · rw [List.getElem?_eq_none (by simp; omega)] at hj; cases hj
        obtain ⟨b, q, he, hl, hcell⟩ := hc (by omega)
        cases he
        simp only [List.getElem?_map] at hj
        obtain ⟨y, hy, rfl⟩ := Option.map_eq_some_iff.1 hj
        have := hcell j y hy
        by_cases h0 : j = 0 <;> simp_all [Addr.add]) (one_ints ys) (by unfold maxLen; omega) (by omega) hb
      exact ⟨v', w', hr, by unfold ORow; simpa using h1, grown_below hown h2 hb⟩
  obtain ⟨v', w', hr, h1, h2⟩ := hrun
  refine wpList_step fun K hK => ?_
  rw [if_pos hw]
  unfold Oper.wp
  simp [execOp, ho, resolve, invoke, builtin, hs, hx, hr, Result.andThen]
  exact hK _ _ (h v' w' h1 h2)

set_option maxRecDepth 100000 in
set_option maxHeartbeats 2000000 in
theorem back_any (al : Option Addr) (n cl : Nat) (xs : List Int) (at1 one : Int) (w : World) (h : n ≤ 500 → IRow w al n xs) (hcl : n ≤ cl) :
    Calls Try.prog 6 #[.slice al n cl, .int .i64 at1, .int .i64 one] w fun e w' => e = .returned (.bool true) ∧ Below w.heap.size w w' := by
  go_enter Try.func6, Try.ntmps6
  go_wp2_with fail
  refine (sawake_any _).mono ?_
  rintro e w1 ⟨rfl, b1⟩
  have HN := Lib.hid h
  clear h
  by_cases g1 : 500 < n
  · have g1' : (500 : Int) < (n : Int) := by omega
    go_wp2_with fail
    refine (sawake_any _).mono ?_
    rintro e w2 ⟨rfl, b2⟩
    go_wp2_with fail
    go_light
    go_ret
    exact ⟨rfl, b1.trans (b2.mono b1.size)⟩
  have g1' : (n : Int) ≤ 500 := by omega
  have hX := HN.out (by omega)
  obtain rfl := hX.1
  have X := Lib.hid (hX.below b1 (Nat.le_refl _))
  clear hX HN
  have hp : (0 : Int) < (xs.length : Int) + 1 := by omega
  have t1 := Int.tmod_lt_of_pos at1 hp
  have t2 := Int.lt_tmod_of_pos at1 hp
  obtain ⟨i, hi, hin⟩ : ∃ i : Nat, (at1.tmod ((xs.length : Int) + 1) + (xs.length : Int) + 1) % ((xs.length : Int) + 1) = i ∧ i ≤ xs.length :=
    ⟨((at1.tmod ((xs.length : Int) + 1) + (xs.length : Int) + 1) % ((xs.length : Int) + 1)).toNat, by have := Int.emod_nonneg (at1.tmod ((xs.length : Int) + 1) + (xs.length : Int) + 1) (show (xs.length : Int) + 1 ≠ 0 by omega); omega, by have := Int.emod_lt_of_pos (at1.tmod ((xs.length : Int) + 1) + (xs.length : Int) + 1) hp; omega⟩
  have i1 : (i : Int) ≤ 500 := by omega
  have t5 : (xs.length : Int) + 1 ≠ 0 := by omega
  go_wp2_with fail
  have P1 : Hid (PRow (w1.alloc (Obj.cells #[Value.int IntKind.i64 one] 3)) (w1.alloc (Obj.cells #[Value.int IntKind.i64 one] 3)).heap.size (some ⟨w1.heap.size, 0, none⟩) [one]) := fun _ => ⟨w1.heap.size, #[.int .i64 one], rfl, by simp, Blk.new w1 #[.int .i64 one] 3, rfl⟩
  refine (seqins_any _ _ _ _ _ 1 _ xs [one] _ (X.out.below ((Below.refl _ _).alloc (Nat.le_refl _) _) (Nat.le_refl _)) (by omega) rfl (by omega) P1.out).mono ?_
  rintro e w2 ⟨v, rfl, hO, hb2⟩
  have k2 : Below w1.heap.size w1 w2 := ((Below.refl _ _).alloc (Nat.le_refl _) _).trans (hb2.mono (by simp))
  have hpl : plF xs.length (1 + (i : Int)) = i := by unfold plF; rw [if_neg (by omega), if_neg (by omega)]; omega
  rw [hpl] at hO
  have hlen := putF_len xs [one] i hin
  simp only [List.length_cons, List.length_nil, Nat.zero_add] at hlen
  obtain ⟨g, cap, cur, hv, h1, h2, h3, h4, h5, h6⟩ : ∃ g cap cur, v = .slice (some ⟨g, 0, none⟩) (putF xs [one] i).length cap ∧ w1.heap.size ≤ g ∧ w2.heap[g]? = some (.cells cur 3 (0, 0)) ∧ (putF xs [one] i).length ≤ cap ∧ cap ≤ maxLen ∧ cur.size = cap ∧ cur.toList.take (putF xs [one] i).length = (putF xs [one] i).map (Value.int .i64) := by
    rcases hO.cases with ⟨-, he⟩ | ⟨g, cap, cur, hv, h1, h2, h3⟩
    · rw [he] at hlen; simp at hlen
    · exact ⟨g, cap, cur, hv, by simp at h1; omega, h2, h3⟩
  rw [hlen] at hv
  subst hv
  have zz : w2.cell? ⟨g, i, none⟩ = some (.int .i64 one) := by
    have hgb : Blk w2 g cur 3 := h2
    rw [hgb.cell]
    have : (cur.toList.take (putF xs [one] i).length)[i]? = ((putF xs [one] i).map (Value.int .i64))[i]? := by rw [h6]
    rw [List.getElem?_take_of_lt (by omega), Array.getElem?_toList, List.getElem?_map, back_at xs one i hin] at this
    exact this
  have IM : Hid (IRow w2 (some ⟨g, 0, none⟩) (xs.length + 1) (putF xs [one] i)) := by
    obtain ⟨a, c, e, hI, -⟩ := hO.irow (by omega)
    rw [hlen] at e hI
    cases e
    exact hI
  have X2 := Lib.hid (X.out.below k2 (Nat.le_refl _))
  clear P1 hO hb2 h1 h2 h3 h4 h5 h6
  have i0 : (0 : Int) ≤ (i : Int) := Int.natCast_nonneg _
  have i2 : (i : Int) < (xs.length : Int) + 1 := by omega
  clear hi t1 t2 t5 hpl hlen
  go_wp2_with fail
  have k1 : Below w.heap.size w w2 := b1.trans (k2.mono b1.size)
  have IR := Lib.hid (fun w' (hb : Below w2.heap.size w2 w') => X2.out.below hb (Nat.le_refl _))
  refine (seqrev_any _ _ _ xs _ X2.out (by omega)).mono ?_
  rintro e w3 ⟨v, rfl, hO, hb3⟩
  obtain ⟨a3, c3, e3, I3, -⟩ := hO.irow (by simp; omega)
  rw [List.length_reverse] at e3 I3
  subst e3
  have J3 := Lib.hid I3
  clear I3 hO k2 X zz
  go_wp2_with fail
  refine (seqrev_any _ _ _ xs.reverse _ J3.out (by omega)).mono ?_
  rintro e w4 ⟨v, rfl, hO, hb4⟩
  have k4 : Below w2.heap.size w2 w4 := hb3.trans (hb4.mono hb3.size)
  rw [List.reverse_reverse] at hO
  obtain ⟨a4, c4, e4, I4, -⟩ := hO.irow (by omega)
  subst e4
  have J4 := Lib.hid I4
  clear I4 hO J3 hb3 hb4
  go_wp2_with fail
  refine (ints_any _ _ _ _ _ _ xs xs _ J4.out (IR.out _ k4)).mono ?_
  rintro e w5 ⟨rfl, hb5⟩
  rw [beq_self_eq_true]
  have k5 : Below w2.heap.size w2 w5 := k4.trans (hb5.mono k4.size)
  clear J4 hb5 k4
  go_wp2_with fail
  refine (seqrem_any _ _ _ _ (putF xs [one] i) _ (IM.out.below k5 (Nat.le_refl _)) (by omega)).mono ?_
  rintro e w6 ⟨v, rfl, hO, hb6⟩
  rw [Int.add_comm, back_rem xs one i hin] at hO
  obtain ⟨a6, c6, e6, I6, -⟩ := hO.irow (by omega)
  subst e6
  have J6 := Lib.hid I6
  have k6 : Below w2.heap.size w2 w6 := k5.trans (hb6.mono k5.size)
  clear I6 hO hb6 k5
  go_wp2_with fail
  refine (ints_any _ _ _ _ _ _ xs xs _ J6.out (IR.out _ k6)).mono ?_
  rintro e w7 ⟨rfl, hb7⟩
  rw [beq_self_eq_true]
  have k7 : Below w2.heap.size w2 w7 := k6.trans (hb7.mono k6.size)
  clear J6 hb7 k6
  go_wp2_with fail
  refine (seqpart_any _ _ _ _ _ xs _ (IR.out _ k7) (by omega) hcl (by omega) (by omega)).mono ?_
  rintro e w8 ⟨v8, rfl, hO8, hb8⟩
  have k8 : Below w2.heap.size w2 w8 := k7.trans (hb8.mono k7.size)
  have H8 := Lib.hid (hO8.mono k7.size)
  clear hO8 hb8 k7
  go_wp2_with fail
  refine (seqpart_any _ _ _ _ _ xs _ (IR.out _ k8) (by omega) hcl (by omega) (by omega)).mono ?_
  rintro e w9 ⟨v9, rfl, hO9, hb9⟩
  have k9 : Below w2.heap.size w2 w9 := k8.trans (hb9.mono k8.size)
  have H89 := Lib.hid (H8.out.below hb9 (Nat.le_refl _))
  obtain ⟨a9, c9, e9, I9, -⟩ := hO9.irow (by unfold partF; simp; omega)
  have n9 : a9 = none → c9 = 0 := fun h => by
    subst e9
    rcases hO9.cases with ⟨he, -⟩ | ⟨g, cap, cur, he, -⟩
    · simp only [Value.slice.injEq] at he; exact he.2.2
    · simp only [Value.slice.injEq] at he; rw [h] at he; cases he.1
  subst e9
  have J9 := Lib.hid I9
  have N9 := Lib.hid n9
  clear I9 n9 hO9 H8 hb9
  go_wp2_with (at_builtin; refine wpList_appg rfl _ _ rfl w2.heap.size _ _ _ rfl H89.out _ _ _ rfl J9.out N9.out ?c1 k9.size ?_)
  case c1 => unfold partF; simp; omega
  intro v10 w10 hO10 hb10
  rw [Int.add_comm 1 (i : Int), back_parts xs i hin] at hO10
  obtain ⟨a10, c10, e10, I10, -⟩ := hO10.irow (by omega)
  subst e10
  have J10 := Lib.hid I10
  have k10 : Below w2.heap.size w2 w10 := k9.trans hb10
  clear I10 hO10 hb10 H89 J9 N9
  go_wp2_with fail
  refine (ints_any _ _ _ _ _ _ xs xs _ J10.out (IR.out _ k10)).mono ?_
  rintro e w11 ⟨rfl, hb11⟩
  rw [beq_self_eq_true]
  go_wp2_with fail
  go_light
  go_ret
  exact ⟨rfl, k1.trans ((k10.trans (hb11.mono k10.size)).mono k1.size)⟩
end Go.Proofs.Ytpnlhkpibgngbaa

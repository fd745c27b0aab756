/- The document's writing of a number. -/
import Derived.Test.YtaoobajokhcimaaGreatDoorDiQ
import Derived.Test.YtaoobajokhcimaaGreatDoorMgA
import Derived.BigQuiet
set_option linter.unusedSimpArgs false
set_option linter.unusedVariables false
set_option linter.constructorNameAsVariable false
namespace Go.Proofs.YtaoobajokhcimaaGreatDoor
open Go.RowKit

theorem orow_ne {w : World} {base : Nat} {v : Value} {xs : List Int} (h : ORow w base v xs) {A : Nat} {cs : Array Value} (hA : Blk w A cs 106) : v.ownBlock ≠ some A := by
  rcases h.cases with ⟨rfl, _⟩ | ⟨g, cap, cur, rfl, h1, h2, _⟩
  · simp [Value.ownBlock]
  · intro e
    simp [Value.ownBlock] at e
    subst e
    unfold Blk at hA
    rw [hA] at h2
    simp at h2
theorem ORow.big {w : World} {base : Nat} {v : Value} {xs : List Int} (h : ORow w base v xs) {A i : Nat} {cs : Array Value} (hA : Blk w A cs 106) (u : Value) : ORow (w.setCell ⟨A, i, none⟩ u) base v xs := by
  have hne := orow_ne h hA
  rcases h.cases with ⟨rfl, rfl⟩ | ⟨g, cap, cur, rfl, h1, h2, h3, h4, h5, h6⟩
  · exact ORow.nil _ _
  · have : g ≠ A := fun e => hne (by simp [Value.ownBlock, e])
    exact ORow.mk' rfl h1 (Blk.other (show Blk w g cur 3 from h2) this u) h3 h4 h5 h6
/-- 'append(own, x)', where such blocks stay. -/
theorem wpList_appB {ops : Array Oper} {rest : List Oper} {o : Oper} {a : Act} {Q : Exit → Act → World → Prop} {w : World} (hgd : o.guard = none) (s x : Operand)
    (ho : o.op = .call { callee := .builtin .append, args := #[s, x], argTypes := #[89, 89] }) (base : Nat) (v : Value) (xs : List Int) (y : Int) (hs : a.eval s = v) (hown : ORow w base v xs)
    (ad : Addr) (c : Nat) (hx : a.eval x = .slice (some ad) 1 c) (hI : IRow w (some ad) 1 [y]) (hl : xs.length + 1 ≤ 10000000) (hb : base ≤ w.heap.size)
    (h : ∀ v' w', ORow w' base v' (xs ++ [y]) → Below base w w' → (∀ A cs, Blk w A cs 106 → Blk w' A cs 106) → wpList Tryz.prog ops Q rest (a.put o.dst v') w') : wpList Tryz.prog ops Q (o :: rest) a w := by
  obtain ⟨i0, hi, hz0, hz1, hz2⟩ := info_parts infoI3
  obtain ⟨-, -, hc⟩ := hI
  refine wpList_append_own w hgd s x 89 ho base 3 i0 (.int .i64 0) 1 8 Tryz.underlying89 hi hz0 hz1 hz2 rfl (by decide) v xs.length (xs.map (Value.int .i64)) hs hown ad 1 c [.int .i64 y] hx rfl (fun j u hj => ?_) (by simp [Value.oneCell']) (by unfold maxLen; omega) (by omega) hb (fun v' w' h1 h2 _ => h v' w' ?_ (grown_below hown h2 hb) ?_)
  · obtain ⟨b, q, he, hl', hcell⟩ := hc (by omega)
    cases he
    match j, hj with
    | 0, hj => simp at hj; subst hj; simpa [Addr.add] using hcell 0 y rfl
    | j + 1, hj => simp at hj
  · unfold ORow
    simpa using h1
  · intro A cs hA
    have hne := orow_ne hown hA
    have hlt := Blk.lt hA
    unfold Blk at *
    rw [h2.block A hlt hne.symm, hA]
theorem chr_cut (d : Nat) (h : d ≤ 9) : (⟨#[48, 49, 50, 51, 52, 53, 54, 55, 56, 57]⟩ : ByteArray).extract d (d + 1) = ⟨[chr (d : Int)].toArray⟩ := by
  match d, h with
  | 0, _ => rfl
  | 1, _ => rfl
  | 2, _ => rfl
  | 3, _ => rfl
  | 4, _ => rfl
  | 5, _ => rfl
  | 6, _ => rfl
  | 7, _ => rfl
  | 8, _ => rfl
  | 9, _ => rfl
set_option maxRecDepth 100000 in
set_option maxHeartbeats 2000000 in
theorem rformat_any (n : Int) (s : Nat) (h0 : -9223372036854775808 ≤ n) (h1 : n ≤ 9223372036854775807) (hs : s ≤ 9) (w : World) : Calls Tryz.prog 53 #[.int .i64 n, .int .i64 (s : Int)] w fun e w' =>
    e = .returned (.string ⟨(formatF n s).toArray⟩) ∧ Below w.heap.size w w' := by
  have hX := digs_spec n.natAbs
  have lX := digs_len n.natAbs (by omega)
  have OA := Lib.hid (fun w => rof_any n h0 h1 w)
  obtain ⟨b1, hb1⟩ : ∃ b1, b1 = decide (n < 0) := ⟨_, rfl⟩
  have hfd := format_doc n s
  have hpd : padD (digs n.natAbs) s = digs n.natAbs ++ List.replicate (s + 1 - (digs n.natAbs).length) 0 := rfl
  have gX := hX.2.1
  obtain ⟨X, hXX⟩ : ∃ X, X = digs n.natAbs := ⟨_, rfl⟩
  rw [← hb1, ← hXX] at OA
  rw [← hXX] at hfd hpd gX lX
  have gD := padD_Dg gX s
  obtain ⟨D, hD⟩ : ∃ D, D = padD X s := ⟨_, rfl⟩
  rw [← hD] at hfd hpd gD
  have hDl : D.length ≤ 29 := by rw [hpd, List.length_append, List.length_replicate]; omega
  obtain ⟨F, hF⟩ : ∃ F, F = formatF n s := ⟨_, rfl⟩
  rw [← hF] at hfd ⊢
  have HFD := Lib.hid hfd
  have HPD := Lib.hid hpd
  have GD := Lib.hid gD
  have hsign := Lib.hid hb1
  clear hX hXX hb1 hfd hpd gX gD hD hF
  go_enter Tryz.func53, Tryz.ntmps53
  go_wp2_with (go_at_call 84; with_reducible refine (OA.out _).mono ?_
               rintro e w1 ⟨v0, rfl, hO, hb⟩
               obtain ⟨g0, c0, rfl, -⟩ := hO.lit (by omega)
               have HO0 := Lib.hid hO
               have hw1 := hb
               clear hO hb)
  go_loopg [] (s + 1 - X.length) (fun m wr => ∃ (j : Nat) (v : Value), m + j = s + 1 - X.length ∧ Below w.heap.size w wr ∧ Blk wr w1.heap.size #[.bool b1, v] 106 ∧ ORow wr w.heap.size v (X ++ List.replicate j 0))
  case atStart => exact ⟨0, _, by omega, hw1.alloc hw1.size _, Blk.here rfl rfl, by simpa using HO0.out.below ((Below.refl w1.heap.size w1).alloc (Nat.le_refl _) _) (Nat.le_refl _)⟩
  case round =>
    obtain ⟨j, v, hm, hwr, hA, hO⟩ := hrel
    have hjl : (X ++ List.replicate j (0 : Int)).length = X.length + j := by simp
    have kA : w1.heap.size < wr.heap.size := hA.lt
    obtain ⟨g, c, hv, hI, hgc⟩ := hO.irow (by omega)
    rw [hjl] at hv hI
    subst hv
    obtain ⟨cA0, cA1, fA0, fA1⟩ := hA.two
    have H := Lib.hid hO
    have HI := Lib.hid hI
    have HA := Lib.hid hA
    clear hO hI hA
    by_cases hle : X.length + j ≤ s
    · have i1 : decide (((X.length + j : Nat) : Int) ≤ (s : Int)) = true := by simp; omega
      have i2 : (X.length : Int) + (j : Int) ≤ (s : Int) := by omega
      go_wp2_with (at_builtin; refine wpList_appB rfl _ _ rfl w.heap.size _ _ 0 rfl (H.out.below ((Below.refl _ _).alloc (Nat.le_refl _) (.cells #[.int .i64 0] 3)) (Nat.le_refl _)) ⟨wr.heap.size, 0, none⟩ 1 rfl (irow1 _ _ _) ?c1 ?c2 ?_)
      case c1 => simp; omega
      case c2 => have := hwr.size; simp; omega
      intro v' w2 hO2 hb2 hK2
      have hA2 := hK2 _ _ (HA.out.alloc (.cells #[.int .i64 0] 3))
      have e2 : X ++ (List.replicate j (0 : Int) ++ [0]) = X ++ List.replicate (j + 1) 0 := by rw [List.replicate_succ']
      first | rw [e2] at hO2 | (simp only [List.append_assoc] at hO2; rw [e2] at hO2)
      have hjl2 : (X ++ List.replicate (j + 1) (0 : Int)).length = X.length + j + 1 := by simp; omega
      obtain ⟨g', c', hv', -⟩ := hO2.irow (by omega)
      rw [hjl2] at hv'
      subst hv'
      have hw2 : Below w.heap.size w w2 := (hwr.alloc hwr.size _).trans hb2
      have hkA2 : w1.heap.size < w2.heap.size := hA2.lt
      have H2 := Lib.hid hO2
      have HA2 := Lib.hid hA2
      clear cA0 cA1 fA0 fA1 hO2 hA2 hK2 hb2
      obtain ⟨cA0, cA1, fA0, fA1⟩ := HA2.out.two
      go_wp2_with fail
      go_roundg (gk - 1)
      case measure => omega
      case rel => exact ⟨j + 1, _, by omega, by have := hw1.size; exact hw2.setCell (by simpa using this) _, HA2.out.set 1 _, H2.out.big HA2.out _⟩
    · have i1 : decide (((X.length + j : Nat) : Int) ≤ (s : Int)) = false := by simp; omega
      have i2 : ¬ (X.length : Int) + (j : Int) ≤ (s : Int) := by omega
      have hDj : D = X ++ List.replicate j 0 := by rw [HPD.out]; congr 2; omega
      have hDl2 : D.length = X.length + j := by rw [hDj]; exact hjl
      have hI' : IRow wr g D.length D := by rw [hDl2]; have := HI.out; rw [← hDj] at this; exact this
      have HID := Lib.hid hI'
      have hsl : s < D.length := by omega
      have q0 : (X.length : Int) + (j : Int) = (D.length : Int) := by omega
      have q1 : X.length + j = D.length := hDl2.symm
      clear hDj hDl2 hI' H HI hjl
      obtain ⟨W1, hW1⟩ : ∃ W1, W1 = wr := ⟨_, rfl⟩
      subst hW1
      go_wp2_with fail
      go_loopg [6, 7] (D.length) (fun m sv iv wt => ∃ (i : Nat) (acc : List UInt8), m + i = D.length ∧ iv = .int .i64 (i : Int) ∧ sv = .string ⟨acc.toArray⟩ ∧ acc.length ≤ 2 * i ∧ fmtL s D 0 [] = fmtL s (D.drop i) i acc ∧ Below W1.heap.size W1 wt)
      case atStart => exact ⟨0, [], by omega, rfl, rfl, by simp, rfl, Below.refl _ _⟩
      case round =>
        obtain ⟨i, acc, hmi, rfl, rfl, hal, hfl, hwt⟩ := hrel
        have hi0 : (0 : Int) ≤ (i : Int) := Int.natCast_nonneg _
        have HAt := HA.out.below hwt kA
        have kAt : w1.heap.size < wr.heap.size := HAt.lt
        clear cA0 cA1 fA0 fA1
        obtain ⟨cA0, cA1, fA0, fA1⟩ := HAt.two
        have hsz := ba_size acc
        have j3 : IntKind.i64.wrap ((i : Int) + 1) = (i : Int) + 1 := IntWalk.i64_in _ (by omega)
        by_cases hlt : i < D.length
        · obtain ⟨x, hx, -⟩ := at_lt D hlt
          obtain ⟨p, o, hpo, hpb, y0⟩ := irow_at HID.out hx
          cases hpo
          have z0 := (hwt.cell (p := ⟨p, o + i, none⟩) hpb).trans y0
          have gx := GD.out.at hx
          obtain ⟨dn, hdn⟩ : ∃ dn : Nat, x = (dn : Int) := ⟨x.toNat, by omega⟩
          subst hdn
          have hd9 : dn ≤ 9 := by omega
          have hcut := chr_cut dn hd9
          have j5 : IntKind.i64.wrap ((dn : Int) + 1) = (dn : Int) + 1 := IntWalk.i64_in _ (by omega)
          rw [drop_at hx, fmtL] at hfl
          obtain ⟨CH, hCH⟩ : ∃ CH, chr (dn : Int) = CH := ⟨_, rfl⟩
          rw [hCH] at hcut hfl
          clear hx y0 hCH
          have eA : (⟨[CH].toArray⟩ : ByteArray) ++ ⟨acc.toArray⟩ = ⟨(CH :: acc).toArray⟩ := ba_app [CH] acc
          have eB : (⟨#[46]⟩ : ByteArray) ++ ⟨acc.toArray⟩ = ⟨(46 :: acc).toArray⟩ := ba_app [46] acc
          have eC : (⟨[CH].toArray⟩ : ByteArray) ++ ⟨(46 :: acc).toArray⟩ = ⟨(CH :: 46 :: acc).toArray⟩ := ba_app [CH] (46 :: acc)
          cases e1 : (i == s)
          · rw [e1] at hfl
            simp only [Bool.false_and, Bool.false_eq_true, if_false] at hfl
            have HF := Lib.hid hfl
            have e1' : ((i : Int) == (s : Int)) = false := by simp at e1 ⊢; omega
            have e1n : ¬ i = s := by simpa using e1
            clear hfl e1
            go_upto_region 10 with fail
            go_quiet (fail)
            go_wp2_with fail
            go_roundg (gk - 1)
            case measure => omega
            case rel => exact ⟨i + 1, _, by omega, by go_num, rfl, by simp; omega, HF.out, below_drewN hwt _⟩
          · cases e2 : decide (0 < s)
            · rw [e1, e2] at hfl
              simp only [Bool.true_and, Bool.false_eq_true, if_false] at hfl
              have HF := Lib.hid hfl
              have e1' : ((i : Int) == (s : Int)) = true := by simp at e1 ⊢; omega
              have e2' : decide ((0 : Int) < (s : Int)) = false := by simp at e2 ⊢; omega
              clear hfl
              go_upto_region 10 with fail
              go_quiet (fail)
              go_wp2_with fail
              go_roundg (gk - 1)
              case measure => omega
              case rel => exact ⟨i + 1, _, by omega, by go_num, rfl, by simp; omega, HF.out, below_drewN hwt _⟩
            · rw [e1, e2] at hfl
              simp only [Bool.true_and, if_true] at hfl
              have HF := Lib.hid hfl
              have e1' : ((i : Int) == (s : Int)) = true := by simp at e1 ⊢; omega
              have e2' : decide ((0 : Int) < (s : Int)) = true := by simp at e2 ⊢; omega
              clear hfl
              go_upto_region 10 with fail
              go_quiet (fail)
              go_wp2_with fail
              go_roundg (gk - 1)
              case measure => omega
              case rel => exact ⟨i + 1, _, by omega, by go_num, rfl, by simp; omega, HF.out, below_drewN hwt _⟩
        · have hfin : F = (if n < 0 then [45] else []) ++ acc := by
            rw [← HFD.out, hfl, List.drop_eq_nil_of_le (by omega), fmtL]
          have HFN := Lib.hid hfin
          have i5 : decide ((i : Int) < (D.length : Int)) = false := by simp; omega
          have eD : (⟨#[45]⟩ : ByteArray) ++ ⟨acc.toArray⟩ = ⟨(45 :: acc).toArray⟩ := ba_app [45] acc
          clear hfl hfin
          have hw9 : Below w.heap.size w wr := hwr.trans (hwt.mono hwr.size)
          cases e3 : decide (n < 0)
          · go_wp2_with fail
            go_returns
            refine ⟨?_, hw9⟩
            rw [HFN.out, if_neg (by simpa using e3)]
            rfl
          · go_wp2_with fail
            go_returns
            refine ⟨?_, hw9⟩
            rw [HFN.out, if_pos (by simpa using e3)]
            rfl
end Go.Proofs.YtaoobajokhcimaaGreatDoor

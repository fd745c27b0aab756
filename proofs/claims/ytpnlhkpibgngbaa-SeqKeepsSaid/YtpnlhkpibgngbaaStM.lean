/- SeqKeeps returns true and keeps what was there, for every row and number. -/
import Derived.Test.YtpnlhkpibgngbaaStI
set_option linter.unusedSimpArgs false
set_option linter.unusedVariables false
namespace Go.Proofs.Ytpnlhkpibgngbaa
open Go.RowKit Go.Sort Go.Proofs

theorem dist_pw (n : Int) : ∀ (xs out : List Int), out.Pairwise (fun a b => a.tmod n ≠ b.tmod n) → (xs.foldl (distS n) out).Pairwise (fun a b => a.tmod n ≠ b.tmod n)
  | [], out, h => h
  | x :: xs, out, h => by
    rw [List.foldl_cons]
    refine dist_pw n xs _ ?_
    unfold distS
    split
    · exact h
    · rename_i hn
      rw [List.pairwise_append]
      refine ⟨h, List.pairwise_singleton _ _, fun a ha b hb => ?_⟩
      obtain rfl := List.mem_singleton.1 hb
      intro he
      exact hn (List.any_eq_true.2 ⟨a, ha, by simpa using he⟩)
theorem dist_self (n : Int) : ∀ (xs out : List Int), (out ++ xs).Pairwise (fun a b => a.tmod n ≠ b.tmod n) → xs.foldl (distS n) out = out ++ xs
  | [], out, h => by simp
  | x :: xs, out, h => by
    have e : distS n out x = out ++ [x] := by
      unfold distS
      rw [if_neg]
      intro hc
      obtain ⟨a, ha, hb⟩ := List.any_eq_true.1 hc
      rw [List.pairwise_append] at h
      exact h.2.2 a ha x (List.mem_cons_self ..) (by simpa using hb)
    rw [List.foldl_cons, e, dist_self n xs (out ++ [x]) (by simpa using h)]
    simp
theorem distF_idem (n : Int) (xs : List Int) : distF n (distF n xs) = distF n xs := by
  have h := dist_pw n xs [] List.Pairwise.nil
  have := dist_self n (distF n xs) [] (by simpa [distF] using h)
  simpa [distF] using this
theorem cnt_next {x y : Int} {xs : List Int} {k : Nat} (h : xs[k]? = some y) : (xs.take (k + 1)).count x = (xs.take k).count x + (if y == x then 1 else 0) := by
  rw [List.take_add_one, List.count_append, h]
  simp only [Option.toList, List.count_singleton]
theorem ordd_cnt {κ : Int → Int} {xs ys : List Int} (h : Ordd κ xs ys) (x : Int) : ys.count x = xs.count x := by
  have h1 := h.fil (κ x)
  have e : ∀ l : List Int, (filt κ (κ x) l).count x = l.count x := fun l => by
    unfold filt
    exact List.count_filter (by simp)
  rw [← e ys, h1, e xs]
theorem plc_cnt (x : Int) (xs : List Int) : ∀ j, j ≤ xs.length → (plc (fun y => y == x) xs j).length = (xs.take j).count x
  | 0, _ => rfl
  | j + 1, hj => by
    obtain ⟨y, hy⟩ : ∃ y, xs[j]? = some y := ⟨xs[j], by simp⟩
    rw [plc_next hy, List.length_append, plc_cnt x xs j (by omega), cnt_next hy]
    cases h : (y == x) <;> simp
theorem plc_first {P : Int → Bool} {xs : List Int} : ∀ (j : Nat) (x : Int), xs[j]? = some x → P x = true → ∃ f y, f ≤ j ∧ xs[f]? = some y ∧ P y = true ∧ (plc P xs xs.length)[0]? = some ((f : Int) + 1) := by
  intro j
  induction j using Nat.strongRecOn with
  | ind j ih =>
    intro x hx hP
    by_cases hg : ∃ g y, g < j ∧ xs[g]? = some y ∧ P y = true
    · obtain ⟨g, y, h1, h2, h3⟩ := hg
      obtain ⟨f, z, h4, h5⟩ := ih g h1 y h2 h3
      exact ⟨f, z, by omega, h5⟩
    · have he : plc P xs j = [] := by
        unfold plc
        rw [List.map_eq_nil_iff, List.filter_eq_nil_iff]
        intro g hgj hp
        have hg1 : g < j := by simpa using hgj
        cases hx' : xs[g]? with
        | none =>
          have : j < xs.length := by
            rcases Nat.lt_or_ge j xs.length with h' | h'
            · exact h'
            · rw [List.getElem?_eq_none h'] at hx; cases hx
          rw [List.getElem?_eq_none_iff] at hx'
          omega
        | some y => exact hg ⟨g, y, hg1, hx', by simpa [List.getD, hx'] using hp⟩
      have := (plc_at hx hP).2
      rw [he] at this
      exact ⟨j, x, Nat.le_refl _, hx, hP, this⟩

/-- What the law keeps in its boxes. -/
structure Kp (p3 p7 : Nat) (al : Option Addr) (cl : Nat) (xs : List Int) (N : Int) (W : World) : Prop where
  c3 : W.cell? ⟨p3, 0, none⟩ = some (.slice al xs.length cl)
  c7 : W.cell? ⟨p7, 0, none⟩ = some (.int .i64 N)
  row : IRow W al xs.length xs
  l3 : p3 < W.heap.size
  l7 : p7 < W.heap.size
theorem Kp.below {p3 p7 : Nat} {al : Option Addr} {cl : Nat} {xs : List Int} {N : Int} {W W' : World} (h : Kp p3 p7 al cl xs N W) (hb : Below W.heap.size W W') : Kp p3 p7 al cl xs N W' :=
  ⟨by rw [(bcell hb).1 _ _ h.l3]; exact h.c3, by rw [(bcell hb).1 _ _ h.l7]; exact h.c7, h.row.below hb (Nat.le_refl _), Nat.lt_of_lt_of_le h.l3 hb.size, Nat.lt_of_lt_of_le h.l7 hb.size⟩

set_option maxRecDepth 100000 in
theorem is35 (p3 p11 : Nat) (al : Option Addr) (cl : Nat) (xs : List Int) (j : Nat) (x y : Int) (W : World) (h3 : W.cell? ⟨p3, 0, none⟩ = some (.slice al xs.length cl)) (h11 : W.cell? ⟨p11, 0, none⟩ = some (.int .i64 (j : Int))) (hI : IRow W al xs.length xs) (hx : xs[j]? = some x) :
    Calls Try.prog 35 #[.int .i64 y, .pointer (some ⟨p3, 0, none⟩), .pointer (some ⟨p11, 0, none⟩)] W fun e w' => e = .returned (.bool (y == x)) ∧ Below W.heap.size W w' := by
  have hj : j < xs.length := by
    rcases Nat.lt_or_ge j xs.length with h' | h'
    · exact h'
    · rw [List.getElem?_eq_none h'] at hx; cases hx
  obtain ⟨b1, q1, rfl, lb1, hx1⟩ := hI.2.2 (by omega)
  have zx := hx1 j x hx
  clear hx1 hI hx
  have j0 : (0 : Int) ≤ (j : Int) := Int.natCast_nonneg _
  have j1 : (j : Int) < (xs.length : Int) := by omega
  go_enter Try.func35, Try.ntmps35
  go_wp2_with fail
  go_light
  go_ret
  exact ⟨rfl, Below.refl _ _⟩

set_option maxRecDepth 100000 in
set_option maxHeartbeats 4000000 in
theorem keeps_any (al : Option Addr) (n cl : Nat) (xs : List Int) (m : Int) (down : Bool) (w : World) (h : n ≤ 200 → IRow w al n xs) (hcl : n ≤ cl) :
    Calls Try.prog 8 #[.slice al n cl, .int .i64 m, .bool down] w fun e w' => e = .returned (.bool true) ∧ Below w.heap.size w w' := by
  go_enter Try.func8, Try.ntmps8
  go_wp2_with fail
  refine (sawake_any _).mono ?_
  rintro e w1 ⟨rfl, b1⟩
  have HN := Lib.hid h
  clear h
  have k1 : Below w.heap.size w w1 := ((Below.refl _ _).alloc (Nat.le_refl _) _).trans (b1.mono (by simp))
  have c3 : w1.cell? ⟨w.heap.size, 0, none⟩ = some (.slice al n cl) := by rw [(bcell b1).1 _ _ (by simp)]; simp [go_sem]
  have l3 : w.heap.size < w1.heap.size := by have := b1.size; simp at this; omega
  clear b1
  by_cases g1 : 200 < n
  · have g1' : (200 : Int) < (n : Int) := by omega
    go_wp2_with fail
    refine (sawake_any _).mono ?_
    rintro e w2 ⟨rfl, b2⟩
    go_wp2_with fail
    go_light
    go_ret
    exact ⟨rfl, k1.trans (b2.mono k1.size)⟩
  have g1' : (n : Int) ≤ 200 := by omega
  have hX := HN.out (by omega)
  obtain rfl := hX.1
  have X := Lib.hid (hX.below k1 (Nat.le_refl _))
  clear hX HN
  have t1 := Int.tmod_lt_of_pos m (show (0 : Int) < 7 by decide)
  have t2 := Int.lt_tmod_of_pos m (show (0 : Int) < 7 by decide)
  obtain ⟨N, hN, hN1, hN7⟩ : ∃ N : Int, 1 + m.tmod 7 % 7 = N ∧ 1 ≤ N ∧ N ≤ 7 := ⟨_, rfl, by omega, by omega⟩
  have HN := Lib.hid hN
  clear hN
  go_wp2_with fail
  refine wp_worldT ?_
  intro w2 hw2
  rw [HN.out] at hw2
  have k2 : Below w1.heap.size w1 w2 := by rw [hw2]; exact (Below.refl _ _).alloc (Nat.le_refl _) _
  have K2 : Hid (Kp w.heap.size w1.heap.size al cl xs N w2) := ⟨by rw [(bcell k2).1 _ _ l3]; exact c3, by rw [hw2]; simp [go_sem], X.out.below k2 (Nat.le_refl _), by have := k2.size; omega, by rw [hw2]; simp⟩
  clear hw2 X c3 HN
  have k : Below w.heap.size w w2 := k1.trans (k2.mono k1.size)
  clear k1 k2 l3
  have O := Lib.hid (order_32 al cl w1.heap.size xs N down w2 K2.out.row (by omega) K2.out.c7 K2.out.l7 hN1 hN7)
  refine O.out.mono ?_
  rintro e w3 ⟨ys, ⟨v3, rfl, hO3, b3⟩, hord⟩
  clear O
  have K3 := Lib.hid (K2.out.below b3)
  have k3 : Below w.heap.size w w3 := k.trans (b3.mono k.size)
  have hyl := hord.len
  obtain ⟨a3, co, e3, I3, -⟩ := hO3.irow (by omega)
  rw [hyl] at e3 I3
  subst e3
  have ORD := Lib.hid hord
  have Y3 := Lib.hid I3
  clear hord I3 hO3 hyl K2 b3 k
  obtain ⟨ds, hds⟩ : ∃ ds, ds = distF N xs := ⟨_, rfl⟩
  have hdl : ds.length ≤ 200 := by rw [hds]; have := distF_len N xs []; unfold distF; simp at this; omega
  have hdd : distF N ds = ds := by rw [hds, distF_idem]
  have D : Hid (Calls Try.prog 26 #[.slice al xs.length cl, .func (.func 33) #[] #[.pointer (some ⟨w1.heap.size, 0, none⟩)]] w3 (Own ds w3)) := by
    show Calls _ _ _ _ _
    rw [hds]
    exact dist_33 al cl w1.heap.size xs N w3 K3.out.row (by omega) K3.out.c7 K3.out.l7 hN1 hN7
  have HD := Lib.hid hdd
  clear hds hdd
  have c3 := K3.out.c3
  go_wp2_with fail
  refine D.out.mono ?_
  rintro e w4 ⟨v4, rfl, hO4, b4⟩
  clear D c3
  have K4 := Lib.hid (K3.out.below b4)
  have k4 : Below w.heap.size w w4 := k3.trans (b4.mono k3.size)
  have Y4 := Lib.hid (Y3.out.below b4 (Nat.le_refl _))
  obtain ⟨a4, c4, rfl, I4, -⟩ := hO4.irow (by omega)
  have D : Hid (Calls Try.prog 26 #[.slice a4 ds.length c4, .func (.func 34) #[] #[.pointer (some ⟨w1.heap.size, 0, none⟩)]] w4 (Own ds w4)) := by
    have := dist_34 a4 c4 w1.heap.size ds N w4 I4 (by omega) K4.out.c7 K4.out.l7 hN1 hN7
    rw [HD.out] at this
    exact this
  have Z4 := Lib.hid I4
  clear I4 hO4 Y3 K3 b4 k3
  go_wp2_with fail
  refine D.out.mono ?_
  rintro e w5 ⟨v5, rfl, hO5, b5⟩
  clear D
  have K5 := Lib.hid (K4.out.below b5)
  have k5 : Below w.heap.size w w5 := k4.trans (b5.mono k4.size)
  have Y5 := Lib.hid (Y4.out.below b5 (Nat.le_refl _))
  obtain ⟨a5, c5, rfl, I5, -⟩ := hO5.irow (by omega)
  have E := Lib.hid (ints_any a4 a5 _ _ c4 c5 ds ds w5 (Z4.out.below b5 (Nat.le_refl _)) I5)
  have c3 := K5.out.c3
  clear I5 hO5 Y4 K4 b5 k4 Z4
  go_wp2_with fail
  refine E.out.mono ?_
  rintro e w6 ⟨rfl, b6⟩
  clear E c3
  rw [beq_self_eq_true]
  have K6 := Lib.hid (K5.out.below b6)
  have k6 : Below w.heap.size w w6 := k5.trans (b6.mono k5.size)
  have Y6 := Lib.hid (Y5.out.below b6 (Nat.le_refl _))
  clear Y5 K5 b6 k5
  go_wp2_with fail
  go_loopg [11] (xs.length + 1) (fun m v wr => ∃ j p : Nat, j ≤ xs.length ∧ m + j = xs.length + 1 ∧ v = .pointer (some ⟨p, 0, none⟩) ∧ p < wr.heap.size ∧ wr.cell? ⟨p, 0, none⟩ = some (.int .i64 (j : Int)) ∧ Below w6.heap.size w6 wr)
  case atStart => exact ⟨0, w6.heap.size, Nat.zero_le _, by omega, rfl, by simp, by simp [go_sem], (Below.refl _ _).alloc (Nat.le_refl _) _⟩
  case round =>
    obtain ⟨j, p, hj, hmj, rfl, hp, hc, hw⟩ := hrel
    have KR := Lib.hid (K6.out.below hw)
    have YR := Lib.hid (Y6.out.below hw (Nat.le_refl _))
    have c3 := KR.out.c3
    by_cases hlt : j < xs.length
    · obtain ⟨x, hx'⟩ : ∃ x, xs[j]? = some x := ⟨xs[j], by simp [hlt]⟩
      have j0 : (0 : Int) ≤ (j : Int) := Int.natCast_nonneg _
      have j1 : (j : Int) < (xs.length : Int) := by omega
      obtain ⟨b1, q1, hal, lb1, hx1⟩ := KR.out.row.2.2 (by omega)
      subst hal
      obtain ⟨b2, q2, ha3, lb2, hy1⟩ := YR.out.2.2 (by omega)
      subst ha3
      have HC1 := Lib.hid hx1
      have HC2 := Lib.hid hy1
      have HX := Lib.hid hx'
      have HP := Lib.hid hc
      have HC3 := Lib.hid c3
      clear hx1 hy1 hx'
      have zx := HC1.out j x HX.out
      go_wp2_with fail
      obtain ⟨go, hgo⟩ : ∃ go, go = gk := ⟨_, rfl⟩
      subst hgo
      obtain ⟨wo, hwo⟩ : ∃ wo : World, wo = wr := ⟨_, rfl⟩
      subst hwo
      clear hc c3 zx
      go_loopg [12, 13, 14] (xs.length + 1) (fun m aa bb kk wr => ∃ k : Nat, k ≤ xs.length ∧ m + k = xs.length + 1 ∧ kk = .int .i64 (k : Int) ∧ aa = .int .i64 (((xs.take k).count x : Nat) : Int) ∧ bb = .int .i64 (((ys.take k).count x : Nat) : Int) ∧ Below wo.heap.size wo wr)
      case atStart => exact ⟨0, Nat.zero_le _, by omega, rfl, rfl, rfl, Below.refl _ _⟩
      case round =>
        obtain ⟨k, hk, hmk, rfl, rfl, rfl, hwr⟩ := hrel
        have hc := (bcell hwr).1
        have z3 : wr.cell? ⟨w.heap.size, 0, none⟩ = some (.slice (some ⟨b1, q1, none⟩) xs.length cl) := by rw [hc _ _ KR.out.l3]; exact HC3.out
        have z11 : wr.cell? ⟨p, 0, none⟩ = some (.int .i64 (j : Int)) := by rw [hc _ _ hp]; exact HP.out
        have zx : wr.cell? ⟨b1, q1 + j, none⟩ = some (.int .i64 x) := by rw [hc _ _ lb1]; exact HC1.out j x HX.out
        have hca : ((xs.take k).count x : Int) ≤ 200 := by have := List.count_le_length (a := x) (l := xs.take k); have := List.length_take_le k xs; omega
        have hcb : ((ys.take k).count x : Int) ≤ 200 := by have := List.count_le_length (a := x) (l := ys.take k); have := List.length_take_le k ys; have := List.length_take_le' k ys; have := ORD.out.len; omega
        by_cases hlk : k < xs.length
        · obtain ⟨y, hy⟩ : ∃ y, xs[k]? = some y := ⟨xs[k], by simp⟩
          obtain ⟨z, hz⟩ : ∃ z, ys[k]? = some z := ⟨ys[k]'(by rw [ORD.out.len]; exact hlk), by simp⟩
          have zy : wr.cell? ⟨b1, q1 + k, none⟩ = some (.int .i64 y) := by rw [hc _ _ lb1]; exact HC1.out k y hy
          have zz : wr.cell? ⟨b2, q2 + k, none⟩ = some (.int .i64 z) := by rw [hc _ _ lb2]; exact HC2.out k z hz
          have N1 := Lib.hid (cnt_next (x := x) hy)
          have N2 := Lib.hid (cnt_next (x := x) hz)
          have k0 : (0 : Int) ≤ (k : Int) := Int.natCast_nonneg _
          have k1 : (k : Int) < (xs.length : Int) := by omega
          clear hy hz hc
          generalize ((xs.take k).count x) = A at *
          generalize ((ys.take k).count x) = B at *
          have A0 : (0 : Int) ≤ (A : Int) := Int.natCast_nonneg _
          have B0 : (0 : Int) ≤ (B : Int) := Int.natCast_nonneg _
          cases ht : (y == x) <;> cases hu : (z == x)
          all_goals go_wp2_with fail
          all_goals go_quiet (fail)
          all_goals go_wp2_with fail
          all_goals go_quiet (fail)
          all_goals go_wp2_with fail
          all_goals
            go_roundg (gk - 1)
            case measure => omega
            case rel =>
              go_light
              refine ⟨k + 1, by omega, by omega, by go_num, ?_, ?_, below_drewN hwr _⟩
              · rw [N1.out, ht]; go_num
              · rw [N2.out, hu]; go_num
        · have hkn : k = xs.length := by omega
          have k1 : ¬ (k : Int) < (xs.length : Int) := by omega
          have eA : (xs.take k).count x = xs.count x := by rw [List.take_of_length_le (by omega)]
          have eB : (ys.take k).count x = xs.count x := by rw [List.take_of_length_le (by rw [ORD.out.len]; omega)]; exact ordd_cnt ORD.out x
          rw [eA, eB]
          rw [eA] at hca
          have PC := plc_cnt x xs xs.length (Nat.le_refl _)
          rw [List.take_of_length_le (Nat.le_refl _)] at PC
          obtain ⟨f, y, hf, hy, hyx, hat⟩ := plc_first (P := fun y => y == x) j x HX.out (by simp)
          obtain rfl : y = x := by simpa using hyx
          have HF := Lib.hid hy
          have HAT := Lib.hid hat
          clear eA eB hcb hkn hy hat hyx
          have P := Lib.hid (places_35 (fun z => z == y) (some ⟨b1, q1, none⟩) cl w.heap.size p xs wr (KR.out.row.below hwr (Nat.le_refl _)) (by omega) (fun W hW t => is35 w.heap.size p (some ⟨b1, q1, none⟩) cl xs j y t W (by rw [(bcell hW).1 _ _ (by have := hwr.size; have := KR.out.l3; omega)]; exact z3) (by rw [(bcell hW).1 _ _ (by have := hwr.size; omega)]; exact z11) ((KR.out.row.below hwr (Nat.le_refl _)).below hW (Nat.le_refl _)) HX.out))
          have hA1 : 0 < xs.count y := List.count_pos_iff.2 (List.mem_of_getElem? HX.out)
          have hfl : f < xs.length := by omega
          clear hc
          go_wp2_with fail
          refine P.out.mono ?_
          rintro e w7 ⟨v7, rfl, hO7, b7⟩
          clear P z3 z11 zx
          obtain ⟨a7, c7, e7, I7, -⟩ := hO7.irow (by rw [PC]; omega)
          rw [PC] at e7 I7
          subst e7
          obtain ⟨b3, q3, ha7, lb3, hz1⟩ := I7.2.2 hA1
          subst ha7
          have z0 : w7.cell? ⟨b3, q3, none⟩ = some (.int .i64 ((f : Int) + 1)) := hz1 0 _ HAT.out
          have k7 : Below wo.heap.size wo w7 := hwr.trans (b7.mono hwr.size)
          have hc := (bcell k7).1
          have z3 : w7.cell? ⟨w.heap.size, 0, none⟩ = some (.slice (some ⟨b1, q1, none⟩) xs.length cl) := by rw [hc _ _ KR.out.l3]; exact HC3.out
          have z11 : w7.cell? ⟨p, 0, none⟩ = some (.int .i64 (j : Int)) := by rw [hc _ _ hp]; exact HP.out
          have zx : w7.cell? ⟨b1, q1 + j, none⟩ = some (.int .i64 y) := by rw [hc _ _ lb1]; exact HC1.out j y HX.out
          have zf : w7.cell? ⟨b1, q1 + f, none⟩ = some (.int .i64 y) := by rw [hc _ _ lb1]; exact HC1.out f y HF.out
          clear hz1 I7 hO7 hc PC
          generalize xs.count y = A at *
          have A0 : (0 : Int) < (A : Int) := by omega
          have f0 : (0 : Int) ≤ (f : Int) := Int.natCast_nonneg _
          have f1 : (f : Int) < (xs.length : Int) := by omega
          have wj : IntKind.i64.wrap ((j : Int) + 1) = (j : Int) + 1 := IntWalk.i64_in _ (by omega)
          have wf : IntKind.i64.wrap ((f : Int) + 1 - 1) = (f : Int) := by rw [IntWalk.i64_in _ (by omega)]; omega
          have wf2 : IntKind.i64.wrap (f : Int) = (f : Int) := IntWalk.i64_in _ (by omega)
          have f2 : decide ((j : Int) + 1 < (f : Int) + 1) = false := by simp; omega
          have f3 : decide ((j : Int) < (f : Int)) = false := by simp; omega
          go_wp2_with fail
          go_quiet (fail)
          have k8 : Below wo.heap.size wo (w7.drewN nq) := below_drewN k7 nq
          have z11' : (w7.drewN nq).cell? ⟨p, 0, none⟩ = some (.int .i64 (j : Int)) := z11
          generalize w7.drewN nq = w8 at *
          clear z0 z3 z11 zx zf b7 k7
          go_wp2_with fail
          go_roundg (go - 1)
          case measure => omega
          case rel =>
            go_light
            refine ⟨j + 1, w8.heap.size, by omega, by omega, rfl, ?_, ?_, ?_⟩
            · simp
            · simp [go_sem]
            · exact hw.trans ((k8.alloc k8.size _).mono hw.size)
    · have j1 : ¬ (j : Int) < (xs.length : Int) := by omega
      go_wp2_with fail
      go_light
      go_ret
      exact ⟨rfl, k6.trans (hw.mono k6.size)⟩
end Go.Proofs.Ytpnlhkpibgngbaa

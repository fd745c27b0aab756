/- The law SerialParts, of trees. -/
import Derived.Test.YtgdbbocfiejlfaaSeR0
set_option linter.unusedSimpArgs false
set_option linter.unusedVariables false
set_option linter.constructorNameAsVariable false
namespace Go.Proofs.Ytgdbbocfiejlfaa
open Go.RowKit

set_option maxRecDepth 100000 in
set_option maxHeartbeats 1000000 in
theorem law_some (N : Nat) (ts : List (Tr (N + 1))) (b o : Nat) (c : Nat) (w : World) (m z : Int) (hT : TRowT (N + 1) w (some ⟨b, o, none⟩) ts) (hl : ts.length ≤ 9223372036854775807) (hc : ts.length ≤ c) (hc2 : c ≤ 9223372036854775807) (htot : sumN (totF (N + 1)) ts ≤ 1048576)
    (hm : w.cell? ⟨0, 0, none⟩ = some (.int .i64 m)) (hz : -9223372036854775808 ≤ z ∧ z ≤ 9223372036854775807) :
    Calls Try.prog 3 #[.slice (some ⟨b, o, none⟩) ts.length c, .int .i64 z] w fun e w' => e = .returned (.bool true) ∧ Below w.heap.size w w' := by
  have h0 : 0 < w.heap.size := by
    rcases Nat.eq_zero_or_pos w.heap.size with h9 | h9
    · simp [World.cell?, Array.getElem?_eq_none (show w.heap.size ≤ 0 by omega)] at hm
    · exact h9
  have hst : ∀ t ∈ ts, StrOk 1048576 (N + 1) t := fun t ht => str_tot _ _ t (Nat.le_trans (sum_mem (totF (N + 1)) ts t ht) htot)
  have HT := Lib.hid hT
  have HM := Lib.hid hm
  have HS := Lib.hid hst
  have CA := Lib.hid (fun (V : World) (hV : Below w.heap.size w V) => awake_any V m ((hV.cell (p := ⟨0, 0, none⟩) h0).trans hm))
  have CF := Lib.hid (fun (V : World) (hV : Below w.heap.size w V) => few_any (N + 1) 2000 _ c ts V (hT.on hV) hl (by omega) (by omega))
  have HC := Lib.hid (And.intro hc hc2)
  clear hT hm hst hc hc2
  go_enter Try.func3, Try.ntmps3
  by_cases hlt : ts.length ≤ 20
  · have i0 : decide ((20 : Int) < (ts.length : Int)) = false := by simp; omega
    cases hfew : fewF (N + 1) 2000 ts
    · rw [hfew] at CF
      go_wp2_with fail
      with_reducible refine (CA.out w (Below.refl _ _)).mono ?_
      rintro e w1 ⟨rfl, hw1⟩
      go_wp2_with fail
      with_reducible refine (CF.out w1 hw1).mono ?_
      rintro e w2 ⟨rfl, hb2⟩
      have hw2 := hw1.trans (hb2.mono hw1.size)
      clear hb2 CF
      go_wp2_with fail
      with_reducible refine (CA.out w2 hw2).mono ?_
      rintro e w3 ⟨rfl, hb3⟩
      have hw3 := hw2.trans (hb3.mono hw2.size)
      go_wp2_with fail
      go_returns
      exact ⟨rfl, hw3⟩
    · rw [hfew] at CF
      have hcnt := few_cnt hfew
      have hlen7 : (outs (N + 1) ts).length ≤ 7000000 := by
        have := outs_len (N + 1) ts
        have h2 : sumN (cntF (N + 1)) ts ≤ 2000 := by omega
        omega
      have hlen : (outs (N + 1) ts).length ≤ 140737488355328 := by omega
      have HL := Lib.hid hlen
      have CT := Lib.hid (fun (V : World) (hV : Below w.heap.size w V) => stree_any (N + 1) ts _ c V m (HT.out.on hV) hl HS.out hlen ((hV.cell (p := ⟨0, 0, none⟩) h0).trans HM.out))
      clear hlen hcnt hfew
      go_wp2_with fail
      with_reducible refine (CA.out w (Below.refl _ _)).mono ?_
      rintro e w1 ⟨rfl, hw1⟩
      clear CA
      go_wp2_with fail
      with_reducible refine (CF.out w1 hw1).mono ?_
      rintro e w2 ⟨rfl, hb2⟩
      have hw2 := hw1.trans (hb2.mono hw1.size)
      clear hb2 CF
      go_wp2_with fail
      go_loopg [5, 6] (ts.length + 1) (fun m ss ii wr => ∃ (j : Nat) (s : ByteArray), j ≤ ts.length ∧ m + j = ts.length + 1 ∧ ii = .int .i64 (j : Int) ∧ ss = .string s ∧ Hid (Below w.heap.size w wr ∧ s = ⟨(outs (N + 1) (ts.take j)).toArray⟩ ∧ oks (N + 1) (ts.take j) = true))
      case atStart => exact ⟨0, ⟨#[]⟩, by omega, by omega, rfl, rfl, hw2, by rw [List.take_zero]; rfl, by rw [List.take_zero]; rfl⟩
      case round =>
        obtain ⟨j, s, hj, hmj, rfl, rfl, HD⟩ := hrel
        have hj0 : (0 : Int) ≤ (j : Int) := Int.natCast_nonneg _
        by_cases hlt2 : j < ts.length
        · have i1 : decide ((j : Int) < (ts.length : Int)) = true := by simp; omega
          have i6 : (j : Int) < (ts.length : Int) := by omega
          obtain ⟨x, hjx⟩ : ∃ x, ts[j]? = some x := ⟨_, List.getElem?_eq_getElem hlt2⟩
          have hmem := List.mem_of_getElem? hjx
          rcases HT.out with h9 | ⟨b', o', hbo, hb, -, hcr⟩
          · rw [h9] at hlt2; simp at hlt2
          cases hbo
          obtain ⟨c0, c1, c2, c3, c4, u0, u1, u2, u3, u4, hx⟩ := hcr j x hjx
          have hbl := HD.out.1
          obtain ⟨k, n, v, aa, la, ca, ka, lk, ck, rfl, rfl, rfl, rfl, rfl⟩ := TLies.shape hx
          replace u0 := (hbl.cell (p := ⟨b, o + j * 5, none⟩) hb).trans u0
          replace u1 := (hbl.cell (p := ⟨b, o + j * 5 + 1, none⟩) hb).trans u1
          replace u2 := (hbl.cell (p := ⟨b, o + j * 5 + 2, none⟩) hb).trans u2
          replace u3 := (hbl.cell (p := ⟨b, o + j * 5 + 3, none⟩) hb).trans u3
          replace u4 := (hbl.cell (p := ⟨b, o + j * 5 + 4, none⟩) hb).trans u4
          have lb := Nat.lt_of_lt_of_le hb hbl.size
          have hsz := hbl.size
          have hbx : Below wr.heap.size wr (wr.alloc (.cells #[.int .i64 k, .string n, .string v, .slice aa la ca, .slice ka lk ck] 31)) := (Below.refl _ _).alloc (Nat.le_refl _) _
          have hbw := hbl.trans (hbx.mono hsz)
          have CX := Lib.hid (stree_one (N + 1) x _ 1 (wr.alloc (.cells #[.int .i64 k, .string n, .string v, .slice aa la ca, .slice ka lk ck] 31)) m (five_row (Blk.new wr _ _) (hx.go (kept_of hbw) fun _ h _ => h)) (HS.out x hmem) (Nat.le_trans (outF_le _ _ _ hmem) HL.out) ((hbw.cell (p := ⟨0, 0, none⟩) h0).trans HM.out))
          have HBW := Lib.hid hbw
          have hszx := hbw.size
          cases hok : okF (N + 1) x
          · rw [(text_no (oks_one _ x ▸ hok)).1, (text_no (oks_one _ x ▸ hok)).2] at CX
            have hno := oks_no hmem hok
            rw [(text_no hno).1, (text_no hno).2] at CT
            clear hx hcr hjx hbx hbw hbl HD hno hok hmem
            go_wp2_with fail
            with_reducible refine CX.out.mono ?_
            rintro e w3 ⟨rfl, hb3⟩
            have hw3 := HBW.out.trans (hb3.mono hszx)
            clear hb3 CX HBW
            go_wp2_with fail
            with_reducible refine (CT.out w3 hw3).mono ?_
            rintro e w4 ⟨rfl, hb4⟩
            have hw4 := hw3.trans (hb4.mono hw3.size)
            clear hb4 CT
            go_wp2_with fail
            go_returns
            exact ⟨rfl, hw4⟩
          · rw [(text_ok (oks_one _ x ▸ hok)).1, (text_ok (oks_one _ x ▸ hok)).2, outs_one] at CX
            have hsn := outs_snoc (N + 1) ts j x hjx
            have hkn := oks_snoc (N + 1) ts j x hjx
            rw [hok, HD.out.2.2, Bool.and_true] at hkn
            obtain ⟨XT, hXT⟩ : ∃ q : ByteArray, q = ⟨(outF (N + 1) x).toArray⟩ := ⟨_, rfl⟩
            rw [← hXT] at CX
            have HN : Hid (s ++ XT = ⟨(outs (N + 1) (ts.take (j + 1))).toArray⟩ ∧ oks (N + 1) (ts.take (j + 1)) = true) := by
              unfold Hid
              refine ⟨?_, hkn⟩
              rw [HD.out.2.1, hXT, hsn, cat_arr]
            have hcs : (s ++ XT).size < 4294967281 := by
              rw [HN.out.1]
              show ((outs (N + 1) (ts.take (j + 1))).toArray).size < _
              have := outs_take (N + 1) ts (j + 1)
              rw [List.size_toArray]
              omega
            have hcs2 : s.size + XT.size < 4294967281 := by rw [← ByteArray.size_append]; exact hcs
            clear hx hcr hjx hbx hbw hbl HD hok hmem hsn hkn hXT
            go_wp2_with fail
            with_reducible refine CX.out.mono ?_
            rintro e w3 ⟨rfl, hb3⟩
            have hw3 := HBW.out.trans (hb3.mono hszx)
            clear hb3 CX HBW
            go_wp2_with fail
            go_roundg (gk - 1)
            case measure => omega
            case rel => exact ⟨j + 1, s ++ XT, by omega, by omega, by go_num, rfl, hw3, HN.out.1, HN.out.2⟩
        · have i1 : decide ((j : Int) < (ts.length : Int)) = false := by simp; omega
          have hd := HD.out
          rw [List.take_of_length_le (by omega)] at hd
          obtain ⟨hwr, hs, hk⟩ := hd
          rw [(text_ok hk).1, (text_ok hk).2, ← hs] at CT
          have hrm := tmod_lt z ts.length
          clear HD hs
          go_wp2_with fail
          with_reducible refine (CT.out wr hwr).mono ?_
          rintro e w3 ⟨rfl, hb3⟩
          have hw3 := hwr.trans (hb3.mono hwr.size)
          clear hb3 CT
          go_wp2_with fail
          obtain ⟨kk, hkk, hkn⟩ := fmod_nat z ts.length
          rw [hkk]
          obtain ⟨vs, hrep, hnode, hraw⟩ := raws_of HT.out
          have HR : Hid (∀ V, Below w.heap.size w V → ∀ j u, (flat5 vs)[j]? = some u → V.cell? ⟨b, o + j, none⟩ = some u) := by
            rcases hraw with h9 | ⟨b', o', hbo, hb, hcr⟩
            · intro V hV j u hu
              have : vs = [] := List.length_eq_zero_iff.1 (by rw [hrep.1, h9]; rfl)
              rw [this] at hu
              cases hu
            · cases hbo
              exact fun V hV j u hu => (hV.cell (p := ⟨b, o + j, none⟩) hb).trans (hcr j u hu)
          have hvl := hrep.1
          obtain ⟨A, hA⟩ : ∃ A, A = vs.take kk := ⟨_, rfl⟩
          obtain ⟨D, hD⟩ : ∃ D, D = vs.drop kk := ⟨_, rfl⟩
          obtain ⟨ac, hac⟩ : ∃ ac, ac = acT := ⟨_, rfl⟩
          obtain ⟨odd, hodd⟩ : ∃ odd, odd = ts.take kk ++ [attrT N] ++ ts.drop kk := ⟨_, rfl⟩
          have hAl : A.length = kk := by rw [hA, List.length_take]; omega
          have hDl : D.length = ts.length - kk := by rw [hD, List.length_drop, hvl]
          have HO : Hid ((∀ p ∈ A, p.one) ∧ (∀ p ∈ D, p.one) ∧ A.length = kk ∧ ([] : List C5).length + A.length ≤ 1000000000 ∧ (∀ p ∈ [ac], p.one) ∧ A.length + [ac].length ≤ 1000000000 ∧ (D.length = ts.length - kk ∧ (A ++ [ac]).length + D.length ≤ 1000000000) ∧ ∀ (V : World) (g : Nat), w3.heap.size ≤ g → Blk V g #[.int .i64 3, .string ⟨#[120]⟩, .string ⟨#[]⟩, .slice none 0 0, .slice none 0 0] 31 → Own5 w3.heap.size V (.slice (some ⟨g, 0, none⟩) 1 1) [ac]) := by
            unfold Hid
            refine ⟨fun p hp => (hnode p (by rw [hA] at hp; exact List.mem_of_mem_take hp)).one, fun p hp => (hnode p (by rw [hD] at hp; exact List.mem_of_mem_drop hp)).one, hAl, by rw [hAl]; show 0 + kk ≤ _; omega, by rw [hac]; exact acT_one, by rw [hAl]; show kk + 1 ≤ _; omega, ⟨hDl, by rw [List.length_append, hAl, hDl]; show kk + 1 + _ ≤ _; omega⟩, fun V g hg hB => by rw [hac]; exact Own5.box (ac := acT) hg hB⟩
          have HRA : Hid (∀ V, Below w.heap.size w V → Raw5 V (some ⟨b, o, none⟩) c A) := by
            intro V hV
            rw [hA]
            exact raw_take (HR.out V hV)
          have HRD : Hid (∀ V, Below w.heap.size w V → Raw5 V (if c = kk then some ⟨b, o, none⟩ else some ⟨b, o + kk * 5, none⟩) (c - kk) D) := by
            intro V hV
            by_cases e : c = kk
            · have := HC.out.1
              have e2 : D = [] := List.length_eq_zero_iff.1 (by omega)
              rw [if_pos e, e2]
              exact ⟨(fun h => nomatch h), fun ad had => ⟨b, o, (Option.some.inj had).symm, fun j u hj => by cases hj⟩⟩
            · rw [if_neg e, hD]
              exact raw_drop (HR.out V hV)
          have HO2 : Hid (∀ w', Below w3.heap.size w3 w' → RepS All (N + 1) w' odd (A ++ [ac] ++ D)) := by
            intro w' hw'
            have r1 : RepS All (N + 1) w' ts vs := RepS.go (S := All) hrep (kept_of (hw3.trans (hw'.mono hw3.size))) fun _ h _ => h
            rw [hodd, hA, hD, hac]
            exact ((r1.take kk).app (RepS.single (attrT_lies All N w'))).app (r1.drop kk)
          have HO3 : Hid (∀ a5 c5 w', Below w.heap.size w w' → TRowT (N + 1) w' a5 odd → Calls Try.prog 6 #[.slice a5 odd.length c5] w' fun e w'' => e = .returned (.tuple #[.string ⟨#[]⟩, .int .i64 57]) ∧ Below w'.heap.size w' w'') := by
            intro a5 c5 w' hw' hrow
            have hno : oks (N + 1) odd = false := oks_no (x := attrT N) (by rw [hodd]; simp) (attrT_ok N)
            have := stree_any (N + 1) odd a5 c5 w' m hrow (by rw [hodd]; simp; omega) (fun t ht => by
              rw [hodd] at ht
              simp only [List.mem_append, List.mem_singleton] at ht
              rcases ht with (ht | ht) | ht
              · exact HS.out t (List.mem_of_mem_take ht)
              · rw [ht]; exact attrT_str N
              · exact HS.out t (List.mem_of_mem_drop ht)) (by rw [hodd, odd_outs]; omega) ((hw'.cell (p := ⟨0, 0, none⟩) h0).trans HM.out)
            rw [(text_no hno).1, (text_no hno).2] at this
            exact this
          have hkc : kk ≤ c := by have := HC.out.1; omega
          have hcc := HC.out.2
          have hk0 : (0 : Int) ≤ (kk : Int) := Int.natCast_nonneg _
          clear hA hD hac hodd hrep hnode hraw hAl hDl hvl hkk hrm hk HT HS
          refine RC.region_steps (R := (RA w3.heap.size A D ac)) 12 [some 79, some 80, some 81, some 82, some 83, some 84, some 85, some 86, some 87, some 88, some 89, some 90] (fun _ _ => True) (fun a b c h1 h2 => h1.trans h2) (fun w => RA.drew w) (fun _ => trivial) (by kernel_rfl) (by kernel_rfl) ?_
          -- 0: Op.buildSlice 22 0 #[]
          refine RC.ls_gen (MPe w3.heap.size A D ac) ?_ ?_
          · intro x w' hb hj hpre K hK
            clear hpre
            simp only [frL, Act.put, List.setIfInBounds_toArray, List.set_cons_zero, List.set_cons_succ, Nat.zero_add, Nat.reduceAdd] at hK ⊢
            have HK := Lib.hid hK
            clear hK
            refine Held.mk ?_
            go_simp
            exact HK.out _ _ ⟨⟨_, rfl⟩, Own5.bare hb.1.size (Blk.new _ _ _)⟩ trivial (RA.of hb.1.size ((Below.refl _ _).alloc (Nat.le_refl _) _))
          -- 1: Op.move (Operand.tmp 0)
          apply RC.ls_val (fun _ _ _ _ _ _ => trivial)
          · intro x w' hb hpre K hK
            have zs := hb.1.size
            clear hpre
            simp only [frL, Act.put, List.setIfInBounds_toArray, List.set_cons_zero, List.set_cons_succ, Nat.zero_add, Nat.reduceAdd] at hK ⊢
            have HK := Lib.hid hK
            clear hK
            refine Held.mk ?_
            go_simp
            exact HK.out _ (RA.refl _ _ _ _ _)
          -- 2: Op.move (Operand.tmp 13)
          apply RC.ls_val (fun _ _ _ _ _ _ => trivial)
          · intro x w' hb hpre K hK
            have zs := hb.1.size
            clear hpre
            simp only [frL, Act.put, List.setIfInBounds_toArray, List.set_cons_zero, List.set_cons_succ, Nat.zero_add, Nat.reduceAdd] at hK ⊢
            have HK := Lib.hid hK
            clear hK
            refine Held.mk ?_
            go_simp
            exact HK.out _ (RA.refl _ _ _ _ _)
          -- 3: Op.slice 22 (Operand.tmp 80) none (some (Operand.tmp 81)) none
          apply RC.ls_val (fun _ _ _ _ _ _ => trivial)
          · intro x w' hb hpre K hK
            have zs := hb.1.size
            simp [preds, Region.binds, RC.phi, RC.MP.val] at hpre
            simp only [frL, Act.put, List.setIfInBounds_toArray, List.set_cons_zero, List.set_cons_succ, Nat.zero_add, Nat.reduceAdd, hpre] at hK ⊢
            have HK := Lib.hid hK
            clear hK
            refine Held.mk ?_
            go_simp
            exact HK.out _ (RA.refl _ _ _ _ _)
          -- 4: Op.call { callee := Callee.builtin Builtin.append, args := #[Operand.tmp 79, Ope
          refine RC.ls_gen (MPo w3.heap.size A D ac ([] ++ A) (.inr (.inl rfl))) ?_ ?_
          · intro x w' hb hj hpre K hK
            obtain ⟨⟨g0, e0⟩, hown⟩ : (∃ g, x 0 = .slice (some ⟨g, 0, none⟩) 0 0) ∧ Own5 w3.heap.size w' (x 0) [] := hpre.1 rfl
            have e3 : x 3 = .slice (some ⟨b, o, none⟩) kk c := hpre.2.1 rfl
            clear hpre
            simp only [frL, Act.put, List.setIfInBounds_toArray, List.set_cons_zero, List.set_cons_succ, Nat.zero_add, Nat.reduceAdd] at hK ⊢
            refine Held.mk (step_appR ?_ (.tmp 79) (.tmp 82) rfl w3.heap.size (x 0) [] ?_ hown (some ⟨b, o, none⟩) kk c A ?_ HO.out.2.2.1 (HRA.out w' (hw3.trans (hb.1.mono hw3.size))) HO.out.1 HO.out.2.2.2.1 hb.1.size A D ac ?_ ?_)
            · simp [Region.wanted]
            · simp [Act.eval]
            · simp [Act.eval, e3]
            · intro vs2 hin a9 n9 cap9 hv hroom j9 x9 y9 hx9 hy9
              rw [e0] at hv
              cases hv
              have hA0 : A = [] := List.length_eq_zero_iff.1 (by simpa using hroom)
              rw [hA0] at hy9
              cases hy9
            · intro v9 w9 h9 hr9
              simp only [Act.put, List.setIfInBounds_toArray, List.set_cons_zero, List.set_cons_succ]
              exact hK v9 w9 h9 trivial hr9
          -- 5: Op.build 31 #[(0, Operand.const (Value.int IntKind.i64 3)), (1, Operand.const (V
          apply RC.ls_val (fun _ _ _ _ _ _ => trivial)
          · intro x w' hb hpre K hK
            have zs := hb.1.size
            clear hpre
            simp only [frL, Act.put, List.setIfInBounds_toArray, List.set_cons_zero, List.set_cons_succ, Nat.zero_add, Nat.reduceAdd] at hK ⊢
            have HK := Lib.hid hK
            clear hK
            refine Held.mk ?_
            go_simp
            exact HK.out _ (RA.refl _ _ _ _ _)
          -- 6: Op.buildSlice 22 1 #[(0, Operand.tmp 84)]
          refine RC.ls_gen (MPb w3.heap.size A D ac) ?_ ?_
          · intro x w' hb hj hpre K hK
            have p0 := hpre.1 rfl
            clear hpre
            simp [RC.phi, RC.MP.val] at p0
            simp only [frL, Act.put, List.setIfInBounds_toArray, List.set_cons_zero, List.set_cons_succ, Nat.zero_add, Nat.reduceAdd, p0] at hK ⊢
            have HK := Lib.hid hK
            clear hK
            refine Held.mk ?_
            go_simp
            exact HK.out _ _ ⟨⟨_, rfl⟩, HO.out.2.2.2.2.2.2.2 _ _ hb.1.size (Blk.new _ _ _)⟩ trivial (RA.of hb.1.size ((Below.refl _ _).alloc (Nat.le_refl _) _))
          -- 7: Op.call { callee := Callee.builtin Builtin.append, args := #[Operand.tmp 83, Ope
          refine RC.ls_gen (MPo w3.heap.size A D ac (A ++ [ac]) (.inr (.inr (.inl rfl)))) ?_ ?_
          · intro x w' hb hj hpre K hK
            have hown : Own5 w3.heap.size w' (x 4) A := hpre.1 rfl
            obtain ⟨⟨g6, e6⟩, ho6⟩ : (∃ g, x 6 = .slice (some ⟨g, 0, none⟩) 1 1) ∧ Own5 w3.heap.size w' (x 6) [ac] := hpre.2.1 rfl
            rw [e6] at ho6
            clear hpre
            simp only [frL, Act.put, List.setIfInBounds_toArray, List.set_cons_zero, List.set_cons_succ, Nat.zero_add, Nat.reduceAdd] at hK ⊢
            refine Held.mk (step_appR ?_ (.tmp 83) (.tmp 85) rfl w3.heap.size (x 4) A ?_ hown (some ⟨g6, 0, none⟩) 1 1 [ac] ?_ rfl ho6.raw HO.out.2.2.2.2.1 HO.out.2.2.2.2.2.1 hb.1.size A D ac ?_ ?_)
            · simp [Region.wanted]
            · simp [Act.eval]
            · simp [Act.eval, e6]
            · intro vs2 hin a9 n9 cap9 hv hroom j9 x9 y9 hx9 hy9
              exact agree_mid hin j9 x9 y9 hx9 hy9
            · intro v9 w9 h9 hr9
              simp only [Act.put, List.setIfInBounds_toArray, List.set_cons_zero, List.set_cons_succ]
              exact hK v9 w9 h9 trivial hr9
          -- 8: Op.move (Operand.tmp 0)
          apply RC.ls_val (fun _ _ _ _ _ _ => trivial)
          · intro x w' hb hpre K hK
            have zs := hb.1.size
            clear hpre
            simp only [frL, Act.put, List.setIfInBounds_toArray, List.set_cons_zero, List.set_cons_succ, Nat.zero_add, Nat.reduceAdd] at hK ⊢
            have HK := Lib.hid hK
            clear hK
            refine Held.mk ?_
            go_simp
            exact HK.out _ (RA.refl _ _ _ _ _)
          -- 9: Op.move (Operand.tmp 13)
          apply RC.ls_val (fun _ _ _ _ _ _ => trivial)
          · intro x w' hb hpre K hK
            have zs := hb.1.size
            clear hpre
            simp only [frL, Act.put, List.setIfInBounds_toArray, List.set_cons_zero, List.set_cons_succ, Nat.zero_add, Nat.reduceAdd] at hK ⊢
            have HK := Lib.hid hK
            clear hK
            refine Held.mk ?_
            go_simp
            exact HK.out _ (RA.refl _ _ _ _ _)
          -- 10: Op.slice 22 (Operand.tmp 87) (some (Operand.tmp 88)) none none
          apply RC.ls_val (fun _ _ _ _ _ _ => trivial)
          · intro x w' hb hpre K hK
            have zs := hb.1.size
            simp [preds, Region.binds, RC.phi, RC.MP.val] at hpre
            simp only [frL, Act.put, List.setIfInBounds_toArray, List.set_cons_zero, List.set_cons_succ, Nat.zero_add, Nat.reduceAdd, hpre] at hK ⊢
            have HK := Lib.hid hK
            clear hK
            refine Held.mk ?_
            go_simp
            exact HK.out _ (RA.refl _ _ _ _ _)
          -- 11: Op.call { callee := Callee.builtin Builtin.append, args := #[Operand.tmp 86, Ope
          refine RC.ls_gen (MPo w3.heap.size A D ac (A ++ [ac] ++ D) (.inr (.inr (.inr (.inl rfl))))) ?_ ?_
          · intro x w' hb hj hpre K hK
            have hown : Own5 w3.heap.size w' (x 7) (A ++ [ac]) := hpre.1 rfl
            have e10 : x 10 = .slice (if c = kk then some ⟨b, o, none⟩ else some ⟨b, o + kk * 5, none⟩) (ts.length - kk) (c - kk) := hpre.2.1 rfl
            clear hpre
            simp only [frL, Act.put, List.setIfInBounds_toArray, List.set_cons_zero, List.set_cons_succ, Nat.zero_add, Nat.reduceAdd] at hK ⊢
            refine Held.mk (step_appR ?_ (.tmp 86) (.tmp 89) rfl w3.heap.size (x 7) (A ++ [ac]) ?_ hown (if c = kk then some ⟨b, o, none⟩ else some ⟨b, o + kk * 5, none⟩) (ts.length - kk) (c - kk) D ?_ HO.out.2.2.2.2.2.2.1.1 (HRD.out w' (hw3.trans (hb.1.mono hw3.size))) HO.out.2.1 HO.out.2.2.2.2.2.2.1.2 hb.1.size A D ac ?_ ?_)
            · simp [Region.wanted]
            · simp [Act.eval]
            · simp [Act.eval, e10]
            · intro vs2 hin a9 n9 cap9 hv hroom j9 x9 y9 hx9 hy9
              exact agree_end hin j9 x9 y9 hx9 hy9
            · intro v9 w9 h9 hr9
              simp only [Act.put, List.setIfInBounds_toArray, List.set_cons_zero, List.set_cons_succ]
              exact hK v9 w9 h9 trivial hr9
          intro x w' hb hp hJ
          simp only [List.cons_append, List.nil_append, RC.phis, RC.MP.val, frL, Act.put, List.setIfInBounds_toArray, List.set_cons_zero, List.set_cons_succ, Nat.zero_add, Nat.reduceAdd] at hp ⊢
          obtain ⟨h0, h1, h2, h3, h4, h5, h6, h7, h8, h9, h10, h11, -⟩ := hp
          simp only [h1, h2, h3, h5, h8, h9, h10]
          clear h1 h2 h3 h5 h8 h9 h10
          have h11 : Own5 w3.heap.size w' (x 11) (A ++ [ac] ++ D) := h11
          obtain ⟨a5, c5, e11, hrow, -⟩ := own5_read h11 odd (fun t cs => TLies All (N + 1) w' t cs) (HO2.out w' hb.1).1 (HO2.out w' hb.1).2
          simp only [e11]
          have hw9 := hw3.trans (hb.1.mono hw3.size)
          have CO := Lib.hid (HO3.out a5 c5 w' hw9 (KRow.on hrow (kept_of (Below.refl _ _)) (fun _ _ _ => trivial) fun _ _ h => h))
          clear h0 h4 h6 h7 h11 hrow HO HO2 HO3 e11 hb hJ
          generalize (if c = kk then some (⟨b, o, none⟩ : Addr) else some ⟨b, o + kk * 5, none⟩) = r10
          show wpList Try.prog _ _ [_] _ _
          go_wp2_with fail
          with_reducible refine CO.out.mono ?_
          rintro e w5 ⟨rfl, hb5⟩
          have hw5 := hw9.trans (hb5.mono hw9.size)
          clear hb5 CO
          go_wp2_with fail
          go_returns
          exact ⟨rfl, hw5⟩
  · have i0 : decide ((20 : Int) < (ts.length : Int)) = true := by simp; omega
    go_wp2_with fail
    with_reducible refine (CA.out w (Below.refl _ _)).mono ?_
    rintro e w1 ⟨rfl, hw1⟩
    go_wp2_with fail
    with_reducible refine (CA.out w1 hw1).mono ?_
    rintro e w2 ⟨rfl, hb2⟩
    have hw2 := hw1.trans (hb2.mono hw1.size)
    go_wp2_with fail
    go_returns
    exact ⟨rfl, hw2⟩
end Go.Proofs.Ytgdbbocfiejlfaa


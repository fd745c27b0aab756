/- Own rows of trees, kept while another is appended to. -/
import Derived.Test.YtgdbbocfiejlfaaSeO
set_option linter.unusedSimpArgs false
set_option linter.unusedVariables false
set_option linter.constructorNameAsVariable false
namespace Go.Proofs.Ytgdbbocfiejlfaa
open Go.RowKit

theorem take_same {l l2 : List Value} {n : Nat} {xs : List Value} (hx : xs.length = n) (h : l.take n = xs) (hl : l2.length = l.length) (hs : ∀ j x, j < n → xs[j]? = some x → l2[j]? = some x) : l2.take n = xs := by
  apply List.ext_getElem?
  intro j
  rcases Nat.lt_or_ge j n with h' | h'
  · have : j < xs.length := by omega
    obtain ⟨x, hj⟩ : ∃ x, xs[j]? = some x := ⟨xs[j], by simp [this]⟩
    rw [hj, List.getElem?_take, if_pos h']
    exact hs j x h' hj
  · rw [List.getElem?_take, if_neg (by omega), List.getElem?_eq_none (by omega)]
theorem Own5.keep_other {base : Nat} {w w' : World} {v : Value} {vs : List C5} (h : Own5 base w v vs) {row : Option Nat} (hg : w.grownBy w' row) (hne : ∀ g, v.ownBlock = some g → row ≠ some g) : Own5 base w' v vs := by
  refine ⟨h.1, ?_⟩
  rcases h.2 with h0 | ⟨g, cap, cur, rfl, h1, h2, h3, h4, h5, h6⟩
  · exact .inl h0
  · exact .inr ⟨g, cap, cur, rfl, h1, (show Blk w' g cur 31 from Blk.grown h2 hg (hne g rfl)), h3, h4, h5, h6⟩
theorem Own5.keep_room {base : Nat} {w : World} {v : Value} {vs us ns : List C5} (h : Own5 base w v vs) {g cap : Nat} {cur : Array Value} (eB : Blk w g cur 31) (hsz : cur.size = cap * 5) (hu : cur.toList.take (us.length * 5) = flat5 us) (hroom : us.length + ns.length ≤ cap)
    (hg : ∀ g2, g2 ≠ g → ∀ cs, Blk w g2 cs 31 → Blk (w.setCells g (0 + us.length * 5) (flat5 ns)) g2 cs 31)
    (hag : ∀ j x y, (flat5 vs)[us.length * 5 + j]? = some x → (flat5 ns)[j]? = some y → y = x) : Own5 base (w.setCells g (0 + us.length * 5) (flat5 ns)) v vs := by
  refine ⟨h.1, ?_⟩
  rcases h.2 with h0 | ⟨g2, cap2, cur2, rfl, h1, h2, h3, h4, h5, h6⟩
  · exact .inl h0
  · have B2 : Blk w g2 cur2 31 := h2
    by_cases e : g2 = g
    · subst e
      have ec : cur2 = cur := by
        have := B2.symm.trans eB
        simpa using this
      subst ec
      have hs := Blk.sets (w := w) (flat5 ns) (0 + us.length * 5) w cur2.toList (by simpa using B2)
      rw [Nat.zero_add] at hs ⊢
      have hlu : (flat5 us).length = us.length * 5 := flat5_len us
      have hln : (flat5 ns).length = ns.length * 5 := flat5_len ns
      have hz : (cur2.toList.drop (us.length * 5)).length = cap * 5 - us.length * 5 := by simp [hsz]
      have hsp : cur2.toList = flat5 us ++ cur2.toList.drop (us.length * 5) := by
        rw [← hu, List.take_append_drop]
      have hap := setsL_app (flat5 us) (flat5 ns) (cur2.toList.drop (us.length * 5)) (by omega)
      have hl2 := setsL_len cur2.toList (us.length * 5) (flat5 ns)
      refine .inr ⟨g2, cap2, _, rfl, h1, hs, h3, h4, ?_, ?_⟩
      · rw [List.size_toArray, hl2]
        simpa using h5
      · show (setsL cur2.toList (us.length * 5) (flat5 ns)).take _ = _
        refine take_same h.1 h6 hl2 fun j x hj hx => ?_
        have hx0 : cur2.toList[j]? = some x := by
          rw [← h6, List.getElem?_take, if_pos hj] at hx
          exact hx
        have e1 : setsL cur2.toList (us.length * 5) (flat5 ns) = flat5 us ++ flat5 ns ++ (cur2.toList.drop (us.length * 5)).drop (flat5 ns).length := by
          rw [← hap, hlu, ← hsp]
        rw [e1]
        rcases Nat.lt_or_ge j (us.length * 5) with q | q
        · rw [List.append_assoc, List.getElem?_append_left (by omega)]
          rw [hsp, List.getElem?_append_left (by omega)] at hx0
          exact hx0
        · rcases Nat.lt_or_ge j (us.length * 5 + ns.length * 5) with q2 | q2
          · rw [List.append_assoc, List.getElem?_append_right (by omega), List.getElem?_append_left (by omega), hlu]
            obtain ⟨y, hy⟩ : ∃ y, (flat5 ns)[j - us.length * 5]? = some y := ⟨(flat5 ns)[j - us.length * 5]'(by omega), by simp [show j - us.length * 5 < (flat5 ns).length by omega]⟩
            rw [hy, hag (j - us.length * 5) x y (by rw [show us.length * 5 + (j - us.length * 5) = j by omega]; exact hx) hy]
          · rw [List.getElem?_append_right (by rw [List.length_append]; omega), List.length_append, List.getElem?_drop, List.getElem?_drop, hln, hlu]
            rw [show us.length * 5 + (ns.length * 5 + (j - (us.length * 5 + ns.length * 5))) = j by omega]
            exact hx0
    · exact .inr ⟨g2, cap2, cur2, rfl, h1, hg g2 e cur2 B2, h3, h4, h5, h6⟩
set_option maxHeartbeats 1000000 in
theorem keep_app5 {w w' : World} (base : Nat) (v v' : Value) (us : List C5) (hown : Own5 base w v us) (ax : Option Addr) (c : Nat) (vs : List C5) (hA : Raw5 w ax c vs) (hone1 : ∀ p ∈ vs, p.one) (hl : us.length + vs.length ≤ 1000000000) (hb : base ≤ w.heap.size) (ty : TypeId)
    (hr : (Builtin.append_ #[22, 22] ty #[v, .slice ax vs.length c]).run Try.prog w = .ok v' w') (hgr : w.grownBy w' v.ownBlock) (v2 : Value) (vs2 : List C5) (h2 : Own5 base w v2 vs2)
    (hag : ∀ a n cap, v = .slice (some a) n cap → us.length + vs.length ≤ cap → ∀ j x y, (flat5 vs2)[us.length * 5 + j]? = some x → (flat5 vs)[j]? = some y → y = x) : Own5 base w' v2 vs2 := by
  obtain ⟨i0, hi, hz0, hz1, hz2⟩ := info_parts infoT
  cases ax with
  | none =>
    obtain ⟨rfl, rfl⟩ := hA.1 rfl
    have hrun := run_append_owned_none (P := Try.prog) (w := w) base 22 ty 31 i0 5 Try.underlying22 hi v us.length (flat5 us) hown
    have hr' : (Builtin.append_ #[22, 22] ty #[v, .slice none 0 0]).run Try.prog w = .ok v' w' := hr
    rw [hrun] at hr'
    cases hr'
    exact h2
  | some ad =>
    obtain ⟨b, o, rfl, hc⟩ := hA.2 ad rfl
    have hnews : ∀ (j : Nat) (u : Value), (flat5 vs)[j]? = some u → w.cell? ((⟨b, o, none⟩ : Addr).add j) = some u := fun j u hj => by
      rw [Addr.add_lit]
      exact hc j u hj
    have hone : ∀ u ∈ flat5 vs, u.oneCell' = true := fun u hu => by
      obtain ⟨j, hj⟩ := List.getElem?_of_mem hu
      obtain ⟨k, x, hx, h9⟩ := flat5_of vs j u hj
      obtain ⟨y0, y1, y2, y3, y4⟩ := hone1 x (List.mem_of_getElem? hx)
      rcases h9 with ⟨-, rfl⟩ | ⟨-, rfl⟩ | ⟨-, rfl⟩ | ⟨-, rfl⟩ | ⟨-, rfl⟩ <;> assumption
    rcases hown.2 with ⟨rfl, h0⟩ | ⟨g0, cap, cur, rfl, e1, e2, e3, e4, e5, e6⟩
    · exact h2.keep_other hgr (fun g _ => by simp [Value.ownBlock])
    · have eB : Blk w g0 cur 31 := e2
      by_cases hroom : us.length + vs.length ≤ cap
      · have hsz : cur.size = cap * 5 := e5
        have e7 : i0.size = 5 := hz1
        have hrun := run_append_room_cells (P := Try.prog) w 22 ty 31 i0 Try.underlying22 hi g0 0 us.length cap ⟨b, o, none⟩ vs.length c (flat5 vs) (by rw [e7]; exact flat5_len vs) hnews hone hroom
          (fun j hj => by
            rw [e7, eB.cell]
            have : 0 + us.length * 5 + j < cur.size := by rw [flat5_len] at hj; omega
            simp only [Array.getElem?_eq_getElem this, Option.isSome_some])
          (fun j hj => eB.free _)
        rw [hr] at hrun
        rw [e7] at hrun
        cases hrun
        exact h2.keep_room eB hsz e6 hroom (fun g2 hne cs hB => Blk.grown hB hgr (by simp [Value.ownBlock]; exact fun h => hne h.symm)) (hag _ _ _ rfl hroom)
      · by_cases hv0 : vs = []
        · subst hv0; exact absurd e3 (by simp at hroom; omega)
        have hvl : 1 ≤ vs.length := by cases vs with | nil => exact absurd rfl hv0 | cons _ _ => simp
        have hrun := run_append_arg_grows (P := Try.prog) w 22 ty 31 i0 (.agg #[.int .i64 0, .string .empty, .string .empty, .slice none 0 0, .slice none 0 0]) 5 88 Try.underlying22 hi hz0 hz1 hz2 rfl (by decide) ⟨g0, 0, none⟩ us.length cap (flat5 us) (flat5_len us)
          (fun j u hj => by
            rw [Addr.add_lit, Nat.zero_add, eB.cell j]
            rw [← e6, List.getElem?_take] at hj
            split at hj
            · simpa using hj
            · cases hj)
          ⟨b, o, none⟩ vs.length c (flat5 vs) (flat5_len vs) hnews (by omega) (by unfold maxLen; omega) (by omega)
        obtain ⟨v3, w3, hr3, k1, k2⟩ := hrun
        rw [hr] at hr3
        cases hr3
        exact h2.keep_other k2 (fun g _ => by simp)
/-- Kept: the memory that was there, and the own rows of these. -/
def RA (base : Nat) (A D : List C5) (ac : C5) (w w' : World) : Prop :=
  Below base w w' ∧ ∀ v vs, (vs = [] ∨ vs = A ∨ vs = A ++ [ac] ∨ vs = A ++ [ac] ++ D ∨ vs = [ac]) → Own5 base w v vs → Own5 base w' v vs
theorem RA.refl (base : Nat) (A D : List C5) (ac : C5) (w : World) : RA base A D ac w w := ⟨Below.refl _ _, fun _ _ _ h => h⟩
theorem RA.trans {base : Nat} {A D : List C5} {ac : C5} {a b c : World} (h1 : RA base A D ac a b) (h2 : RA base A D ac b c) : RA base A D ac a c :=
  ⟨h1.1.trans h2.1, fun v vs h h3 => h2.2 v vs h (h1.2 v vs h h3)⟩
theorem RA.of {base : Nat} {A D : List C5} {ac : C5} {w w' : World} (hb : base ≤ w.heap.size) (h : Below w.heap.size w w') : RA base A D ac w w' :=
  ⟨h.mono hb, fun v vs _ h3 => h3.below h h3.lt⟩
theorem RA.drew {base : Nat} {A D : List C5} {ac : C5} (w : World) : RA base A D ac w { w with drawn := w.drawn + 1 } :=
  ⟨below_drewN (Below.refl _ w) 1, fun _ _ _ h => h⟩
/-- 'append' as a step, the rows kept. -/
theorem step_appR {C : Prop} [Decidable C] {o : Oper} {act : Act} {w : World} {K : Act → World → Prop} {Q : Exit → Act → World → Prop} {E : Prop} (hg : C) (s x : Operand)
    (ho : o.op = .call { callee := .builtin .append, args := #[s, x], argTypes := #[22, 22] }) (base : Nat) (v : Value) (us : List C5) (hs : act.eval s = v) (hown : Own5 base w v us)
    (ax : Option Addr) (n c : Nat) (vs : List C5) (hx : act.eval x = .slice ax n c) (hn : vs.length = n) (hA : Raw5 w ax c vs) (hone1 : ∀ p ∈ vs, p.one) (hl : us.length + vs.length ≤ 1000000000) (hb : base ≤ w.heap.size)
    (A D : List C5) (ac : C5) (hag : ∀ vs2, (vs2 = [] ∨ vs2 = A ∨ vs2 = A ++ [ac] ∨ vs2 = A ++ [ac] ++ D ∨ vs2 = [ac]) → ∀ a n cap, v = .slice (some a) n cap → us.length + vs.length ≤ cap → ∀ j x y, (flat5 vs2)[us.length * 5 + j]? = some x → (flat5 vs)[j]? = some y → y = x)
    (hK : ∀ v' w', Own5 base w' v' (us ++ vs) → RA base A D ac w w' → K (act.put o.dst v') w') :
    if C then Oper.wp Try.prog o act w K Q else E := by
  rw [if_pos hg]
  subst hn
  obtain ⟨v', w', hr, h1, h2, h3⟩ := run_app5 base v us hown ax c vs hA hone1 hl hb o.type
  unfold Oper.wp
  simp [execOp, ho, resolve, invoke, builtin, hs, hx, hr, Result.andThen]
  exact hK v' w' h1 ⟨hown.grown h2 (Nat.le_refl _) hb, fun v2 vs2 hin h9 => keep_app5 base v v' us hown ax c vs hA hone1 hl hb o.type hr h2 v2 vs2 h9 (hag vs2 hin)⟩
def MPe (base : Nat) (A D : List C5) (ac : C5) : RC.MP (RA base A D ac) := ⟨fun v w => (∃ g, v = .slice (some ⟨g, 0, none⟩) 0 0) ∧ Own5 base w v [], fun v _ _ h hr => ⟨h.1, hr.2 v [] (.inl rfl) h.2⟩⟩
def MPo (base : Nat) (A D : List C5) (ac : C5) (vs : List C5) (hin : vs = [] ∨ vs = A ∨ vs = A ++ [ac] ∨ vs = A ++ [ac] ++ D ∨ vs = [ac]) : RC.MP (RA base A D ac) := ⟨fun v w => Own5 base w v vs, fun v _ _ h hr => hr.2 v vs hin h⟩
def MPb (base : Nat) (A D : List C5) (ac : C5) : RC.MP (RA base A D ac) := ⟨fun v w => (∃ g, v = .slice (some ⟨g, 0, none⟩) 1 1) ∧ Own5 base w v [ac], fun v _ _ h hr => ⟨h.1, hr.2 v [ac] (by simp) h.2⟩⟩
theorem Own5.raw {base : Nat} {w : World} {g n cap : Nat} {vs : List C5} (h : Own5 base w (.slice (some ⟨g, 0, none⟩) n cap) vs) : Raw5 w (some ⟨g, 0, none⟩) cap vs := by
  refine ⟨(fun h => nomatch h), fun ad had => ?_⟩
  cases had
  refine ⟨g, 0, rfl, fun j u hj => ?_⟩
  rcases h.2 with ⟨h0, -⟩ | ⟨g2, cap2, cur, e, h1, h2, h3, h4, h5, h6⟩
  · cases h0
  · cases e
    have hB : Blk w g cur 31 := h2
    rw [Nat.zero_add, hB.cell j]
    rw [← h6, List.getElem?_take] at hj
    split at hj
    · simpa using hj
    · cases hj
theorem Own5.box {base : Nat} {w : World} {g : Nat} {ac : C5} (hb : base ≤ g) (hB : Blk w g ac.arr 31) : Own5 base w (.slice (some ⟨g, 0, none⟩) 1 1) [ac] :=
  ⟨rfl, .inr ⟨g, 1, ac.arr, rfl, hb, hB, Nat.le_refl _, by unfold maxLen; omega, rfl, rfl⟩⟩
theorem Own5.bare {base : Nat} {w : World} {g : Nat} (hb : base ≤ g) (hB : Blk w g #[] 31) : Own5 base w (.slice (some ⟨g, 0, none⟩) 0 0) [] :=
  ⟨rfl, .inr ⟨g, 0, #[], rfl, hb, hB, Nat.le_refl _, Nat.zero_le _, rfl, rfl⟩⟩
/-- The attribute joins. -/
theorem agree_mid {A D : List C5} {ac : C5} {vs2 : List C5} (h : vs2 = [] ∨ vs2 = A ∨ vs2 = A ++ [ac] ∨ vs2 = A ++ [ac] ++ D ∨ vs2 = [ac]) (j : Nat) (x y : Value) (hx : (flat5 vs2)[A.length * 5 + j]? = some x) (hy : (flat5 [ac])[j]? = some y) : y = x := by
  have hl := flat5_len A
  have key : ∀ r, (flat5 (A ++ [ac] ++ r))[A.length * 5 + j]? = some x → y = x := by
    intro r hr
    have hj : j < (flat5 [ac]).length := by
      rcases Nat.lt_or_ge j (flat5 [ac]).length with q | q
      · exact q
      · simp [List.getElem?_eq_none q] at hy
    rw [flat5_app, flat5_app, List.append_assoc, List.getElem?_append_right (by omega), hl, show A.length * 5 + j - A.length * 5 = j by omega, List.getElem?_append_left hj, hy] at hr
    simpa using hr
  rcases h with rfl | rfl | rfl | rfl | rfl
  · simp [flat5] at hx
  · rw [List.getElem?_eq_none (by omega)] at hx
    cases hx
  · exact key [] (by simpa using hx)
  · exact key D hx
  · cases A with
    | nil => simp at hx; rw [hy] at hx; simpa using hx
    | cons p r =>
      rw [List.getElem?_eq_none (by rw [flat5_len]; simp; omega)] at hx
      cases hx
theorem agree_end {A D : List C5} {ac : C5} {vs2 : List C5} (h : vs2 = [] ∨ vs2 = A ∨ vs2 = A ++ [ac] ∨ vs2 = A ++ [ac] ++ D ∨ vs2 = [ac]) (j : Nat) (x y : Value) (hx : (flat5 vs2)[(A ++ [ac]).length * 5 + j]? = some x) (hy : (flat5 D)[j]? = some y) : y = x := by
  have hl := flat5_len (A ++ [ac])
  rcases h with rfl | rfl | rfl | rfl | rfl
  · simp [flat5] at hx
  · rw [List.getElem?_eq_none (by rw [flat5_len]; simp; omega)] at hx
    cases hx
  · rw [List.getElem?_eq_none (by omega)] at hx
    cases hx
  · rw [flat5_app, List.getElem?_append_right (by omega), hl, show (A ++ [ac]).length * 5 + j - (A ++ [ac]).length * 5 = j by omega, hy] at hx
    simpa using hx
  · rw [List.getElem?_eq_none (by rw [flat5_len]; simp; omega)] at hx
    cases hx
end Go.Proofs.Ytgdbbocfiejlfaa

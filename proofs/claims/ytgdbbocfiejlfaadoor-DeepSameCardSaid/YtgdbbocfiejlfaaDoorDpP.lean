/- slices.DeleteFunc: walked; the program's plain. -/
import Derived.Test.YtgdbbocfiejlfaaDoorDpO
set_option linter.unusedSimpArgs false
set_option linter.unusedVariables false
set_option linter.constructorNameAsVariable false
namespace Go.Proofs.YtgdbbocfiejlfaaDoor
open Go.RowKit

def keepC (c : C5) : Bool := c.kind != 5
theorem keep_take (vs : List C5) (j : Nat) (x : C5) (hj : vs[j]? = some x) : (vs.take (j + 1)).filter keepC = (vs.take j).filter keepC ++ (if keepC x then [x] else []) := by
  rw [take_one vs j x hj, List.filter_append, List.filter_cons, List.filter_nil]
/-- What the row holds on the way. -/
structure KI (vs L : List C5) (i j : Nat) : Prop where
  len : L.length = vs.length
  lo : L.take i = (vs.take j).filter keepC
  il : ((vs.take j).filter keepC).length = i
  lt : i < j
  hi : L.drop j = vs.drop j
theorem KI.keep {vs L : List C5} {i j : Nat} (h : KI vs L i j) {x : C5} (hj : vs[j]? = some x) (hk : keepC x = true) : KI vs (L.set i x) (i + 1) (j + 1) := by
  have hlt : j < vs.length := by
    rcases Nat.lt_or_ge j vs.length with h' | h'
    · exact h'
    · simp [List.getElem?_eq_none h'] at hj
  have e : (L.set i x).take (i + 1) = L.take i ++ [x] := by
    have hi : i < (L.set i x).length := by rw [List.length_set, h.len]; have := h.lt; omega
    rw [take_one (L.set i x) i x (by simp [List.getElem?_set_self (by have := h.lt; have := h.len; omega : i < L.length)])]
    congr 1
    rw [List.take_set_of_le (Nat.le_refl _)]
  have hkt := keep_take vs j x hj
  rw [hk] at hkt
  simp only [if_true] at hkt
  refine ⟨by rw [List.length_set]; exact h.len, by rw [e, h.lo, hkt], by rw [hkt, List.length_append, h.il]; rfl, by have := h.lt; omega, ?_⟩
  have h1 : L.drop (j + 1) = vs.drop (j + 1) := by
    have := congrArg (List.drop 1) h.hi
    simpa [List.drop_drop] using this
  rw [List.drop_set_of_lt (by have := h.lt; omega), h1]
theorem KI.skip {vs L : List C5} {i j : Nat} (h : KI vs L i j) {x : C5} (hj : vs[j]? = some x) (hk : keepC x = false) : KI vs L i (j + 1) := by
  have hkt := keep_take vs j x hj
  rw [hk] at hkt
  simp only [Bool.false_eq_true, if_false, List.append_nil] at hkt
  refine ⟨h.len, by rw [hkt]; exact h.lo, by rw [hkt]; exact h.il, by have := h.lt; omega, ?_⟩
  have := congrArg (List.drop 1) h.hi
  simpa [List.drop_drop] using this
theorem KI.start {vs : List C5} {i : Nat} {c : C5} (ha : ∀ c ∈ vs.take i, c.kind ≠ 5) (hi : vs[i]? = some c) (hc : c.kind = 5) : KI vs vs i (i + 1) := by
  have hlt : i < vs.length := by
    rcases Nat.lt_or_ge i vs.length with h' | h'
    · exact h'
    · simp [List.getElem?_eq_none h'] at hi
  have hf : (vs.take i).filter keepC = vs.take i := List.filter_eq_self.2 fun c hc => by simp [keepC, ha c hc]
  have hkt := keep_take vs i c hi
  rw [show keepC c = false by simp [keepC, hc]] at hkt
  simp only [Bool.false_eq_true, if_false, List.append_nil] at hkt
  exact ⟨rfl, by rw [hkt, hf], by rw [hkt, hf, List.length_take]; omega, by omega, rfl⟩
theorem clear_own {w : World} {g sz : Nat} {L : List C5} (h : Blk5 w g L sz) (i c : Nat) (hi : i < L.length) : ∃ zs, (Builtin.clear_ #[24] 0 #[.slice (some ⟨g, i * 5, none⟩) (L.length - i) c]).run Tryd.prog w = .ok (.tuple #[]) (w.setCells g (i * 5) zs) := by
  refine clear_run w g (i * 5) (L.length - i) c (by omega) (fun q hq => ?_) (fun q => ?_) _
  · have hk : i + q / 5 < L.length := by omega
    obtain ⟨⟨y0, y1, y2, y3, y4⟩, -⟩ := h.cells (i + q / 5) L[i + q / 5] (List.getElem?_eq_getElem hk)
    have e : i * 5 + q = (i + q / 5) * 5 + q % 5 := by omega
    have hm : q % 5 = 0 ∨ q % 5 = 1 ∨ q % 5 = 2 ∨ q % 5 = 3 ∨ q % 5 = 4 := by omega
    rw [e]
    rcases hm with h | h | h | h | h <;> rw [h]
    · rw [Nat.add_zero, y0]; rfl
    · rw [y1]; rfl
    · rw [y2]; rfl
    · rw [y3]; rfl
    · rw [y4]; rfl
  · exact (h.cells i L[i] (List.getElem?_eq_getElem hi)).2 q
set_option maxRecDepth 100000 in
set_option maxHeartbeats 4000000 in
theorem delete_any (g cap : Nat) (vs : List C5) (w : World) (hB : Blk5 w g vs (cap * 5)) (hN : ∀ c ∈ vs, c.node) (hcap : vs.length ≤ cap) (hl : cap ≤ 9223372036854775807) :
    Calls Tryd.prog 29 #[.slice (some ⟨g, 0, none⟩) vs.length cap, .func (.func 31) #[] #[]] w fun e w' => e = .returned (.slice (some ⟨g, 0, none⟩) (vs.filter keepC).length cap) ∧ Blk5 w' g (vs.filter keepC) (cap * 5) ∧ Below g w w' := by
  have CI := Lib.hid (index_any g cap (cap * 5) vs w hB hN (by omega))
  have HB := Lib.hid hB
  have HN := Lib.hid hN
  have hg := hB.lt
  obtain ⟨nv, hnv⟩ : ∃ nv, vs.length = nv := ⟨_, rfl⟩
  rw [hnv] at CI hcap
  rw [hnv]
  have HV := Lib.hid hnv
  clear hB hN hnv
  go_enter Tryd.func29, Tryd.ntmps29
  go_wp2_with fail
  with_reducible refine CI.out.mono ?_
  rintro e w1 ⟨⟨r, rfl, hr⟩, hb⟩
  have hw1 : Below g w w1 := hb.mono (by omega)
  have HB1 := Lib.hid (HB.out.below hb hg)
  have hg1 : g < w1.heap.size := Nat.lt_of_lt_of_le hg hb.size
  clear hb CI HB
  rcases hr with ⟨rfl, hall⟩ | ⟨i0, rfl, hi0, hpre, c, hc, hk5⟩
  · have hf : vs.filter keepC = vs := List.filter_eq_self.2 fun c hc => by simp [keepC, hall c hc]
    have HF := Lib.hid hf
    clear hall hf
    go_wp2_with fail
    go_returns
    rw [HF.out, HV.out]
    exact ⟨rfl, HB1.out, hw1⟩
  · have hi1 : ((i0 : Int) == -1) = false := by
      rw [beq_eq_false_iff_ne]
      exact fun e => by omega
    have i3 : IntKind.i64.wrap ((i0 : Int) + 1) = (i0 : Int) + 1 := IntWalk.i64_in _ (by omega)
    have HK := Lib.hid (KI.start hpre hc hk5)
    have hi0' : i0 < nv := by have := HV.out; omega
    clear hpre hc hk5 hi0
    go_wp2_with fail
    go_loopg [5, 6] (nv + 1) (fun m ii jj wr => ∃ (i j : Nat) (L : List C5), j ≤ nv ∧ nv + 1 ≤ m + j ∧ ii = .int .i64 (i : Int) ∧ jj = .int .i64 (j : Int) ∧ Below g w wr ∧ Hid (KI vs L i j ∧ Blk5 wr g L (cap * 5)))
    case atStart => exact ⟨i0, i0 + 1, vs, by omega, by omega, rfl, by rw [Int.natCast_add]; rfl, hw1, HK.out, HB1.out⟩
    case round =>
      obtain ⟨i, j, L, hj, hmj, rfl, rfl, hwr, HI⟩ := hrel
      have hj0 : (0 : Int) ≤ (j : Int) := Int.natCast_nonneg _
      have hi0 : (0 : Int) ≤ (i : Int) := Int.natCast_nonneg _
      have hij : i < j := HI.out.1.lt
      have hLl : L.length = nv := HI.out.1.len.trans HV.out
      have hgr : g < wr.heap.size := HI.out.2.lt
      by_cases hlt : j < nv
      · have i0' : decide ((j : Int) < (nv : Int)) = true := by simp; omega
        have i6 : (j : Int) < (nv : Int) := by omega
        have i7 : (i : Int) < (nv : Int) := by omega
        obtain ⟨x, hjx⟩ : ∃ x, vs[j]? = some x := ⟨vs[j]'(by rw [HV.out]; exact hlt), by simp⟩
        have hLx : L[j]? = some x := by
          have := congrArg (fun l => l[0]?) HI.out.1.hi
          simpa [List.getElem?_drop, hjx] using this
        obtain ⟨⟨u0, u1, u2, u3, u4⟩, -⟩ := HI.out.2.cells j x hLx
        have hNx := HN.out x (List.mem_of_getElem? hjx)
        have CD := Lib.hid (fun w' => del_any x hNx w')
        have HKe := Lib.hid (fun hk => HI.out.1.keep hjx hk)
        have HSk := Lib.hid (fun hk => HI.out.1.skip hjx hk)
        obtain ⟨kq, hkq⟩ : ∃ kq, x.kind = kq := ⟨_, rfl⟩
        rw [hkq] at CD
        have HKQ := Lib.hid (show keepC x = (kq != 5) by unfold keepC; rw [hkq])
        have HX := Lib.hid (show x = x from rfl)
        obtain ⟨x', hx'⟩ : ∃ x', x' = x := ⟨_, rfl⟩
        have HX' := Lib.hid hx'
        rw [← hx'] at HKe HSk HKQ
        obtain ⟨k, n, v, aa, la, ca, ka, lk, ck, rfl⟩ := hNx
        simp only at u0 u1 u2 u3 u4
        unfold C5.arr at CD
        simp only at CD
        clear hjx hLx hkq hx' HX
        cases ek : (kq == 5)
        · have HK2 := Lib.hid (HKe.out (by rw [HKQ.out]; unfold bne; rw [ek]; rfl))
          clear HKe HSk
          go_wp2_with (go_at_call 31; with_reducible refine (CD.out _).mono ?_; rintro e w5 ⟨rfl, hb5⟩
                       have hw5 : Below g w w5 := (hwr.alloc (by omega) _).trans (hb5.mono (by simp; omega))
                       have B7 : Blk w5 wr.heap.size #[.int .i64 k, .string n, .string v, .slice aa la ca, .slice ka lk ck] 26 := (Blk.new _ _ _).below hb5 (by simp)
                       have B5 := (HI.out.2.alloc (.cells #[.int .i64 k, .string n, .string v, .slice aa la ca, .slice ka lk ck] 26)).below hb5 (by simp; omega)
                       have k5 := B5.lt
                       have k7 := B7.lt
                       obtain ⟨⟨z0, z1, z2, z3, z4⟩, -⟩ := B7.five5
                       obtain ⟨y, hy⟩ : ∃ y, L[i]? = some y := ⟨L[i]'(by omega), by simp⟩
                       obtain ⟨⟨p0, p1, p2, p3, p4⟩, pf⟩ := B5.cells i y hy
                       have f0 := pf (i * 5)
                       have f1 := pf (i * 5 + 1)
                       have f2 := pf (i * 5 + 2)
                       have f3 := pf (i * 5 + 3)
                       have f4 := pf (i * 5 + 4)
                       have HB5 := Lib.hid B5
                       clear pf hy B5 u0 u1 u2 u3 u4 hb5)
          have hB5 : Blk5 (((((w5.setCell ⟨g, i * 5, none⟩ (.int .i64 k)).setCell ⟨g, i * 5 + 1, none⟩ (.string n)).setCell ⟨g, i * 5 + 2, none⟩ (.string v)).setCell ⟨g, i * 5 + 3, none⟩ (.slice aa la ca)).setCell ⟨g, i * 5 + 4, none⟩ (.slice ka lk ck)) g (L.set i ⟨.int .i64 k, .string n, .string v, .slice aa la ca, .slice ka lk ck⟩) (cap * 5) := HB5.out.put i ⟨.int .i64 k, .string n, .string v, .slice aa la ca, .slice ka lk ck⟩
          have hB6 : Blk5 (((((w5.setCell ⟨g, i * 5, none⟩ (.int .i64 k)).setCell ⟨g, i * 5 + 1, none⟩ (.string n)).setCell ⟨g, i * 5 + 2, none⟩ (.string v)).setCell ⟨g, i * 5 + 3, none⟩ (.slice aa la ca)).setCell ⟨g, i * 5 + 4, none⟩ (.slice ka lk ck)) g (L.set i x') (cap * 5) := by rw [HX'.out]; exact hB5
          have hw6 : Below g w (((((w5.setCell ⟨g, i * 5, none⟩ (.int .i64 k)).setCell ⟨g, i * 5 + 1, none⟩ (.string n)).setCell ⟨g, i * 5 + 2, none⟩ (.string v)).setCell ⟨g, i * 5 + 3, none⟩ (.slice aa la ca)).setCell ⟨g, i * 5 + 4, none⟩ (.slice ka lk ck)) := ((((hw5.setCell (p := ⟨g, i * 5, none⟩) (Nat.le_refl _) (.int .i64 k)).setCell (p := ⟨g, i * 5 + 1, none⟩) (Nat.le_refl _) (.string n)).setCell (p := ⟨g, i * 5 + 2, none⟩) (Nat.le_refl _) (.string v)).setCell (p := ⟨g, i * 5 + 3, none⟩) (Nat.le_refl _) (.slice aa la ca)).setCell (p := ⟨g, i * 5 + 4, none⟩) (Nat.le_refl _) (.slice ka lk ck)
          generalize (((((w5.setCell ⟨g, i * 5, none⟩ (.int .i64 k)).setCell ⟨g, i * 5 + 1, none⟩ (.string n)).setCell ⟨g, i * 5 + 2, none⟩ (.string v)).setCell ⟨g, i * 5 + 3, none⟩ (.slice aa la ca)).setCell ⟨g, i * 5 + 4, none⟩ (.slice ka lk ck)) = W6 at *
          go_roundg (gk - 1)
          case measure => omega
          case rel => exact ⟨i + 1, j + 1, L.set i x', by omega, by omega, by go_num, by go_num, hw6, HK2.out, hB6⟩
        · have HK2 := Lib.hid (HSk.out (by rw [HKQ.out]; unfold bne; rw [ek]; rfl))
          clear HKe HSk
          go_wp2_with (go_at_call 31; with_reducible refine (CD.out _).mono ?_; rintro e w5 ⟨rfl, hb5⟩
                       have hw5 : Below g w w5 := (hwr.alloc (by omega) _).trans (hb5.mono (by simp; omega))
                       have HB5 := Lib.hid ((HI.out.2.alloc (.cells #[.int .i64 k, .string n, .string v, .slice aa la ca, .slice ka lk ck] 26)).below hb5 (by simp; omega)))
          go_roundg (gk - 1)
          case measure => omega
          case rel => exact ⟨i, j + 1, L, by omega, by omega, rfl, by go_num, hw5, HK2.out, HB5.out⟩
      · have i0' : decide ((j : Int) < (nv : Int)) = false := by simp; omega
        obtain rfl : j = nv := by omega
        have hlo := HI.out.1.lo
        have hil := HI.out.1.il
        have hvt : vs.take j = vs := List.take_of_length_le (by rw [HV.out]; exact Nat.le_refl _)
        rw [hvt] at hlo hil
        obtain ⟨zs, hcl⟩ := clear_own HI.out.2 i (cap - i) (by omega)
        rw [hLl] at hcl
        have hBF := HI.out.2.cleared i (by omega) zs
        rw [hlo] at hBF
        have hwF := below_setCells (Nat.le_refl g) zs (i * 5) w wr hwr
        have HF := Lib.hid (And.intro hil (And.intro hBF hwF))
        clear hlo hil hBF hwF
        go_wp2_with fail
        go_returns
        rw [HF.out.1]
        exact ⟨rfl, HF.out.2.1, HF.out.2.2⟩
set_option maxRecDepth 100000 in
theorem index_none (w : World) : Calls Tryd.prog 43 #[.slice none 0 0, .func (.func 31) #[] #[]] w fun e w' => e = .returned (.int .i64 (-1)) ∧ Below w.heap.size w w' := by
  go_enter Tryd.func43, Tryd.ntmps43
  go_wp2
  refine wp_loop_rounds 1 ?_
  rw [rounds_succ]
  go_wp2
  go_returns
  exact ⟨rfl, Below.refl _ _⟩
set_option maxRecDepth 100000 in
theorem delete_none (w : World) : Calls Tryd.prog 29 #[.slice none 0 0, .func (.func 31) #[] #[]] w fun e w' => e = .returned (.slice none 0 0) ∧ Below w.heap.size w w' := by
  have CI := Lib.hid (index_none w)
  go_enter Tryd.func29, Tryd.ntmps29
  go_wp2_with fail
  with_reducible refine CI.out.mono ?_
  rintro e w1 ⟨rfl, hb⟩
  go_wp2_with fail
  go_returns
  exact ⟨rfl, hb⟩
theorem rep_plain (h : Nat) (w : World) : ∀ (ks : List (Tr h)) (vs : List C5), Rep5 h w ks vs → Rep5 h w (plainT h ks) (vs.filter keepC)
  | [], vs, H => by
    have : vs = [] := List.length_eq_zero_iff.1 H.1
    subst this
    exact ⟨rfl, fun j x c hx => by simp [plainT] at hx⟩
  | x :: r, [], H => by have := H.1; simp at this
  | x :: r, c :: s, H => by
    have hT := H.2 0 x c rfl rfl
    have ih := rep_plain h w r s ⟨by simpa using H.1, fun j y d hy hd => H.2 (j + 1) y d (by simpa using hy) (by simpa using hd)⟩
    have hk : keepC c = (kindT h x != 5) := by
      unfold keepC
      rw [hT.node.2]
    show Rep5 h w (List.filter _ (x :: r)) _
    rw [List.filter_cons, List.filter_cons, hk]
    cases e : (kindT h x != 5)
    · exact ih
    · simp only [if_true]
      refine ⟨by simp; exact ih.1, fun j y d hy hd => ?_⟩
      cases j with
      | zero =>
        simp at hy hd
        subst hy hd
        exact hT
      | succ j => exact ih.2 j y d (by simpa [plainT] using hy) (by simpa using hd)
theorem krow_blk {h : Nat} {w0 w : World} {g sz : Nat} {xs : List (Tr h)} {vs : List C5} (hR : Rep5 h w0 xs vs) (hB : Blk5 w g vs sz) (hb : Below w0.heap.size w0 w) : TRowT h w (some ⟨g, 0, none⟩) xs := by
  refine .inr ⟨g, 0, rfl, hB.lt, trivial, fun j x hj => ?_⟩
  obtain ⟨c, hjc⟩ : ∃ c, vs[j]? = some c := by
    have : j < vs.length := by
      rw [hR.1]
      rcases Nat.lt_or_ge j xs.length with h' | h'
      · exact h'
      · simp [List.getElem?_eq_none h'] at hj
    exact ⟨vs[j], by simp [this]⟩
  obtain ⟨⟨y0, y1, y2, y3, y4⟩, -⟩ := hB.cells j c hjc
  simp only [Nat.zero_add]
  exact ⟨_, _, _, _, _, y0, y1, y2, y3, y4, (hR.2 j x c hj hjc).on hb⟩
set_option maxRecDepth 100000 in
set_option maxHeartbeats 2000000 in
theorem pplain_any (h : Nat) (a : Option Addr) (c : Nat) (ks : List (Tr h)) (w : World) (hT : TRowT h w a ks) (hn : a = none → c = 0) (hl : ks.length ≤ 1000000) :
    Calls Tryd.prog 17 #[.slice a ks.length c] w fun e w' => (∃ a' c', e = .returned (.slice a' (plainT h ks).length c') ∧ TRowT h w' a' (plainT h ks)) ∧ Below w.heap.size w w' := by
  have CC := Lib.hid (clone_any h a c ks w hT hn hl)
  clear hT hn
  go_enter Tryd.func17, Tryd.ntmps17
  go_wp2_with fail
  with_reducible refine CC.out.mono ?_
  rintro e w1 ⟨⟨v, vs, rfl, hO, hR, hN⟩, hb⟩
  have hRp := rep_plain h w ks vs hR
  obtain ⟨hle, hO2⟩ := hO
  rcases hO2 with ⟨rfl, h0⟩ | ⟨g, cap, cur, rfl, e1, e2, e3, e4, e5, e6⟩
  · have hv : vs = [] := List.length_eq_zero_iff.1 h0
    subst hv
    have hp0 : plainT h ks = [] := List.length_eq_zero_iff.1 (by rw [← hRp.1]; rfl)
    have HP0 := Lib.hid hp0
    have CD := Lib.hid (delete_none w1)
    clear hR hN hRp hle hp0
    go_wp2_with fail
    with_reducible refine CD.out.mono ?_
    rintro e w2 ⟨rfl, hb2⟩
    have hw2 := hb.trans (hb2.mono hb.size)
    go_wp2_with fail
    go_returns
    rw [HP0.out]
    exact ⟨⟨none, 0, rfl, .inl rfl⟩, hw2⟩
  · have hB : Blk5 w1 g vs (cap * 5) := ⟨cur, e5, e2, e6⟩
    have CD := Lib.hid (delete_any g cap vs w1 hB hN e3 (by unfold maxLen at e4; omega))
    have HRp := Lib.hid hRp
    clear hR hN hRp hle hB e2 e5 e6
    go_wp2_with fail
    with_reducible refine CD.out.mono ?_
    rintro e w2 ⟨rfl, hB2, hb2⟩
    have hw2 : Below w.heap.size w w2 := hb.trans (hb2.mono e1)
    go_wp2_with fail
    go_returns
    rw [← HRp.out.1]
    exact ⟨⟨some ⟨g, 0, none⟩, cap, rfl, krow_blk HRp.out hB2 hw2⟩, hw2⟩
end Go.Proofs.YtgdbbocfiejlfaaDoor

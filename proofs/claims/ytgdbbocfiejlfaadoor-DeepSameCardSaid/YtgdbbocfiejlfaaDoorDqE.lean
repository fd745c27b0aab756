/- DeepSame's walk. -/
import Derived.Test.YtgdbbocfiejlfaaDoorDqB
import Derived.Test.YtgdbbocfiejlfaaDoorDqC
import Derived.RangeFuncBox
set_option linter.unusedSimpArgs false
set_option linter.unusedVariables false
set_option linter.constructorNameAsVariable false
namespace Go.Proofs.YtgdbbocfiejlfaaDoor
open Go.RowKit

theorem few_more {h : Nat} {k : Int} {n v : ByteArray} {ps : List Pr} {ks : List (Tr h)} {r : List (Tr (h + 1))} (hf : fewF (h + 1) 400 ((⟨k, n, v, ps, ks⟩ : Nd (Tr h)) :: r) = true) : ks.length + 1 ≤ 400 := by
  have h0 : 0 ≤ kidsP (partsF (h + 1)) ((⟨k, n, v, ps, ks⟩ : Nd (Tr h)) :: r) 400 := by simpa [fewF] using hf
  unfold kidsP at h0
  rw [if_neg (by decide)] at h0
  have h1 := kidsP_le (partsF_le (h + 1)) r (partsF (h + 1) (⟨k, n, v, ps, ks⟩ : Nd (Tr h)) 400)
  have h2 : 0 ≤ kidsP (partsF h) ks (400 - 1 - (ps.length : Int)) := by
    have h3 : partsF (h + 1) (⟨k, n, v, ps, ks⟩ : Nd (Tr h)) 400 = kidsP (partsF h) ks (400 - 1 - (ps.length : Int)) := rfl
    rw [← h3]
    exact Int.le_trans h0 h1
  have h4 := (kidsP_small (Q := fun _ => True) (partsF_le h) (fun _ _ _ _ => trivial) ks (400 - 1 - (ps.length : Int)) (by omega) h2).1
  omega
/-- The comment. -/
def cmt (h : Nat) : Tr (h + 1) := (⟨5, ⟨#[]⟩, ⟨#[109, 111, 114, 101]⟩, [], []⟩ : Nd (Tr h))
abbrev cmtC : C5 := ⟨.int .i64 5, .string ⟨#[]⟩, .string ⟨#[109, 111, 114, 101]⟩, .slice none 0 0, .slice none 0 0⟩
theorem cmt_lies (h : Nat) (w : World) : TLies All (h + 1) w (cmt h) cmtC.arr :=
  ⟨_, _, _, _, rfl, fun _ => rfl, fun _ => rfl, (show (0 : Nat) ≤ 9223372036854775807 by decide), (show (0 : Nat) ≤ 9223372036854775807 by decide), .inl rfl, .inl rfl⟩
theorem cmt_small (h : Nat) : SmallT (h + 1) (cmt h) := ⟨(show (0 : Nat) ≤ 400 by decide), (show (0 : Nat) ≤ 400 by decide), fun k hk => by cases hk⟩
theorem Own5.setO {base : Nat} {w : World} {v : Value} {vs : List C5} (h : Own5 base w v vs) {q : Nat} (hq : v.ownBlock ≠ some q) (i : Nat) (x : Value) : Own5 base (w.setCell ⟨q, i, none⟩ x) v vs := by
  refine ⟨h.1, ?_⟩
  rcases h.2 with h0 | ⟨g, cap, cur, rfl, h1, h2, h3, h4, h5, h6⟩
  · exact .inl h0
  · exact .inr ⟨g, cap, cur, rfl, h1, (show Blk _ g cur 26 from Blk.other h2 (fun e => hq (by simp [Value.ownBlock] at e ⊢; exact e)) x), h3, h4, h5, h6⟩
theorem more_lies (h : Nat) (k : Int) (n v : ByteArray) (ps : List Pr) (ks : List (Tr (h + 1))) (np nk : Nat) (hnp : ps.length = np) (hnk : ks.length = nk) (base : Nat) (w4 A w6 : World) (ar : Option Addr) (cr : Nat) (as' : Option Addr) (cs' : Nat) (vs : List C5) (g cap : Nat) (x : Value)
    (hn' : ar = none → cr = 0) (HR : RepS (Apart base (.slice as' nk cs')) (h + 1) w4 ks vs) (HP : PRow (Apart base (.slice as' nk cs')) w4 ar ps)
    (hA : Below w4.heap.size w4 A) (hO6 : Own5 base w6 (.slice (some ⟨g, 0, none⟩) (nk + 1) cap) (vs ++ [cmtC])) (hg6 : A.grownBy w6 (Value.slice as' nk cs').ownBlock) (hgn : g ≠ w4.heap.size) (al : np ≤ 9223372036854775807) (kl : nk + 1 ≤ 9223372036854775807) :
    TLies All (h + 2) (w6.setCell ⟨w4.heap.size, 4, none⟩ x) (⟨k, n, v, ps, ks ++ [cmt h]⟩ : Nd (Tr (h + 1))) #[.int .i64 k, .string n, .string v, .slice ar np cr, .slice (some ⟨g, 0, none⟩) (nk + 1) cap] := by
  have hO7 := hO6.setO (q := w4.heap.size) (by simpa [Value.ownBlock] using hgn) 4 x
  have hk1 : Kept (fun b => Apart base (.slice as' nk cs') b ∧ b ≠ w4.heap.size) A w6 := ⟨(grown_kept (n := base) hg6).size, fun b o hs hl => (grown_kept hg6).cell b o hs.1 hl⟩
  have hk : Kept (fun b => Apart base (.slice as' nk cs') b ∧ b ≠ w4.heap.size) w4 (w6.setCell ⟨w4.heap.size, 4, none⟩ x) := ((kept_of hA).trans hk1).trans (set_kept fun b hb => hb.2)
  have st : ∀ b, Apart base (.slice as' nk cs') b → b < w4.heap.size → (Apart base (.slice as' nk cs') b ∧ b ≠ w4.heap.size) := fun b hb hl => ⟨hb, by omega⟩
  have HR7 : RepS All (h + 1) (w6.setCell ⟨w4.heap.size, 4, none⟩ x) ks vs := (HR.go (kept_of (Below.refl _ _)) st).go hk fun _ _ _ => trivial
  have HP7 : PRow All (w6.setCell ⟨w4.heap.size, 4, none⟩ x) ar ps := (HP.on (kept_of (Below.refl _ _)) st).on hk fun _ _ _ => trivial
  have HR8 := HR7.snoc (cmt h) cmtC (cmt_lies h _)
  obtain ⟨a9, c9, e9, hK, -⟩ := own5_read hO7 (ks ++ [cmt h]) (TLies All (h + 1) (w6.setCell ⟨w4.heap.size, 4, none⟩ x)) HR8.1 (fun i y c hy hc => HR8.2 i y c hy hc)
  subst hnp hnk
  have e8 : a9 = some ⟨g, 0, none⟩ := by simp at e9; exact e9.1.symm
  subst e8
  refine ⟨ar, cr, some ⟨g, 0, none⟩, cap, by simp, hn', (fun e => by cases e), al, by simpa using kl, HP7, ?_⟩
  exact hK.on (kept_of (Below.refl _ _)) (fun _ _ _ => trivial) (fun _ _ h => h)
set_option maxRecDepth 100000 in
set_option maxHeartbeats 8000000 in
theorem samelaw_walk (h : Nat) (k : Int) (n v : ByteArray) (ps : List Pr) (ks : List (Tr (h + 1))) (b c : Tr (h + 2)) (aa : Option Addr) (ca : Nat) (ka : Option Addr) (ck : Nat) (k2 : Int) (n2 v2 : ByteArray) (ab : Option Addr) (lb cb : Nat) (kb : Option Addr) (ll cl : Nat) (k3 : Int) (n3 v3 : ByteArray) (ac : Option Addr) (lc cc : Nat) (kc : Option Addr) (lm cm : Nat) (w : World)
    (HA0 : TLies All (h + 2) w (⟨k, n, v, ps, ks⟩ : Nd (Tr (h + 1))) #[.int .i64 k, .string n, .string v, .slice aa ps.length ca, .slice ka ks.length ck]) (HB0 : TLies All (h + 2) w b #[.int .i64 k2, .string n2, .string v2, .slice ab lb cb, .slice kb ll cl]) (HC0 : TLies All (h + 2) w c #[.int .i64 k3, .string n3, .string v3, .slice ac lc cc, .slice kc lm cm]) :
    Calls Tryd.prog 4 #[.agg #[.int .i64 k, .string n, .string v, .slice aa ps.length ca, .slice ka ks.length ck], .agg #[.int .i64 k2, .string n2, .string v2, .slice ab lb cb, .slice kb ll cl], .agg #[.int .i64 k3, .string n3, .string v3, .slice ac lc cc, .slice kc lm cm]] w fun e w' => e = .returned (.bool true) ∧ Below w.heap.size w w' := by
  have AW := Lib.hid (fun w => awake_any w)
  obtain ⟨T, hT⟩ : ∃ T : Tr (h + 2), T = (⟨k, n, v, ps, ks⟩ : Nd (Tr (h + 1))) := ⟨_, rfl⟩
  have HTT := Lib.hid hT
  rw [← hT] at HA0
  clear hT
  have HA := Lib.hid HA0
  have HB := Lib.hid HB0
  have HCC := Lib.hid HC0
  have FW : Hid (∀ q w', Below w.heap.size w w' → Blk w' q #[.int .i64 k, .string n, .string v, .slice aa ps.length ca, .slice ka ks.length ck, .int .i64 k2, .string n2, .string v2, .slice ab lb cb, .slice kb ll cl, .int .i64 k3, .string n3, .string v3, .slice ac lc cc, .slice kc lm cm] 26 → Calls Tryd.prog 6 #[.slice (some ⟨q, 0, none⟩) 3 3] w' fun e w'' => e = .returned (.bool (fewF (h + 2) 400 [T, b, c])) ∧ Below w'.heap.size w' w'') :=
    Lib.hid (fun q w' hb hB => small_any (h + 2) _ 3 [T, b, c] w' (trow_three hB (HA0.on hb) (HB0.on hb) (HC0.on hb)) (show (3 : Nat) ≤ 9223372036854775807 by decide))
  clear HA0 HB0 HC0
  obtain ⟨few, hfew⟩ : ∃ few, fewF (h + 2) 400 [T, b, c] = few := ⟨_, rfl⟩
  rw [hfew] at FW
  have HF := Lib.hid hfew
  clear hfew
  obtain ⟨np, hnp⟩ : ∃ np, ps.length = np := ⟨_, rfl⟩
  obtain ⟨nk, hnk⟩ : ∃ nk, ks.length = nk := ⟨_, rfl⟩
  have HNP := Lib.hid hnp
  have HNK := Lib.hid hnk
  rw [hnp, hnk] at HA FW ⊢
  clear hnp hnk
  go_enter Tryd.func4, Tryd.ntmps4
  go_wp2_with fail
  have BA : Blk (((w.alloc (.cells #[.int .i64 k, .string n, .string v, .slice aa np ca, .slice ka nk ck] 26)).alloc (.cells #[.int .i64 k2, .string n2, .string v2, .slice ab lb cb, .slice kb ll cl] 26)).alloc (.cells #[.int .i64 k3, .string n3, .string v3, .slice ac lc cc, .slice kc lm cm] 26)) w.heap.size #[.int .i64 k, .string n, .string v, .slice aa np ca, .slice ka nk ck] 26 := ((Blk.new _ _ _).alloc _).alloc _
  have BB : Blk (((w.alloc (.cells #[.int .i64 k, .string n, .string v, .slice aa np ca, .slice ka nk ck] 26)).alloc (.cells #[.int .i64 k2, .string n2, .string v2, .slice ab lb cb, .slice kb ll cl] 26)).alloc (.cells #[.int .i64 k3, .string n3, .string v3, .slice ac lc cc, .slice kc lm cm] 26)) (w.heap.size + 1) #[.int .i64 k2, .string n2, .string v2, .slice ab lb cb, .slice kb ll cl] 26 := by
    have := (Blk.new (w.alloc (.cells #[.int .i64 k, .string n, .string v, .slice aa np ca, .slice ka nk ck] 26)) #[.int .i64 k2, .string n2, .string v2, .slice ab lb cb, .slice kb ll cl] 26).alloc (.cells #[.int .i64 k3, .string n3, .string v3, .slice ac lc cc, .slice kc lm cm] 26)
    simpa using this
  have BC : Blk (((w.alloc (.cells #[.int .i64 k, .string n, .string v, .slice aa np ca, .slice ka nk ck] 26)).alloc (.cells #[.int .i64 k2, .string n2, .string v2, .slice ab lb cb, .slice kb ll cl] 26)).alloc (.cells #[.int .i64 k3, .string n3, .string v3, .slice ac lc cc, .slice kc lm cm] 26)) (w.heap.size + 1 + 1) #[.int .i64 k3, .string n3, .string v3, .slice ac lc cc, .slice kc lm cm] 26 := by
    have := Blk.new ((w.alloc (.cells #[.int .i64 k, .string n, .string v, .slice aa np ca, .slice ka nk ck] 26)).alloc (.cells #[.int .i64 k2, .string n2, .string v2, .slice ab lb cb, .slice kb ll cl] 26)) #[.int .i64 k3, .string n3, .string v3, .slice ac lc cc, .slice kc lm cm] 26
    simpa using this
  have hw0 : Below w.heap.size w (((w.alloc (.cells #[.int .i64 k, .string n, .string v, .slice aa np ca, .slice ka nk ck] 26)).alloc (.cells #[.int .i64 k2, .string n2, .string v2, .slice ab lb cb, .slice kb ll cl] 26)).alloc (.cells #[.int .i64 k3, .string n3, .string v3, .slice ac lc cc, .slice kc lm cm] 26)) := (((Below.refl _ _).alloc (Nat.le_refl _) _).alloc (by simp) _).alloc (by simp; omega) _
  generalize ((w.alloc (.cells #[.int .i64 k, .string n, .string v, .slice aa np ca, .slice ka nk ck] 26)).alloc (.cells #[.int .i64 k2, .string n2, .string v2, .slice ab lb cb, .slice kb ll cl] 26)).alloc (.cells #[.int .i64 k3, .string n3, .string v3, .slice ac lc cc, .slice kc lm cm] 26) = W at *
  with_reducible refine (AW.out _).mono ?_
  rintro e w1 ⟨rfl, hb⟩
  have hw1 : Below w.heap.size w w1 := hw0.trans (hb.mono hw0.size)
  replace BA := BA.below hb BA.lt
  replace BB := BB.below hb BB.lt
  replace BC := BC.below hb BC.lt
  clear hb
  have kA := BA.lt
  have kB := BB.lt
  have kC := BC.lt
  obtain ⟨⟨a0, a1, a2, a3, a4⟩, -⟩ := BA.five5
  obtain ⟨⟨b0, b1, b2, b3, b4⟩, -⟩ := BB.five5
  obtain ⟨⟨e0, e1, e2, e3, e4⟩, -⟩ := BC.five5
  go_wp2_with fail
  have hbq : Below w1.heap.size w1 (w1.alloc (.cells #[.int .i64 k, .string n, .string v, .slice aa np ca, .slice ka nk ck, .int .i64 k2, .string n2, .string v2, .slice ab lb cb, .slice kb ll cl, .int .i64 k3, .string n3, .string v3, .slice ac lc cc, .slice kc lm cm] 26)) := (Below.refl _ _).alloc (Nat.le_refl _) _
  have BQ : Blk (w1.alloc (.cells #[.int .i64 k, .string n, .string v, .slice aa np ca, .slice ka nk ck, .int .i64 k2, .string n2, .string v2, .slice ab lb cb, .slice kb ll cl, .int .i64 k3, .string n3, .string v3, .slice ac lc cc, .slice kc lm cm] 26)) w1.heap.size _ 26 := Blk.new _ _ _
  have hwq : Below w.heap.size w (w1.alloc (.cells #[.int .i64 k, .string n, .string v, .slice aa np ca, .slice ka nk ck, .int .i64 k2, .string n2, .string v2, .slice ab lb cb, .slice kb ll cl, .int .i64 k3, .string n3, .string v3, .slice ac lc cc, .slice kc lm cm] 26)) := hw1.trans (hbq.mono hw1.size)
  generalize w1.alloc (.cells #[.int .i64 k, .string n, .string v, .slice aa np ca, .slice ka nk ck, .int .i64 k2, .string n2, .string v2, .slice ab lb cb, .slice kb ll cl, .int .i64 k3, .string n3, .string v3, .slice ac lc cc, .slice kc lm cm] 26) = WQ at *
  with_reducible refine (FW.out _ _ hwq BQ).mono ?_
  rintro e w2 ⟨rfl, hb⟩
  have hw2 : Below w.heap.size w w2 := hwq.trans (hb.mono hwq.size)
  replace BA := (BA.below hbq BA.lt).below hb (Nat.lt_of_lt_of_le BA.lt hbq.size)
  replace BB := (BB.below hbq BB.lt).below hb (Nat.lt_of_lt_of_le BB.lt hbq.size)
  replace BC := (BC.below hbq BC.lt).below hb (Nat.lt_of_lt_of_le BC.lt hbq.size)
  clear hb hbq BQ hwq kA kB kC a0 a1 a2 a3 a4 b0 b1 b2 b3 b4 e0 e1 e2 e3 e4
  have kA := BA.lt
  have kB := BB.lt
  have kC := BC.lt
  obtain ⟨⟨a0, a1, a2, a3, a4⟩, -⟩ := BA.five5
  obtain ⟨⟨b0, b1, b2, b3, b4⟩, -⟩ := BB.five5
  obtain ⟨⟨e0, e1, e2, e3, e4⟩, -⟩ := BC.five5
  cases few
  · go_wp2_with fail
    with_reducible refine (AW.out _).mono ?_
    rintro e w3 ⟨rfl, hb⟩
    go_wp2_with fail
    go_returns
    exact ⟨rfl, hw2.trans (hb.mono hw2.size)⟩
  · have hsm := fewF_small (h + 2) 400 [T, b, c] (by decide) HF.out
    have SA := Lib.hid (hsm T (by simp))
    have SB := Lib.hid (hsm b (by simp))
    have SC := Lib.hid (hsm c (by simp))
    clear hsm
    have hsym := deep_symm (h + 2) T b
    have htr := deep_trans (h + 2) T b c
    have AAc := Lib.hid (fun w' (hb : Below w2.heap.size w2 w') => trees_any (h + 2) T T _ _ w' ((HA.out.on hw2).on hb) ((HA.out.on hw2).on hb) SA.out SA.out)
    have ABc := Lib.hid (fun w' (hb : Below w2.heap.size w2 w') => trees_any (h + 2) T b _ _ w' ((HA.out.on hw2).on hb) ((HB.out.on hw2).on hb) SA.out SB.out)
    have BAc := Lib.hid (fun w' (hb : Below w2.heap.size w2 w') => trees_any (h + 2) b T _ _ w' ((HB.out.on hw2).on hb) ((HA.out.on hw2).on hb) SB.out SA.out)
    have BCc := Lib.hid (fun w' (hb : Below w2.heap.size w2 w') => trees_any (h + 2) b c _ _ w' ((HB.out.on hw2).on hb) ((HCC.out.on hw2).on hb) SB.out SC.out)
    have ACc := Lib.hid (fun w' (hb : Below w2.heap.size w2 w') => trees_any (h + 2) T c _ _ w' ((HA.out.on hw2).on hb) ((HCC.out.on hw2).on hb) SA.out SC.out)
    rw [deep_refl] at AAc
    rw [← hsym] at BAc
    generalize deepF (h + 2) T b = AB at *
    generalize deepF (h + 2) b c = BCv at *
    clear hsym

    cases AB
    · go_wp2_with fail
      refine RC.region_steps (R := RB) 29 [some 19, some 20, some 21, some 22, some 23, some 24, some 25, some 26, some 27, some 28, some 29, some 30, some 31, some 32, some 33, some 34, some 35, some 36, some 37, some 38, some 39, some 40, some 41, some 42, some 43, some 44, some 45, some 46, some 47] (fun _ _ => True) (fun a b c h1 h2 => h1.trans (h2.mono h1.size)) (fun w => below_drewN (Below.refl _ w) 1) (fun _ => trivial) (by kernel_rfl) (by kernel_rfl) ?_
      -- 0: Op.load 26 (Operand.tmp 3)
      apply RC.ls_val (fun _ _ _ _ _ _ => trivial)
      · intro x w' hb hpre K hK
        have za0 := (hb.cell (p := ⟨w.heap.size, 0, none⟩) kA).trans a0
        have za1 := (hb.cell (p := ⟨w.heap.size, 1, none⟩) kA).trans a1
        have za2 := (hb.cell (p := ⟨w.heap.size, 2, none⟩) kA).trans a2
        have za3 := (hb.cell (p := ⟨w.heap.size, 3, none⟩) kA).trans a3
        have za4 := (hb.cell (p := ⟨w.heap.size, 4, none⟩) kA).trans a4
        have zb0 := (hb.cell (p := ⟨w.heap.size + 1, 0, none⟩) kB).trans b0
        have zb1 := (hb.cell (p := ⟨w.heap.size + 1, 1, none⟩) kB).trans b1
        have zb2 := (hb.cell (p := ⟨w.heap.size + 1, 2, none⟩) kB).trans b2
        have zb3 := (hb.cell (p := ⟨w.heap.size + 1, 3, none⟩) kB).trans b3
        have zb4 := (hb.cell (p := ⟨w.heap.size + 1, 4, none⟩) kB).trans b4
        have ze0 := (hb.cell (p := ⟨w.heap.size + 1 + 1, 0, none⟩) kC).trans e0
        have ze1 := (hb.cell (p := ⟨w.heap.size + 1 + 1, 1, none⟩) kC).trans e1
        have ze2 := (hb.cell (p := ⟨w.heap.size + 1 + 1, 2, none⟩) kC).trans e2
        have ze3 := (hb.cell (p := ⟨w.heap.size + 1 + 1, 3, none⟩) kC).trans e3
        have ze4 := (hb.cell (p := ⟨w.heap.size + 1 + 1, 4, none⟩) kC).trans e4
        clear hpre
        simp only [frL, Act.put, List.setIfInBounds_toArray, List.set_cons_zero, List.set_cons_succ, Nat.zero_add, Nat.reduceAdd] at hK ⊢
        have HK := Lib.hid hK
        clear hK
        refine Held.mk ?_
        go_simp
        exact HK.out _ (Below.refl _ _)
      -- 1: Op.load 26 (Operand.tmp 3)
      apply RC.ls_val (fun _ _ _ _ _ _ => trivial)
      · intro x w' hb hpre K hK
        have za0 := (hb.cell (p := ⟨w.heap.size, 0, none⟩) kA).trans a0
        have za1 := (hb.cell (p := ⟨w.heap.size, 1, none⟩) kA).trans a1
        have za2 := (hb.cell (p := ⟨w.heap.size, 2, none⟩) kA).trans a2
        have za3 := (hb.cell (p := ⟨w.heap.size, 3, none⟩) kA).trans a3
        have za4 := (hb.cell (p := ⟨w.heap.size, 4, none⟩) kA).trans a4
        have zb0 := (hb.cell (p := ⟨w.heap.size + 1, 0, none⟩) kB).trans b0
        have zb1 := (hb.cell (p := ⟨w.heap.size + 1, 1, none⟩) kB).trans b1
        have zb2 := (hb.cell (p := ⟨w.heap.size + 1, 2, none⟩) kB).trans b2
        have zb3 := (hb.cell (p := ⟨w.heap.size + 1, 3, none⟩) kB).trans b3
        have zb4 := (hb.cell (p := ⟨w.heap.size + 1, 4, none⟩) kB).trans b4
        have ze0 := (hb.cell (p := ⟨w.heap.size + 1 + 1, 0, none⟩) kC).trans e0
        have ze1 := (hb.cell (p := ⟨w.heap.size + 1 + 1, 1, none⟩) kC).trans e1
        have ze2 := (hb.cell (p := ⟨w.heap.size + 1 + 1, 2, none⟩) kC).trans e2
        have ze3 := (hb.cell (p := ⟨w.heap.size + 1 + 1, 3, none⟩) kC).trans e3
        have ze4 := (hb.cell (p := ⟨w.heap.size + 1 + 1, 4, none⟩) kC).trans e4
        clear hpre
        simp only [frL, Act.put, List.setIfInBounds_toArray, List.set_cons_zero, List.set_cons_succ, Nat.zero_add, Nat.reduceAdd] at hK ⊢
        have HK := Lib.hid hK
        clear hK
        refine Held.mk ?_
        go_simp
        exact HK.out _ (Below.refl _ _)
      -- 2: Op.call { callee := Callee.value (Operand.func 8), args := #[Operand.tmp 19, Ope
      apply RC.ls_val (fun _ _ _ _ _ _ => trivial)
      · intro x w' hb hpre K hK
        have za0 := (hb.cell (p := ⟨w.heap.size, 0, none⟩) kA).trans a0
        have za1 := (hb.cell (p := ⟨w.heap.size, 1, none⟩) kA).trans a1
        have za2 := (hb.cell (p := ⟨w.heap.size, 2, none⟩) kA).trans a2
        have za3 := (hb.cell (p := ⟨w.heap.size, 3, none⟩) kA).trans a3
        have za4 := (hb.cell (p := ⟨w.heap.size, 4, none⟩) kA).trans a4
        have zb0 := (hb.cell (p := ⟨w.heap.size + 1, 0, none⟩) kB).trans b0
        have zb1 := (hb.cell (p := ⟨w.heap.size + 1, 1, none⟩) kB).trans b1
        have zb2 := (hb.cell (p := ⟨w.heap.size + 1, 2, none⟩) kB).trans b2
        have zb3 := (hb.cell (p := ⟨w.heap.size + 1, 3, none⟩) kB).trans b3
        have zb4 := (hb.cell (p := ⟨w.heap.size + 1, 4, none⟩) kB).trans b4
        have ze0 := (hb.cell (p := ⟨w.heap.size + 1 + 1, 0, none⟩) kC).trans e0
        have ze1 := (hb.cell (p := ⟨w.heap.size + 1 + 1, 1, none⟩) kC).trans e1
        have ze2 := (hb.cell (p := ⟨w.heap.size + 1 + 1, 2, none⟩) kC).trans e2
        have ze3 := (hb.cell (p := ⟨w.heap.size + 1 + 1, 3, none⟩) kC).trans e3
        have ze4 := (hb.cell (p := ⟨w.heap.size + 1 + 1, 4, none⟩) kC).trans e4
        simp [preds, Region.binds, RC.phi, RC.MP.val] at hpre
        simp only [frL, Act.put, List.setIfInBounds_toArray, List.set_cons_zero, List.set_cons_succ, Nat.zero_add, Nat.reduceAdd, hpre] at hK ⊢
        have HK := Lib.hid hK
        clear hK
        refine Held.mk ?_
        go_simp
        (with_reducible refine (AAc.out _ hb).mono ?_)
        rintro e w1 ⟨rfl, hb1⟩
        dsimp only
        exact HK.out _ hb1
      -- 3: Op.unOp UnOp.not 4 (Operand.tmp 21)
      apply RC.ls_val (fun _ _ _ _ _ _ => trivial)
      · intro x w' hb hpre K hK
        have za0 := (hb.cell (p := ⟨w.heap.size, 0, none⟩) kA).trans a0
        have za1 := (hb.cell (p := ⟨w.heap.size, 1, none⟩) kA).trans a1
        have za2 := (hb.cell (p := ⟨w.heap.size, 2, none⟩) kA).trans a2
        have za3 := (hb.cell (p := ⟨w.heap.size, 3, none⟩) kA).trans a3
        have za4 := (hb.cell (p := ⟨w.heap.size, 4, none⟩) kA).trans a4
        have zb0 := (hb.cell (p := ⟨w.heap.size + 1, 0, none⟩) kB).trans b0
        have zb1 := (hb.cell (p := ⟨w.heap.size + 1, 1, none⟩) kB).trans b1
        have zb2 := (hb.cell (p := ⟨w.heap.size + 1, 2, none⟩) kB).trans b2
        have zb3 := (hb.cell (p := ⟨w.heap.size + 1, 3, none⟩) kB).trans b3
        have zb4 := (hb.cell (p := ⟨w.heap.size + 1, 4, none⟩) kB).trans b4
        have ze0 := (hb.cell (p := ⟨w.heap.size + 1 + 1, 0, none⟩) kC).trans e0
        have ze1 := (hb.cell (p := ⟨w.heap.size + 1 + 1, 1, none⟩) kC).trans e1
        have ze2 := (hb.cell (p := ⟨w.heap.size + 1 + 1, 2, none⟩) kC).trans e2
        have ze3 := (hb.cell (p := ⟨w.heap.size + 1 + 1, 3, none⟩) kC).trans e3
        have ze4 := (hb.cell (p := ⟨w.heap.size + 1 + 1, 4, none⟩) kC).trans e4
        simp [preds, Region.binds, RC.phi, RC.MP.val] at hpre
        simp only [frL, Act.put, List.setIfInBounds_toArray, List.set_cons_zero, List.set_cons_succ, Nat.zero_add, Nat.reduceAdd, hpre] at hK ⊢
        have HK := Lib.hid hK
        clear hK
        refine Held.mk ?_
        go_simp
        exact HK.out _ (Below.refl _ _)
      -- 4: Op.move (Operand.tmp 22)
      apply RC.ls_val (fun _ _ _ _ _ _ => trivial)
      · intro x w' hb hpre K hK
        have za0 := (hb.cell (p := ⟨w.heap.size, 0, none⟩) kA).trans a0
        have za1 := (hb.cell (p := ⟨w.heap.size, 1, none⟩) kA).trans a1
        have za2 := (hb.cell (p := ⟨w.heap.size, 2, none⟩) kA).trans a2
        have za3 := (hb.cell (p := ⟨w.heap.size, 3, none⟩) kA).trans a3
        have za4 := (hb.cell (p := ⟨w.heap.size, 4, none⟩) kA).trans a4
        have zb0 := (hb.cell (p := ⟨w.heap.size + 1, 0, none⟩) kB).trans b0
        have zb1 := (hb.cell (p := ⟨w.heap.size + 1, 1, none⟩) kB).trans b1
        have zb2 := (hb.cell (p := ⟨w.heap.size + 1, 2, none⟩) kB).trans b2
        have zb3 := (hb.cell (p := ⟨w.heap.size + 1, 3, none⟩) kB).trans b3
        have zb4 := (hb.cell (p := ⟨w.heap.size + 1, 4, none⟩) kB).trans b4
        have ze0 := (hb.cell (p := ⟨w.heap.size + 1 + 1, 0, none⟩) kC).trans e0
        have ze1 := (hb.cell (p := ⟨w.heap.size + 1 + 1, 1, none⟩) kC).trans e1
        have ze2 := (hb.cell (p := ⟨w.heap.size + 1 + 1, 2, none⟩) kC).trans e2
        have ze3 := (hb.cell (p := ⟨w.heap.size + 1 + 1, 3, none⟩) kC).trans e3
        have ze4 := (hb.cell (p := ⟨w.heap.size + 1 + 1, 4, none⟩) kC).trans e4
        simp [preds, Region.binds, RC.phi, RC.MP.val] at hpre
        simp only [frL, Act.put, List.setIfInBounds_toArray, List.set_cons_zero, List.set_cons_succ, Nat.zero_add, Nat.reduceAdd, hpre] at hK ⊢
        have HK := Lib.hid hK
        clear hK
        refine Held.mk ?_
        go_simp
        exact HK.out _ (Below.refl _ _)
      -- 5: Op.load 26 (Operand.tmp 3)
      apply RC.ls_val (fun _ _ _ _ _ _ => trivial)
      · intro x w' hb hpre K hK
        have za0 := (hb.cell (p := ⟨w.heap.size, 0, none⟩) kA).trans a0
        have za1 := (hb.cell (p := ⟨w.heap.size, 1, none⟩) kA).trans a1
        have za2 := (hb.cell (p := ⟨w.heap.size, 2, none⟩) kA).trans a2
        have za3 := (hb.cell (p := ⟨w.heap.size, 3, none⟩) kA).trans a3
        have za4 := (hb.cell (p := ⟨w.heap.size, 4, none⟩) kA).trans a4
        have zb0 := (hb.cell (p := ⟨w.heap.size + 1, 0, none⟩) kB).trans b0
        have zb1 := (hb.cell (p := ⟨w.heap.size + 1, 1, none⟩) kB).trans b1
        have zb2 := (hb.cell (p := ⟨w.heap.size + 1, 2, none⟩) kB).trans b2
        have zb3 := (hb.cell (p := ⟨w.heap.size + 1, 3, none⟩) kB).trans b3
        have zb4 := (hb.cell (p := ⟨w.heap.size + 1, 4, none⟩) kB).trans b4
        have ze0 := (hb.cell (p := ⟨w.heap.size + 1 + 1, 0, none⟩) kC).trans e0
        have ze1 := (hb.cell (p := ⟨w.heap.size + 1 + 1, 1, none⟩) kC).trans e1
        have ze2 := (hb.cell (p := ⟨w.heap.size + 1 + 1, 2, none⟩) kC).trans e2
        have ze3 := (hb.cell (p := ⟨w.heap.size + 1 + 1, 3, none⟩) kC).trans e3
        have ze4 := (hb.cell (p := ⟨w.heap.size + 1 + 1, 4, none⟩) kC).trans e4
        simp [preds, Region.binds, RC.phi, RC.MP.val] at hpre
        simp only [frL, Act.put, List.setIfInBounds_toArray, List.set_cons_zero, List.set_cons_succ, Nat.zero_add, Nat.reduceAdd, hpre] at hK ⊢
        have HK := Lib.hid hK
        clear hK
        refine Held.mk ?_
        go_simp
        exact HK.out _ (Below.refl _ _)
      -- 6: Op.load 26 (Operand.tmp 4)
      apply RC.ls_val (fun _ _ _ _ _ _ => trivial)
      · intro x w' hb hpre K hK
        have za0 := (hb.cell (p := ⟨w.heap.size, 0, none⟩) kA).trans a0
        have za1 := (hb.cell (p := ⟨w.heap.size, 1, none⟩) kA).trans a1
        have za2 := (hb.cell (p := ⟨w.heap.size, 2, none⟩) kA).trans a2
        have za3 := (hb.cell (p := ⟨w.heap.size, 3, none⟩) kA).trans a3
        have za4 := (hb.cell (p := ⟨w.heap.size, 4, none⟩) kA).trans a4
        have zb0 := (hb.cell (p := ⟨w.heap.size + 1, 0, none⟩) kB).trans b0
        have zb1 := (hb.cell (p := ⟨w.heap.size + 1, 1, none⟩) kB).trans b1
        have zb2 := (hb.cell (p := ⟨w.heap.size + 1, 2, none⟩) kB).trans b2
        have zb3 := (hb.cell (p := ⟨w.heap.size + 1, 3, none⟩) kB).trans b3
        have zb4 := (hb.cell (p := ⟨w.heap.size + 1, 4, none⟩) kB).trans b4
        have ze0 := (hb.cell (p := ⟨w.heap.size + 1 + 1, 0, none⟩) kC).trans e0
        have ze1 := (hb.cell (p := ⟨w.heap.size + 1 + 1, 1, none⟩) kC).trans e1
        have ze2 := (hb.cell (p := ⟨w.heap.size + 1 + 1, 2, none⟩) kC).trans e2
        have ze3 := (hb.cell (p := ⟨w.heap.size + 1 + 1, 3, none⟩) kC).trans e3
        have ze4 := (hb.cell (p := ⟨w.heap.size + 1 + 1, 4, none⟩) kC).trans e4
        simp [preds, Region.binds, RC.phi, RC.MP.val] at hpre
        simp only [frL, Act.put, List.setIfInBounds_toArray, List.set_cons_zero, List.set_cons_succ, Nat.zero_add, Nat.reduceAdd, hpre] at hK ⊢
        have HK := Lib.hid hK
        clear hK
        refine Held.mk ?_
        go_simp
        exact HK.out _ (Below.refl _ _)
      -- 7: Op.call { callee := Callee.value (Operand.func 8), args := #[Operand.tmp 24, Ope
      apply RC.ls_val (fun _ _ _ _ _ _ => trivial)
      · intro x w' hb hpre K hK
        have za0 := (hb.cell (p := ⟨w.heap.size, 0, none⟩) kA).trans a0
        have za1 := (hb.cell (p := ⟨w.heap.size, 1, none⟩) kA).trans a1
        have za2 := (hb.cell (p := ⟨w.heap.size, 2, none⟩) kA).trans a2
        have za3 := (hb.cell (p := ⟨w.heap.size, 3, none⟩) kA).trans a3
        have za4 := (hb.cell (p := ⟨w.heap.size, 4, none⟩) kA).trans a4
        have zb0 := (hb.cell (p := ⟨w.heap.size + 1, 0, none⟩) kB).trans b0
        have zb1 := (hb.cell (p := ⟨w.heap.size + 1, 1, none⟩) kB).trans b1
        have zb2 := (hb.cell (p := ⟨w.heap.size + 1, 2, none⟩) kB).trans b2
        have zb3 := (hb.cell (p := ⟨w.heap.size + 1, 3, none⟩) kB).trans b3
        have zb4 := (hb.cell (p := ⟨w.heap.size + 1, 4, none⟩) kB).trans b4
        have ze0 := (hb.cell (p := ⟨w.heap.size + 1 + 1, 0, none⟩) kC).trans e0
        have ze1 := (hb.cell (p := ⟨w.heap.size + 1 + 1, 1, none⟩) kC).trans e1
        have ze2 := (hb.cell (p := ⟨w.heap.size + 1 + 1, 2, none⟩) kC).trans e2
        have ze3 := (hb.cell (p := ⟨w.heap.size + 1 + 1, 3, none⟩) kC).trans e3
        have ze4 := (hb.cell (p := ⟨w.heap.size + 1 + 1, 4, none⟩) kC).trans e4
        simp [preds, Region.binds, RC.phi, RC.MP.val] at hpre
        simp only [frL, Act.put, List.setIfInBounds_toArray, List.set_cons_zero, List.set_cons_succ, Nat.zero_add, Nat.reduceAdd, hpre] at hK ⊢
        have HK := Lib.hid hK
        clear hK
        refine Held.mk ?_
        go_simp
        (with_reducible refine (ABc.out _ hb).mono ?_)
        rintro e w1 ⟨rfl, hb1⟩
        dsimp only
        exact HK.out _ hb1
      -- 8: Op.load 26 (Operand.tmp 4)
      apply RC.ls_val (fun _ _ _ _ _ _ => trivial)
      · intro x w' hb hpre K hK
        have za0 := (hb.cell (p := ⟨w.heap.size, 0, none⟩) kA).trans a0
        have za1 := (hb.cell (p := ⟨w.heap.size, 1, none⟩) kA).trans a1
        have za2 := (hb.cell (p := ⟨w.heap.size, 2, none⟩) kA).trans a2
        have za3 := (hb.cell (p := ⟨w.heap.size, 3, none⟩) kA).trans a3
        have za4 := (hb.cell (p := ⟨w.heap.size, 4, none⟩) kA).trans a4
        have zb0 := (hb.cell (p := ⟨w.heap.size + 1, 0, none⟩) kB).trans b0
        have zb1 := (hb.cell (p := ⟨w.heap.size + 1, 1, none⟩) kB).trans b1
        have zb2 := (hb.cell (p := ⟨w.heap.size + 1, 2, none⟩) kB).trans b2
        have zb3 := (hb.cell (p := ⟨w.heap.size + 1, 3, none⟩) kB).trans b3
        have zb4 := (hb.cell (p := ⟨w.heap.size + 1, 4, none⟩) kB).trans b4
        have ze0 := (hb.cell (p := ⟨w.heap.size + 1 + 1, 0, none⟩) kC).trans e0
        have ze1 := (hb.cell (p := ⟨w.heap.size + 1 + 1, 1, none⟩) kC).trans e1
        have ze2 := (hb.cell (p := ⟨w.heap.size + 1 + 1, 2, none⟩) kC).trans e2
        have ze3 := (hb.cell (p := ⟨w.heap.size + 1 + 1, 3, none⟩) kC).trans e3
        have ze4 := (hb.cell (p := ⟨w.heap.size + 1 + 1, 4, none⟩) kC).trans e4
        simp [preds, Region.binds, RC.phi, RC.MP.val] at hpre
        simp only [frL, Act.put, List.setIfInBounds_toArray, List.set_cons_zero, List.set_cons_succ, Nat.zero_add, Nat.reduceAdd, hpre] at hK ⊢
        have HK := Lib.hid hK
        clear hK
        refine Held.mk ?_
        go_simp
        exact HK.out _ (Below.refl _ _)
      -- 9: Op.load 26 (Operand.tmp 3)
      apply RC.ls_val (fun _ _ _ _ _ _ => trivial)
      · intro x w' hb hpre K hK
        have za0 := (hb.cell (p := ⟨w.heap.size, 0, none⟩) kA).trans a0
        have za1 := (hb.cell (p := ⟨w.heap.size, 1, none⟩) kA).trans a1
        have za2 := (hb.cell (p := ⟨w.heap.size, 2, none⟩) kA).trans a2
        have za3 := (hb.cell (p := ⟨w.heap.size, 3, none⟩) kA).trans a3
        have za4 := (hb.cell (p := ⟨w.heap.size, 4, none⟩) kA).trans a4
        have zb0 := (hb.cell (p := ⟨w.heap.size + 1, 0, none⟩) kB).trans b0
        have zb1 := (hb.cell (p := ⟨w.heap.size + 1, 1, none⟩) kB).trans b1
        have zb2 := (hb.cell (p := ⟨w.heap.size + 1, 2, none⟩) kB).trans b2
        have zb3 := (hb.cell (p := ⟨w.heap.size + 1, 3, none⟩) kB).trans b3
        have zb4 := (hb.cell (p := ⟨w.heap.size + 1, 4, none⟩) kB).trans b4
        have ze0 := (hb.cell (p := ⟨w.heap.size + 1 + 1, 0, none⟩) kC).trans e0
        have ze1 := (hb.cell (p := ⟨w.heap.size + 1 + 1, 1, none⟩) kC).trans e1
        have ze2 := (hb.cell (p := ⟨w.heap.size + 1 + 1, 2, none⟩) kC).trans e2
        have ze3 := (hb.cell (p := ⟨w.heap.size + 1 + 1, 3, none⟩) kC).trans e3
        have ze4 := (hb.cell (p := ⟨w.heap.size + 1 + 1, 4, none⟩) kC).trans e4
        simp [preds, Region.binds, RC.phi, RC.MP.val] at hpre
        simp only [frL, Act.put, List.setIfInBounds_toArray, List.set_cons_zero, List.set_cons_succ, Nat.zero_add, Nat.reduceAdd, hpre] at hK ⊢
        have HK := Lib.hid hK
        clear hK
        refine Held.mk ?_
        go_simp
        exact HK.out _ (Below.refl _ _)
      -- 10: Op.call { callee := Callee.value (Operand.func 8), args := #[Operand.tmp 27, Ope
      apply RC.ls_val (fun _ _ _ _ _ _ => trivial)
      · intro x w' hb hpre K hK
        have za0 := (hb.cell (p := ⟨w.heap.size, 0, none⟩) kA).trans a0
        have za1 := (hb.cell (p := ⟨w.heap.size, 1, none⟩) kA).trans a1
        have za2 := (hb.cell (p := ⟨w.heap.size, 2, none⟩) kA).trans a2
        have za3 := (hb.cell (p := ⟨w.heap.size, 3, none⟩) kA).trans a3
        have za4 := (hb.cell (p := ⟨w.heap.size, 4, none⟩) kA).trans a4
        have zb0 := (hb.cell (p := ⟨w.heap.size + 1, 0, none⟩) kB).trans b0
        have zb1 := (hb.cell (p := ⟨w.heap.size + 1, 1, none⟩) kB).trans b1
        have zb2 := (hb.cell (p := ⟨w.heap.size + 1, 2, none⟩) kB).trans b2
        have zb3 := (hb.cell (p := ⟨w.heap.size + 1, 3, none⟩) kB).trans b3
        have zb4 := (hb.cell (p := ⟨w.heap.size + 1, 4, none⟩) kB).trans b4
        have ze0 := (hb.cell (p := ⟨w.heap.size + 1 + 1, 0, none⟩) kC).trans e0
        have ze1 := (hb.cell (p := ⟨w.heap.size + 1 + 1, 1, none⟩) kC).trans e1
        have ze2 := (hb.cell (p := ⟨w.heap.size + 1 + 1, 2, none⟩) kC).trans e2
        have ze3 := (hb.cell (p := ⟨w.heap.size + 1 + 1, 3, none⟩) kC).trans e3
        have ze4 := (hb.cell (p := ⟨w.heap.size + 1 + 1, 4, none⟩) kC).trans e4
        simp [preds, Region.binds, RC.phi, RC.MP.val] at hpre
        simp only [frL, Act.put, List.setIfInBounds_toArray, List.set_cons_zero, List.set_cons_succ, Nat.zero_add, Nat.reduceAdd, hpre] at hK ⊢
        have HK := Lib.hid hK
        clear hK
        refine Held.mk ?_
        go_simp
        (with_reducible refine (BAc.out _ hb).mono ?_)
        rintro e w1 ⟨rfl, hb1⟩
        dsimp only
        exact HK.out _ hb1
      -- 11: Op.binOp BinOp.neq 4 (Operand.tmp 26) (Operand.tmp 29) 4
      apply RC.ls_val (fun _ _ _ _ _ _ => trivial)
      · intro x w' hb hpre K hK
        have za0 := (hb.cell (p := ⟨w.heap.size, 0, none⟩) kA).trans a0
        have za1 := (hb.cell (p := ⟨w.heap.size, 1, none⟩) kA).trans a1
        have za2 := (hb.cell (p := ⟨w.heap.size, 2, none⟩) kA).trans a2
        have za3 := (hb.cell (p := ⟨w.heap.size, 3, none⟩) kA).trans a3
        have za4 := (hb.cell (p := ⟨w.heap.size, 4, none⟩) kA).trans a4
        have zb0 := (hb.cell (p := ⟨w.heap.size + 1, 0, none⟩) kB).trans b0
        have zb1 := (hb.cell (p := ⟨w.heap.size + 1, 1, none⟩) kB).trans b1
        have zb2 := (hb.cell (p := ⟨w.heap.size + 1, 2, none⟩) kB).trans b2
        have zb3 := (hb.cell (p := ⟨w.heap.size + 1, 3, none⟩) kB).trans b3
        have zb4 := (hb.cell (p := ⟨w.heap.size + 1, 4, none⟩) kB).trans b4
        have ze0 := (hb.cell (p := ⟨w.heap.size + 1 + 1, 0, none⟩) kC).trans e0
        have ze1 := (hb.cell (p := ⟨w.heap.size + 1 + 1, 1, none⟩) kC).trans e1
        have ze2 := (hb.cell (p := ⟨w.heap.size + 1 + 1, 2, none⟩) kC).trans e2
        have ze3 := (hb.cell (p := ⟨w.heap.size + 1 + 1, 3, none⟩) kC).trans e3
        have ze4 := (hb.cell (p := ⟨w.heap.size + 1 + 1, 4, none⟩) kC).trans e4
        simp [preds, Region.binds, RC.phi, RC.MP.val] at hpre
        simp only [frL, Act.put, List.setIfInBounds_toArray, List.set_cons_zero, List.set_cons_succ, Nat.zero_add, Nat.reduceAdd, hpre] at hK ⊢
        have HK := Lib.hid hK
        clear hK
        refine Held.mk ?_
        go_simp
        exact HK.out _ (Below.refl _ _)
      -- 12: Op.pick (Operand.tmp 23) (Operand.const (Value.bool true)) (Operand.tmp 30)
      apply RC.ls_val (fun _ _ _ _ _ _ => trivial)
      · intro x w' hb hpre K hK
        have za0 := (hb.cell (p := ⟨w.heap.size, 0, none⟩) kA).trans a0
        have za1 := (hb.cell (p := ⟨w.heap.size, 1, none⟩) kA).trans a1
        have za2 := (hb.cell (p := ⟨w.heap.size, 2, none⟩) kA).trans a2
        have za3 := (hb.cell (p := ⟨w.heap.size, 3, none⟩) kA).trans a3
        have za4 := (hb.cell (p := ⟨w.heap.size, 4, none⟩) kA).trans a4
        have zb0 := (hb.cell (p := ⟨w.heap.size + 1, 0, none⟩) kB).trans b0
        have zb1 := (hb.cell (p := ⟨w.heap.size + 1, 1, none⟩) kB).trans b1
        have zb2 := (hb.cell (p := ⟨w.heap.size + 1, 2, none⟩) kB).trans b2
        have zb3 := (hb.cell (p := ⟨w.heap.size + 1, 3, none⟩) kB).trans b3
        have zb4 := (hb.cell (p := ⟨w.heap.size + 1, 4, none⟩) kB).trans b4
        have ze0 := (hb.cell (p := ⟨w.heap.size + 1 + 1, 0, none⟩) kC).trans e0
        have ze1 := (hb.cell (p := ⟨w.heap.size + 1 + 1, 1, none⟩) kC).trans e1
        have ze2 := (hb.cell (p := ⟨w.heap.size + 1 + 1, 2, none⟩) kC).trans e2
        have ze3 := (hb.cell (p := ⟨w.heap.size + 1 + 1, 3, none⟩) kC).trans e3
        have ze4 := (hb.cell (p := ⟨w.heap.size + 1 + 1, 4, none⟩) kC).trans e4
        simp [preds, Region.binds, RC.phi, RC.MP.val] at hpre
        simp only [frL, Act.put, List.setIfInBounds_toArray, List.set_cons_zero, List.set_cons_succ, Nat.zero_add, Nat.reduceAdd, hpre] at hK ⊢
        have HK := Lib.hid hK
        clear hK
        refine Held.mk ?_
        go_simp
        exact HK.out _ (Below.refl _ _)
      -- 13: Op.move (Operand.tmp 31)
      apply RC.ls_val (fun _ _ _ _ _ _ => trivial)
      · intro x w' hb hpre K hK
        have za0 := (hb.cell (p := ⟨w.heap.size, 0, none⟩) kA).trans a0
        have za1 := (hb.cell (p := ⟨w.heap.size, 1, none⟩) kA).trans a1
        have za2 := (hb.cell (p := ⟨w.heap.size, 2, none⟩) kA).trans a2
        have za3 := (hb.cell (p := ⟨w.heap.size, 3, none⟩) kA).trans a3
        have za4 := (hb.cell (p := ⟨w.heap.size, 4, none⟩) kA).trans a4
        have zb0 := (hb.cell (p := ⟨w.heap.size + 1, 0, none⟩) kB).trans b0
        have zb1 := (hb.cell (p := ⟨w.heap.size + 1, 1, none⟩) kB).trans b1
        have zb2 := (hb.cell (p := ⟨w.heap.size + 1, 2, none⟩) kB).trans b2
        have zb3 := (hb.cell (p := ⟨w.heap.size + 1, 3, none⟩) kB).trans b3
        have zb4 := (hb.cell (p := ⟨w.heap.size + 1, 4, none⟩) kB).trans b4
        have ze0 := (hb.cell (p := ⟨w.heap.size + 1 + 1, 0, none⟩) kC).trans e0
        have ze1 := (hb.cell (p := ⟨w.heap.size + 1 + 1, 1, none⟩) kC).trans e1
        have ze2 := (hb.cell (p := ⟨w.heap.size + 1 + 1, 2, none⟩) kC).trans e2
        have ze3 := (hb.cell (p := ⟨w.heap.size + 1 + 1, 3, none⟩) kC).trans e3
        have ze4 := (hb.cell (p := ⟨w.heap.size + 1 + 1, 4, none⟩) kC).trans e4
        simp [preds, Region.binds, RC.phi, RC.MP.val] at hpre
        simp only [frL, Act.put, List.setIfInBounds_toArray, List.set_cons_zero, List.set_cons_succ, Nat.zero_add, Nat.reduceAdd, hpre] at hK ⊢
        have HK := Lib.hid hK
        clear hK
        refine Held.mk ?_
        go_simp
        exact HK.out _ (Below.refl _ _)
      -- 14: Op.load 26 (Operand.tmp 3)
      apply RC.ls_val (fun _ _ _ _ _ _ => trivial)
      · intro x w' hb hpre K hK
        have za0 := (hb.cell (p := ⟨w.heap.size, 0, none⟩) kA).trans a0
        have za1 := (hb.cell (p := ⟨w.heap.size, 1, none⟩) kA).trans a1
        have za2 := (hb.cell (p := ⟨w.heap.size, 2, none⟩) kA).trans a2
        have za3 := (hb.cell (p := ⟨w.heap.size, 3, none⟩) kA).trans a3
        have za4 := (hb.cell (p := ⟨w.heap.size, 4, none⟩) kA).trans a4
        have zb0 := (hb.cell (p := ⟨w.heap.size + 1, 0, none⟩) kB).trans b0
        have zb1 := (hb.cell (p := ⟨w.heap.size + 1, 1, none⟩) kB).trans b1
        have zb2 := (hb.cell (p := ⟨w.heap.size + 1, 2, none⟩) kB).trans b2
        have zb3 := (hb.cell (p := ⟨w.heap.size + 1, 3, none⟩) kB).trans b3
        have zb4 := (hb.cell (p := ⟨w.heap.size + 1, 4, none⟩) kB).trans b4
        have ze0 := (hb.cell (p := ⟨w.heap.size + 1 + 1, 0, none⟩) kC).trans e0
        have ze1 := (hb.cell (p := ⟨w.heap.size + 1 + 1, 1, none⟩) kC).trans e1
        have ze2 := (hb.cell (p := ⟨w.heap.size + 1 + 1, 2, none⟩) kC).trans e2
        have ze3 := (hb.cell (p := ⟨w.heap.size + 1 + 1, 3, none⟩) kC).trans e3
        have ze4 := (hb.cell (p := ⟨w.heap.size + 1 + 1, 4, none⟩) kC).trans e4
        simp [preds, Region.binds, RC.phi, RC.MP.val] at hpre
        simp only [frL, Act.put, List.setIfInBounds_toArray, List.set_cons_zero, List.set_cons_succ, Nat.zero_add, Nat.reduceAdd, hpre] at hK ⊢
        have HK := Lib.hid hK
        clear hK
        refine Held.mk ?_
        go_simp
        exact HK.out _ (Below.refl _ _)
      -- 15: Op.load 26 (Operand.tmp 4)
      apply RC.ls_val (fun _ _ _ _ _ _ => trivial)
      · intro x w' hb hpre K hK
        have za0 := (hb.cell (p := ⟨w.heap.size, 0, none⟩) kA).trans a0
        have za1 := (hb.cell (p := ⟨w.heap.size, 1, none⟩) kA).trans a1
        have za2 := (hb.cell (p := ⟨w.heap.size, 2, none⟩) kA).trans a2
        have za3 := (hb.cell (p := ⟨w.heap.size, 3, none⟩) kA).trans a3
        have za4 := (hb.cell (p := ⟨w.heap.size, 4, none⟩) kA).trans a4
        have zb0 := (hb.cell (p := ⟨w.heap.size + 1, 0, none⟩) kB).trans b0
        have zb1 := (hb.cell (p := ⟨w.heap.size + 1, 1, none⟩) kB).trans b1
        have zb2 := (hb.cell (p := ⟨w.heap.size + 1, 2, none⟩) kB).trans b2
        have zb3 := (hb.cell (p := ⟨w.heap.size + 1, 3, none⟩) kB).trans b3
        have zb4 := (hb.cell (p := ⟨w.heap.size + 1, 4, none⟩) kB).trans b4
        have ze0 := (hb.cell (p := ⟨w.heap.size + 1 + 1, 0, none⟩) kC).trans e0
        have ze1 := (hb.cell (p := ⟨w.heap.size + 1 + 1, 1, none⟩) kC).trans e1
        have ze2 := (hb.cell (p := ⟨w.heap.size + 1 + 1, 2, none⟩) kC).trans e2
        have ze3 := (hb.cell (p := ⟨w.heap.size + 1 + 1, 3, none⟩) kC).trans e3
        have ze4 := (hb.cell (p := ⟨w.heap.size + 1 + 1, 4, none⟩) kC).trans e4
        simp [preds, Region.binds, RC.phi, RC.MP.val] at hpre
        simp only [frL, Act.put, List.setIfInBounds_toArray, List.set_cons_zero, List.set_cons_succ, Nat.zero_add, Nat.reduceAdd, hpre] at hK ⊢
        have HK := Lib.hid hK
        clear hK
        refine Held.mk ?_
        go_simp
        exact HK.out _ (Below.refl _ _)
      -- 16: Op.call { callee := Callee.value (Operand.func 8), args := #[Operand.tmp 33, Ope
      apply RC.ls_val (fun _ _ _ _ _ _ => trivial)
      · intro x w' hb hpre K hK
        have za0 := (hb.cell (p := ⟨w.heap.size, 0, none⟩) kA).trans a0
        have za1 := (hb.cell (p := ⟨w.heap.size, 1, none⟩) kA).trans a1
        have za2 := (hb.cell (p := ⟨w.heap.size, 2, none⟩) kA).trans a2
        have za3 := (hb.cell (p := ⟨w.heap.size, 3, none⟩) kA).trans a3
        have za4 := (hb.cell (p := ⟨w.heap.size, 4, none⟩) kA).trans a4
        have zb0 := (hb.cell (p := ⟨w.heap.size + 1, 0, none⟩) kB).trans b0
        have zb1 := (hb.cell (p := ⟨w.heap.size + 1, 1, none⟩) kB).trans b1
        have zb2 := (hb.cell (p := ⟨w.heap.size + 1, 2, none⟩) kB).trans b2
        have zb3 := (hb.cell (p := ⟨w.heap.size + 1, 3, none⟩) kB).trans b3
        have zb4 := (hb.cell (p := ⟨w.heap.size + 1, 4, none⟩) kB).trans b4
        have ze0 := (hb.cell (p := ⟨w.heap.size + 1 + 1, 0, none⟩) kC).trans e0
        have ze1 := (hb.cell (p := ⟨w.heap.size + 1 + 1, 1, none⟩) kC).trans e1
        have ze2 := (hb.cell (p := ⟨w.heap.size + 1 + 1, 2, none⟩) kC).trans e2
        have ze3 := (hb.cell (p := ⟨w.heap.size + 1 + 1, 3, none⟩) kC).trans e3
        have ze4 := (hb.cell (p := ⟨w.heap.size + 1 + 1, 4, none⟩) kC).trans e4
        simp [preds, Region.binds, RC.phi, RC.MP.val] at hpre
        simp only [frL, Act.put, List.setIfInBounds_toArray, List.set_cons_zero, List.set_cons_succ, Nat.zero_add, Nat.reduceAdd, hpre] at hK ⊢
        have HK := Lib.hid hK
        clear hK
        refine Held.mk ?_
        go_simp
        (with_reducible refine (ABc.out _ hb).mono ?_)
        rintro e w1 ⟨rfl, hb1⟩
        dsimp only
        exact HK.out _ hb1
      -- 17: Op.move (Operand.tmp 35)
      apply RC.ls_val (fun _ _ _ _ _ _ => trivial)
      · intro x w' hb hpre K hK
        have za0 := (hb.cell (p := ⟨w.heap.size, 0, none⟩) kA).trans a0
        have za1 := (hb.cell (p := ⟨w.heap.size, 1, none⟩) kA).trans a1
        have za2 := (hb.cell (p := ⟨w.heap.size, 2, none⟩) kA).trans a2
        have za3 := (hb.cell (p := ⟨w.heap.size, 3, none⟩) kA).trans a3
        have za4 := (hb.cell (p := ⟨w.heap.size, 4, none⟩) kA).trans a4
        have zb0 := (hb.cell (p := ⟨w.heap.size + 1, 0, none⟩) kB).trans b0
        have zb1 := (hb.cell (p := ⟨w.heap.size + 1, 1, none⟩) kB).trans b1
        have zb2 := (hb.cell (p := ⟨w.heap.size + 1, 2, none⟩) kB).trans b2
        have zb3 := (hb.cell (p := ⟨w.heap.size + 1, 3, none⟩) kB).trans b3
        have zb4 := (hb.cell (p := ⟨w.heap.size + 1, 4, none⟩) kB).trans b4
        have ze0 := (hb.cell (p := ⟨w.heap.size + 1 + 1, 0, none⟩) kC).trans e0
        have ze1 := (hb.cell (p := ⟨w.heap.size + 1 + 1, 1, none⟩) kC).trans e1
        have ze2 := (hb.cell (p := ⟨w.heap.size + 1 + 1, 2, none⟩) kC).trans e2
        have ze3 := (hb.cell (p := ⟨w.heap.size + 1 + 1, 3, none⟩) kC).trans e3
        have ze4 := (hb.cell (p := ⟨w.heap.size + 1 + 1, 4, none⟩) kC).trans e4
        simp [preds, Region.binds, RC.phi, RC.MP.val] at hpre
        simp only [frL, Act.put, List.setIfInBounds_toArray, List.set_cons_zero, List.set_cons_succ, Nat.zero_add, Nat.reduceAdd, hpre] at hK ⊢
        have HK := Lib.hid hK
        clear hK
        refine Held.mk ?_
        go_simp
        exact HK.out _ (Below.refl _ _)
      -- 18: Op.load 26 (Operand.tmp 4)
      apply RC.ls_val (fun _ _ _ _ _ _ => trivial)
      · intro x w' hb hpre K hK
        have za0 := (hb.cell (p := ⟨w.heap.size, 0, none⟩) kA).trans a0
        have za1 := (hb.cell (p := ⟨w.heap.size, 1, none⟩) kA).trans a1
        have za2 := (hb.cell (p := ⟨w.heap.size, 2, none⟩) kA).trans a2
        have za3 := (hb.cell (p := ⟨w.heap.size, 3, none⟩) kA).trans a3
        have za4 := (hb.cell (p := ⟨w.heap.size, 4, none⟩) kA).trans a4
        have zb0 := (hb.cell (p := ⟨w.heap.size + 1, 0, none⟩) kB).trans b0
        have zb1 := (hb.cell (p := ⟨w.heap.size + 1, 1, none⟩) kB).trans b1
        have zb2 := (hb.cell (p := ⟨w.heap.size + 1, 2, none⟩) kB).trans b2
        have zb3 := (hb.cell (p := ⟨w.heap.size + 1, 3, none⟩) kB).trans b3
        have zb4 := (hb.cell (p := ⟨w.heap.size + 1, 4, none⟩) kB).trans b4
        have ze0 := (hb.cell (p := ⟨w.heap.size + 1 + 1, 0, none⟩) kC).trans e0
        have ze1 := (hb.cell (p := ⟨w.heap.size + 1 + 1, 1, none⟩) kC).trans e1
        have ze2 := (hb.cell (p := ⟨w.heap.size + 1 + 1, 2, none⟩) kC).trans e2
        have ze3 := (hb.cell (p := ⟨w.heap.size + 1 + 1, 3, none⟩) kC).trans e3
        have ze4 := (hb.cell (p := ⟨w.heap.size + 1 + 1, 4, none⟩) kC).trans e4
        simp [preds, Region.binds, RC.phi, RC.MP.val] at hpre
        simp only [frL, Act.put, List.setIfInBounds_toArray, List.set_cons_zero, List.set_cons_succ, Nat.zero_add, Nat.reduceAdd, hpre] at hK ⊢
        have HK := Lib.hid hK
        clear hK
        refine Held.mk ?_
        go_simp
        exact HK.out _ (Below.refl _ _)
      -- 19: Op.load 26 (Operand.tmp 5)
      apply RC.ls_val (fun _ _ _ _ _ _ => trivial)
      · intro x w' hb hpre K hK
        have za0 := (hb.cell (p := ⟨w.heap.size, 0, none⟩) kA).trans a0
        have za1 := (hb.cell (p := ⟨w.heap.size, 1, none⟩) kA).trans a1
        have za2 := (hb.cell (p := ⟨w.heap.size, 2, none⟩) kA).trans a2
        have za3 := (hb.cell (p := ⟨w.heap.size, 3, none⟩) kA).trans a3
        have za4 := (hb.cell (p := ⟨w.heap.size, 4, none⟩) kA).trans a4
        have zb0 := (hb.cell (p := ⟨w.heap.size + 1, 0, none⟩) kB).trans b0
        have zb1 := (hb.cell (p := ⟨w.heap.size + 1, 1, none⟩) kB).trans b1
        have zb2 := (hb.cell (p := ⟨w.heap.size + 1, 2, none⟩) kB).trans b2
        have zb3 := (hb.cell (p := ⟨w.heap.size + 1, 3, none⟩) kB).trans b3
        have zb4 := (hb.cell (p := ⟨w.heap.size + 1, 4, none⟩) kB).trans b4
        have ze0 := (hb.cell (p := ⟨w.heap.size + 1 + 1, 0, none⟩) kC).trans e0
        have ze1 := (hb.cell (p := ⟨w.heap.size + 1 + 1, 1, none⟩) kC).trans e1
        have ze2 := (hb.cell (p := ⟨w.heap.size + 1 + 1, 2, none⟩) kC).trans e2
        have ze3 := (hb.cell (p := ⟨w.heap.size + 1 + 1, 3, none⟩) kC).trans e3
        have ze4 := (hb.cell (p := ⟨w.heap.size + 1 + 1, 4, none⟩) kC).trans e4
        simp [preds, Region.binds, RC.phi, RC.MP.val] at hpre
        simp only [frL, Act.put, List.setIfInBounds_toArray, List.set_cons_zero, List.set_cons_succ, Nat.zero_add, Nat.reduceAdd, hpre] at hK ⊢
        have HK := Lib.hid hK
        clear hK
        refine Held.mk ?_
        go_simp
        exact HK.out _ (Below.refl _ _)
      -- 20: Op.call { callee := Callee.value (Operand.func 8), args := #[Operand.tmp 37, Ope
      apply RC.ls_val (fun _ _ _ _ _ _ => trivial)
      · intro x w' hb hpre K hK
        have za0 := (hb.cell (p := ⟨w.heap.size, 0, none⟩) kA).trans a0
        have za1 := (hb.cell (p := ⟨w.heap.size, 1, none⟩) kA).trans a1
        have za2 := (hb.cell (p := ⟨w.heap.size, 2, none⟩) kA).trans a2
        have za3 := (hb.cell (p := ⟨w.heap.size, 3, none⟩) kA).trans a3
        have za4 := (hb.cell (p := ⟨w.heap.size, 4, none⟩) kA).trans a4
        have zb0 := (hb.cell (p := ⟨w.heap.size + 1, 0, none⟩) kB).trans b0
        have zb1 := (hb.cell (p := ⟨w.heap.size + 1, 1, none⟩) kB).trans b1
        have zb2 := (hb.cell (p := ⟨w.heap.size + 1, 2, none⟩) kB).trans b2
        have zb3 := (hb.cell (p := ⟨w.heap.size + 1, 3, none⟩) kB).trans b3
        have zb4 := (hb.cell (p := ⟨w.heap.size + 1, 4, none⟩) kB).trans b4
        have ze0 := (hb.cell (p := ⟨w.heap.size + 1 + 1, 0, none⟩) kC).trans e0
        have ze1 := (hb.cell (p := ⟨w.heap.size + 1 + 1, 1, none⟩) kC).trans e1
        have ze2 := (hb.cell (p := ⟨w.heap.size + 1 + 1, 2, none⟩) kC).trans e2
        have ze3 := (hb.cell (p := ⟨w.heap.size + 1 + 1, 3, none⟩) kC).trans e3
        have ze4 := (hb.cell (p := ⟨w.heap.size + 1 + 1, 4, none⟩) kC).trans e4
        simp [preds, Region.binds, RC.phi, RC.MP.val] at hpre
        simp only [frL, Act.put, List.setIfInBounds_toArray, List.set_cons_zero, List.set_cons_succ, Nat.zero_add, Nat.reduceAdd, hpre] at hK ⊢
        have HK := Lib.hid hK
        clear hK
        refine Held.mk ?_
        go_simp
        exact HK.out _ (Below.refl _ _)
      -- 21: Op.pick (Operand.tmp 36) (Operand.tmp 39) (Operand.const (Value.bool false))
      apply RC.ls_val (fun _ _ _ _ _ _ => trivial)
      · intro x w' hb hpre K hK
        have za0 := (hb.cell (p := ⟨w.heap.size, 0, none⟩) kA).trans a0
        have za1 := (hb.cell (p := ⟨w.heap.size, 1, none⟩) kA).trans a1
        have za2 := (hb.cell (p := ⟨w.heap.size, 2, none⟩) kA).trans a2
        have za3 := (hb.cell (p := ⟨w.heap.size, 3, none⟩) kA).trans a3
        have za4 := (hb.cell (p := ⟨w.heap.size, 4, none⟩) kA).trans a4
        have zb0 := (hb.cell (p := ⟨w.heap.size + 1, 0, none⟩) kB).trans b0
        have zb1 := (hb.cell (p := ⟨w.heap.size + 1, 1, none⟩) kB).trans b1
        have zb2 := (hb.cell (p := ⟨w.heap.size + 1, 2, none⟩) kB).trans b2
        have zb3 := (hb.cell (p := ⟨w.heap.size + 1, 3, none⟩) kB).trans b3
        have zb4 := (hb.cell (p := ⟨w.heap.size + 1, 4, none⟩) kB).trans b4
        have ze0 := (hb.cell (p := ⟨w.heap.size + 1 + 1, 0, none⟩) kC).trans e0
        have ze1 := (hb.cell (p := ⟨w.heap.size + 1 + 1, 1, none⟩) kC).trans e1
        have ze2 := (hb.cell (p := ⟨w.heap.size + 1 + 1, 2, none⟩) kC).trans e2
        have ze3 := (hb.cell (p := ⟨w.heap.size + 1 + 1, 3, none⟩) kC).trans e3
        have ze4 := (hb.cell (p := ⟨w.heap.size + 1 + 1, 4, none⟩) kC).trans e4
        simp [preds, Region.binds, RC.phi, RC.MP.val] at hpre
        simp only [frL, Act.put, List.setIfInBounds_toArray, List.set_cons_zero, List.set_cons_succ, Nat.zero_add, Nat.reduceAdd, hpre] at hK ⊢
        have HK := Lib.hid hK
        clear hK
        refine Held.mk ?_
        go_simp
        exact HK.out _ (Below.refl _ _)
      -- 22: Op.move (Operand.tmp 40)
      apply RC.ls_val (fun _ _ _ _ _ _ => trivial)
      · intro x w' hb hpre K hK
        have za0 := (hb.cell (p := ⟨w.heap.size, 0, none⟩) kA).trans a0
        have za1 := (hb.cell (p := ⟨w.heap.size, 1, none⟩) kA).trans a1
        have za2 := (hb.cell (p := ⟨w.heap.size, 2, none⟩) kA).trans a2
        have za3 := (hb.cell (p := ⟨w.heap.size, 3, none⟩) kA).trans a3
        have za4 := (hb.cell (p := ⟨w.heap.size, 4, none⟩) kA).trans a4
        have zb0 := (hb.cell (p := ⟨w.heap.size + 1, 0, none⟩) kB).trans b0
        have zb1 := (hb.cell (p := ⟨w.heap.size + 1, 1, none⟩) kB).trans b1
        have zb2 := (hb.cell (p := ⟨w.heap.size + 1, 2, none⟩) kB).trans b2
        have zb3 := (hb.cell (p := ⟨w.heap.size + 1, 3, none⟩) kB).trans b3
        have zb4 := (hb.cell (p := ⟨w.heap.size + 1, 4, none⟩) kB).trans b4
        have ze0 := (hb.cell (p := ⟨w.heap.size + 1 + 1, 0, none⟩) kC).trans e0
        have ze1 := (hb.cell (p := ⟨w.heap.size + 1 + 1, 1, none⟩) kC).trans e1
        have ze2 := (hb.cell (p := ⟨w.heap.size + 1 + 1, 2, none⟩) kC).trans e2
        have ze3 := (hb.cell (p := ⟨w.heap.size + 1 + 1, 3, none⟩) kC).trans e3
        have ze4 := (hb.cell (p := ⟨w.heap.size + 1 + 1, 4, none⟩) kC).trans e4
        simp [preds, Region.binds, RC.phi, RC.MP.val] at hpre
        simp only [frL, Act.put, List.setIfInBounds_toArray, List.set_cons_zero, List.set_cons_succ, Nat.zero_add, Nat.reduceAdd, hpre] at hK ⊢
        have HK := Lib.hid hK
        clear hK
        refine Held.mk ?_
        go_simp
        exact HK.out _ (Below.refl _ _)
      -- 23: Op.load 26 (Operand.tmp 3)
      apply RC.ls_val (fun _ _ _ _ _ _ => trivial)
      · intro x w' hb hpre K hK
        have za0 := (hb.cell (p := ⟨w.heap.size, 0, none⟩) kA).trans a0
        have za1 := (hb.cell (p := ⟨w.heap.size, 1, none⟩) kA).trans a1
        have za2 := (hb.cell (p := ⟨w.heap.size, 2, none⟩) kA).trans a2
        have za3 := (hb.cell (p := ⟨w.heap.size, 3, none⟩) kA).trans a3
        have za4 := (hb.cell (p := ⟨w.heap.size, 4, none⟩) kA).trans a4
        have zb0 := (hb.cell (p := ⟨w.heap.size + 1, 0, none⟩) kB).trans b0
        have zb1 := (hb.cell (p := ⟨w.heap.size + 1, 1, none⟩) kB).trans b1
        have zb2 := (hb.cell (p := ⟨w.heap.size + 1, 2, none⟩) kB).trans b2
        have zb3 := (hb.cell (p := ⟨w.heap.size + 1, 3, none⟩) kB).trans b3
        have zb4 := (hb.cell (p := ⟨w.heap.size + 1, 4, none⟩) kB).trans b4
        have ze0 := (hb.cell (p := ⟨w.heap.size + 1 + 1, 0, none⟩) kC).trans e0
        have ze1 := (hb.cell (p := ⟨w.heap.size + 1 + 1, 1, none⟩) kC).trans e1
        have ze2 := (hb.cell (p := ⟨w.heap.size + 1 + 1, 2, none⟩) kC).trans e2
        have ze3 := (hb.cell (p := ⟨w.heap.size + 1 + 1, 3, none⟩) kC).trans e3
        have ze4 := (hb.cell (p := ⟨w.heap.size + 1 + 1, 4, none⟩) kC).trans e4
        simp [preds, Region.binds, RC.phi, RC.MP.val] at hpre
        simp only [frL, Act.put, List.setIfInBounds_toArray, List.set_cons_zero, List.set_cons_succ, Nat.zero_add, Nat.reduceAdd, hpre] at hK ⊢
        have HK := Lib.hid hK
        clear hK
        refine Held.mk ?_
        go_simp
        exact HK.out _ (Below.refl _ _)
      -- 24: Op.load 26 (Operand.tmp 5)
      apply RC.ls_val (fun _ _ _ _ _ _ => trivial)
      · intro x w' hb hpre K hK
        have za0 := (hb.cell (p := ⟨w.heap.size, 0, none⟩) kA).trans a0
        have za1 := (hb.cell (p := ⟨w.heap.size, 1, none⟩) kA).trans a1
        have za2 := (hb.cell (p := ⟨w.heap.size, 2, none⟩) kA).trans a2
        have za3 := (hb.cell (p := ⟨w.heap.size, 3, none⟩) kA).trans a3
        have za4 := (hb.cell (p := ⟨w.heap.size, 4, none⟩) kA).trans a4
        have zb0 := (hb.cell (p := ⟨w.heap.size + 1, 0, none⟩) kB).trans b0
        have zb1 := (hb.cell (p := ⟨w.heap.size + 1, 1, none⟩) kB).trans b1
        have zb2 := (hb.cell (p := ⟨w.heap.size + 1, 2, none⟩) kB).trans b2
        have zb3 := (hb.cell (p := ⟨w.heap.size + 1, 3, none⟩) kB).trans b3
        have zb4 := (hb.cell (p := ⟨w.heap.size + 1, 4, none⟩) kB).trans b4
        have ze0 := (hb.cell (p := ⟨w.heap.size + 1 + 1, 0, none⟩) kC).trans e0
        have ze1 := (hb.cell (p := ⟨w.heap.size + 1 + 1, 1, none⟩) kC).trans e1
        have ze2 := (hb.cell (p := ⟨w.heap.size + 1 + 1, 2, none⟩) kC).trans e2
        have ze3 := (hb.cell (p := ⟨w.heap.size + 1 + 1, 3, none⟩) kC).trans e3
        have ze4 := (hb.cell (p := ⟨w.heap.size + 1 + 1, 4, none⟩) kC).trans e4
        simp [preds, Region.binds, RC.phi, RC.MP.val] at hpre
        simp only [frL, Act.put, List.setIfInBounds_toArray, List.set_cons_zero, List.set_cons_succ, Nat.zero_add, Nat.reduceAdd, hpre] at hK ⊢
        have HK := Lib.hid hK
        clear hK
        refine Held.mk ?_
        go_simp
        exact HK.out _ (Below.refl _ _)
      -- 25: Op.call { callee := Callee.value (Operand.func 8), args := #[Operand.tmp 42, Ope
      apply RC.ls_val (fun _ _ _ _ _ _ => trivial)
      · intro x w' hb hpre K hK
        have za0 := (hb.cell (p := ⟨w.heap.size, 0, none⟩) kA).trans a0
        have za1 := (hb.cell (p := ⟨w.heap.size, 1, none⟩) kA).trans a1
        have za2 := (hb.cell (p := ⟨w.heap.size, 2, none⟩) kA).trans a2
        have za3 := (hb.cell (p := ⟨w.heap.size, 3, none⟩) kA).trans a3
        have za4 := (hb.cell (p := ⟨w.heap.size, 4, none⟩) kA).trans a4
        have zb0 := (hb.cell (p := ⟨w.heap.size + 1, 0, none⟩) kB).trans b0
        have zb1 := (hb.cell (p := ⟨w.heap.size + 1, 1, none⟩) kB).trans b1
        have zb2 := (hb.cell (p := ⟨w.heap.size + 1, 2, none⟩) kB).trans b2
        have zb3 := (hb.cell (p := ⟨w.heap.size + 1, 3, none⟩) kB).trans b3
        have zb4 := (hb.cell (p := ⟨w.heap.size + 1, 4, none⟩) kB).trans b4
        have ze0 := (hb.cell (p := ⟨w.heap.size + 1 + 1, 0, none⟩) kC).trans e0
        have ze1 := (hb.cell (p := ⟨w.heap.size + 1 + 1, 1, none⟩) kC).trans e1
        have ze2 := (hb.cell (p := ⟨w.heap.size + 1 + 1, 2, none⟩) kC).trans e2
        have ze3 := (hb.cell (p := ⟨w.heap.size + 1 + 1, 3, none⟩) kC).trans e3
        have ze4 := (hb.cell (p := ⟨w.heap.size + 1 + 1, 4, none⟩) kC).trans e4
        simp [preds, Region.binds, RC.phi, RC.MP.val] at hpre
        simp only [frL, Act.put, List.setIfInBounds_toArray, List.set_cons_zero, List.set_cons_succ, Nat.zero_add, Nat.reduceAdd, hpre] at hK ⊢
        have HK := Lib.hid hK
        clear hK
        refine Held.mk ?_
        go_simp
        exact HK.out _ (Below.refl _ _)
      -- 26: Op.unOp UnOp.not 4 (Operand.tmp 44)
      apply RC.ls_val (fun _ _ _ _ _ _ => trivial)
      · intro x w' hb hpre K hK
        have za0 := (hb.cell (p := ⟨w.heap.size, 0, none⟩) kA).trans a0
        have za1 := (hb.cell (p := ⟨w.heap.size, 1, none⟩) kA).trans a1
        have za2 := (hb.cell (p := ⟨w.heap.size, 2, none⟩) kA).trans a2
        have za3 := (hb.cell (p := ⟨w.heap.size, 3, none⟩) kA).trans a3
        have za4 := (hb.cell (p := ⟨w.heap.size, 4, none⟩) kA).trans a4
        have zb0 := (hb.cell (p := ⟨w.heap.size + 1, 0, none⟩) kB).trans b0
        have zb1 := (hb.cell (p := ⟨w.heap.size + 1, 1, none⟩) kB).trans b1
        have zb2 := (hb.cell (p := ⟨w.heap.size + 1, 2, none⟩) kB).trans b2
        have zb3 := (hb.cell (p := ⟨w.heap.size + 1, 3, none⟩) kB).trans b3
        have zb4 := (hb.cell (p := ⟨w.heap.size + 1, 4, none⟩) kB).trans b4
        have ze0 := (hb.cell (p := ⟨w.heap.size + 1 + 1, 0, none⟩) kC).trans e0
        have ze1 := (hb.cell (p := ⟨w.heap.size + 1 + 1, 1, none⟩) kC).trans e1
        have ze2 := (hb.cell (p := ⟨w.heap.size + 1 + 1, 2, none⟩) kC).trans e2
        have ze3 := (hb.cell (p := ⟨w.heap.size + 1 + 1, 3, none⟩) kC).trans e3
        have ze4 := (hb.cell (p := ⟨w.heap.size + 1 + 1, 4, none⟩) kC).trans e4
        simp [preds, Region.binds, RC.phi, RC.MP.val] at hpre
        simp only [frL, Act.put, List.setIfInBounds_toArray, List.set_cons_zero, List.set_cons_succ, Nat.zero_add, Nat.reduceAdd, hpre] at hK ⊢
        have HK := Lib.hid hK
        clear hK
        refine Held.mk ?_
        go_simp
        exact HK.out _ (Below.refl _ _)
      -- 27: Op.pick (Operand.tmp 41) (Operand.tmp 45) (Operand.const (Value.bool false))
      apply RC.ls_val (fun _ _ _ _ _ _ => trivial)
      · intro x w' hb hpre K hK
        have za0 := (hb.cell (p := ⟨w.heap.size, 0, none⟩) kA).trans a0
        have za1 := (hb.cell (p := ⟨w.heap.size, 1, none⟩) kA).trans a1
        have za2 := (hb.cell (p := ⟨w.heap.size, 2, none⟩) kA).trans a2
        have za3 := (hb.cell (p := ⟨w.heap.size, 3, none⟩) kA).trans a3
        have za4 := (hb.cell (p := ⟨w.heap.size, 4, none⟩) kA).trans a4
        have zb0 := (hb.cell (p := ⟨w.heap.size + 1, 0, none⟩) kB).trans b0
        have zb1 := (hb.cell (p := ⟨w.heap.size + 1, 1, none⟩) kB).trans b1
        have zb2 := (hb.cell (p := ⟨w.heap.size + 1, 2, none⟩) kB).trans b2
        have zb3 := (hb.cell (p := ⟨w.heap.size + 1, 3, none⟩) kB).trans b3
        have zb4 := (hb.cell (p := ⟨w.heap.size + 1, 4, none⟩) kB).trans b4
        have ze0 := (hb.cell (p := ⟨w.heap.size + 1 + 1, 0, none⟩) kC).trans e0
        have ze1 := (hb.cell (p := ⟨w.heap.size + 1 + 1, 1, none⟩) kC).trans e1
        have ze2 := (hb.cell (p := ⟨w.heap.size + 1 + 1, 2, none⟩) kC).trans e2
        have ze3 := (hb.cell (p := ⟨w.heap.size + 1 + 1, 3, none⟩) kC).trans e3
        have ze4 := (hb.cell (p := ⟨w.heap.size + 1 + 1, 4, none⟩) kC).trans e4
        simp [preds, Region.binds, RC.phi, RC.MP.val] at hpre
        simp only [frL, Act.put, List.setIfInBounds_toArray, List.set_cons_zero, List.set_cons_succ, Nat.zero_add, Nat.reduceAdd, hpre] at hK ⊢
        have HK := Lib.hid hK
        clear hK
        refine Held.mk ?_
        go_simp
        exact HK.out _ (Below.refl _ _)
      -- 28: Op.pick (Operand.tmp 32) (Operand.const (Value.bool true)) (Operand.tmp 46)
      apply RC.ls_val (fun _ _ _ _ _ _ => trivial)
      · intro x w' hb hpre K hK
        have za0 := (hb.cell (p := ⟨w.heap.size, 0, none⟩) kA).trans a0
        have za1 := (hb.cell (p := ⟨w.heap.size, 1, none⟩) kA).trans a1
        have za2 := (hb.cell (p := ⟨w.heap.size, 2, none⟩) kA).trans a2
        have za3 := (hb.cell (p := ⟨w.heap.size, 3, none⟩) kA).trans a3
        have za4 := (hb.cell (p := ⟨w.heap.size, 4, none⟩) kA).trans a4
        have zb0 := (hb.cell (p := ⟨w.heap.size + 1, 0, none⟩) kB).trans b0
        have zb1 := (hb.cell (p := ⟨w.heap.size + 1, 1, none⟩) kB).trans b1
        have zb2 := (hb.cell (p := ⟨w.heap.size + 1, 2, none⟩) kB).trans b2
        have zb3 := (hb.cell (p := ⟨w.heap.size + 1, 3, none⟩) kB).trans b3
        have zb4 := (hb.cell (p := ⟨w.heap.size + 1, 4, none⟩) kB).trans b4
        have ze0 := (hb.cell (p := ⟨w.heap.size + 1 + 1, 0, none⟩) kC).trans e0
        have ze1 := (hb.cell (p := ⟨w.heap.size + 1 + 1, 1, none⟩) kC).trans e1
        have ze2 := (hb.cell (p := ⟨w.heap.size + 1 + 1, 2, none⟩) kC).trans e2
        have ze3 := (hb.cell (p := ⟨w.heap.size + 1 + 1, 3, none⟩) kC).trans e3
        have ze4 := (hb.cell (p := ⟨w.heap.size + 1 + 1, 4, none⟩) kC).trans e4
        simp [preds, Region.binds, RC.phi, RC.MP.val] at hpre
        simp only [frL, Act.put, List.setIfInBounds_toArray, List.set_cons_zero, List.set_cons_succ, Nat.zero_add, Nat.reduceAdd, hpre] at hK ⊢
        have HK := Lib.hid hK
        clear hK
        refine Held.mk ?_
        go_simp
        exact HK.out _ (Below.refl _ _)
      intro x w' hb hp hJ
      simp only [List.cons_append, List.nil_append, RC.phis, RC.MP.val, frL, Act.put, List.setIfInBounds_toArray, List.set_cons_zero, List.set_cons_succ, Nat.zero_add, Nat.reduceAdd] at hp ⊢
      obtain ⟨h0, h1, h2, h3, h4, h5, h6, h7, h8, h9, h10, h11, h12, h13, h14, h15, h16, h17, h18, h19, h20, h21, h22, h23, h24, h25, h26, h27, h28, -⟩ := hp
      simp only [h0, h1, h2, h3, h4, h5, h6, h7, h8, h9, h10, h11, h12, h13, h14, h15, h16, h17, h18, h19, h20, h21, h22, h23, h24, h25, h26, h27, h28]
      clear h0 h1 h2 h3 h4 h5 h6 h7 h8 h9 h10 h11 h12 h13 h14 h15 h16 h17 h18 h19 h20 h21 h22 h23 h24 h25 h26 h27 h28
      show wpList Tryd.prog _ _ [] _ _
      have hw3 : Below w.heap.size w w' := hw2.trans (hb.mono hw2.size)
      replace BA := BA.below hb BA.lt
      replace BB := BB.below hb BB.lt
      replace BC := BC.below hb BC.lt
      clear hb hw2 kA kB kC a0 a1 a2 a3 a4 b0 b1 b2 b3 b4 e0 e1 e2 e3 e4 AAc ABc BAc BCc ACc
      have kA := BA.lt
      have kB := BB.lt
      have kC := BC.lt
      obtain ⟨⟨a0, a1, a2, a3, a4⟩, -⟩ := BA.five5
      obtain ⟨⟨b0, b1, b2, b3, b4⟩, -⟩ := BB.five5
      obtain ⟨⟨e0, e1, e2, e3, e4⟩, -⟩ := BC.five5
      go_wp2_with fail
      have ks3 := BC.lt
      have CO := copy_cells (h + 1) k n v ps ks np nk HNP.out HNK.out aa ca ka ck w' (by have := HA.out.on hw3; rw [HTT.out] at this; exact this) (by have := SA.out; rw [HTT.out] at this; exact this)
      with_reducible refine CO.mono ?_
      rintro e w4 ⟨⟨ar, cr, as', cs', vs, rfl, hn', hO, hR, hP⟩, hb⟩
      have hw4 : Below w.heap.size w w4 := hw3.trans (hb.mono hw3.size)
      have hw34 := hb
      replace BA := BA.below hb BA.lt
      replace BB := BB.below hb BB.lt
      replace BC := BC.below hb BC.lt
      clear hb kA kB kC a0 a1 a2 a3 a4 b0 b1 b2 b3 b4 e0 e1 e2 e3 e4 CO
      have kA := BA.lt
      have kB := BB.lt
      have kC := BC.lt
      obtain ⟨⟨a0, a1, a2, a3, a4⟩, -⟩ := BA.five5
      obtain ⟨⟨b0, b1, b2, b3, b4⟩, -⟩ := BB.five5
      obtain ⟨⟨e0, e1, e2, e3, e4⟩, -⟩ := BC.five5
      have HO := Lib.hid hO
      have HR := Lib.hid hR
      have HP := Lib.hid hP
      clear hO hR hP
      have hba : Below w4.heap.size w4 (w4.alloc (.cells #[.int .i64 k, .string n, .string v, .slice ar np cr, .slice as' nk cs'] 26)) := (Below.refl _ _).alloc (Nat.le_refl _) _
      have BT : Blk (w4.alloc (.cells #[.int .i64 k, .string n, .string v, .slice ar np cr, .slice as' nk cs'] 26)) w4.heap.size #[.int .i64 k, .string n, .string v, .slice ar np cr, .slice as' nk cs'] 26 := Blk.new _ _ _
      have HO2 := Lib.hid (HO.out.below hba HO.out.lt)
      have hz2 : (w4.alloc (.cells #[.int .i64 k, .string n, .string v, .slice ar np cr, .slice as' nk cs'] 26)).heap.size = w4.heap.size + 1 := by simp
      have hvl : vs.length = nk := HR.out.1.trans HNK.out
      have nk4 : nk + 1 ≤ 400 := by
        have := HF.out
        rw [HTT.out] at this
        have := few_more this
        rw [HNK.out] at this
        exact this
      have hsz34 := hw34.size
      have BN : Blk ((w4.alloc (.cells #[.int .i64 k, .string n, .string v, .slice ar np cr, .slice as' nk cs'] 26)).alloc (.cells #[.int .i64 5, .string ⟨#[]⟩, .string ⟨#[109, 111, 114, 101]⟩, .slice none 0 0, .slice none 0 0] 26)) (w4.heap.size + 1) cmtC.arr 26 := by
        have := Blk.new (w4.alloc (.cells #[.int .i64 k, .string n, .string v, .slice ar np cr, .slice as' nk cs'] 26)) cmtC.arr 26
        rw [hz2] at this
        exact this
      have HO3 := Lib.hid (World.ownsRow.alloc HO2.out (.cells #[.int .i64 5, .string ⟨#[]⟩, .string ⟨#[109, 111, 114, 101]⟩, .slice none 0 0, .slice none 0 0] 26))
      have hz3 : w'.heap.size ≤ ((w4.alloc (.cells #[.int .i64 k, .string n, .string v, .slice ar np cr, .slice as' nk cs'] 26)).alloc (.cells #[.int .i64 5, .string ⟨#[]⟩, .string ⟨#[109, 111, 114, 101]⟩, .slice none 0 0, .slice none 0 0] 26)).heap.size := by simp; omega
      go_wp2_with (at_builtin; refine wpList_app5f rfl _ _ rfl w'.heap.size _ vs rfl HO3.out (w4.heap.size + 1) _ cmtC rfl ⟨rfl, rfl, rfl, rfl, rfl⟩ BN (by omega) hz3 ?_)
      intro v' w6 hO6 hg6 hf6
      obtain ⟨g, cap, rfl⟩ := ownsRow_succ (k := nk) (by have h9 : w6.ownsRow w'.heap.size 26 5 v' (vs ++ [cmtC]).length (flat5 (vs ++ [cmtC])) := hO6; rw [List.length_append, hvl] at h9; exact h9)
      have hgn : g ≠ w4.heap.size := by
        rcases hf6 g rfl with h9 | h9
        · have := HO.out.lt g h9; omega
        · omega
      have hbA2 : Below w4.heap.size w4 ((w4.alloc (.cells #[.int .i64 k, .string n, .string v, .slice ar np cr, .slice as' nk cs'] 26)).alloc (.cells #[.int .i64 5, .string ⟨#[]⟩, .string ⟨#[109, 111, 114, 101]⟩, .slice none 0 0, .slice none 0 0] 26)) := hba.alloc hba.size _
      have BT6 : Blk w6 w4.heap.size #[.int .i64 k, .string n, .string v, .slice ar np cr, .slice as' nk cs'] 26 := by
        have h9 : Blk ((w4.alloc (.cells #[.int .i64 k, .string n, .string v, .slice ar np cr, .slice as' nk cs'] 26)).alloc (.cells #[.int .i64 5, .string ⟨#[]⟩, .string ⟨#[109, 111, 114, 101]⟩, .slice none 0 0, .slice none 0 0] 26)) w4.heap.size #[.int .i64 k, .string n, .string v, .slice ar np cr, .slice as' nk cs'] 26 := BT.alloc _
        have h8 := h9.lt
        unfold Blk at h9 ⊢
        rw [hg6.block _ h8 (fun e => by have := HO.out.lt _ e.symm; omega)]
        exact h9
      have hb6 : Below w'.heap.size ((w4.alloc (.cells #[.int .i64 k, .string n, .string v, .slice ar np cr, .slice as' nk cs'] 26)).alloc (.cells #[.int .i64 5, .string ⟨#[]⟩, .string ⟨#[109, 111, 114, 101]⟩, .slice none 0 0, .slice none 0 0] 26)) w6 := Own5.grown HO3.out hg6 (Nat.le_refl _) hz3
      have hw6 : Below w.heap.size w w6 := (hw4.trans (hbA2.mono hw4.size)).trans (hb6.mono hw3.size)
      have BA6 := (BA.below hbA2 kA).below hb6 (by omega)
      have TM := Lib.hid (more_lies h k n v ps ks np nk HNP.out HNK.out w'.heap.size w4 ((w4.alloc (.cells #[.int .i64 k, .string n, .string v, .slice ar np cr, .slice as' nk cs'] 26)).alloc (.cells #[.int .i64 5, .string ⟨#[]⟩, .string ⟨#[109, 111, 114, 101]⟩, .slice none 0 0, .slice none 0 0] 26)) w6 ar cr as' cs' vs g cap (.slice (some ⟨g, 0, none⟩) (nk + 1) cap) hn' HR.out HP.out hbA2 hO6 hg6 hgn (by have h9 := SA.out; rw [HTT.out] at h9; have h8 : List.length ps ≤ 400 := h9.1; rw [HNP.out] at h8; omega) (by omega))
      have hw7 : Below w.heap.size w (w6.setCell ⟨w4.heap.size, 4, none⟩ (.slice (some ⟨g, 0, none⟩) (nk + 1) cap)) := hw6.setCell (p := ⟨w4.heap.size, 4, none⟩) hw4.size _
      have SM : Hid (SmallT (h + 2) (⟨k, n, v, ps, ks ++ [cmt h]⟩ : Nd (Tr (h + 1)))) := by
        have h9 := SA.out
        rw [HTT.out] at h9
        refine ⟨h9.1, (show (ks ++ [cmt h]).length ≤ 400 by rw [List.length_append, HNK.out]; exact nk4), fun y hy => ?_⟩
        have hy : y ∈ ks ++ [cmt h] := hy
        rcases List.mem_append.1 hy with hy | hy
        · exact h9.2.2 y hy
        · obtain rfl : y = cmt h := by simpa using hy
          exact cmt_small h
      have hne6 : w4.heap.size ≠ w.heap.size := by omega
      have BA7 : Blk (w6.setCell ⟨w4.heap.size, 4, none⟩ (.slice (some ⟨g, 0, none⟩) (nk + 1) cap)) w.heap.size #[.int .i64 k, .string n, .string v, .slice aa np ca, .slice ka nk ck] 26 := BA6.other (a := ⟨w4.heap.size, 4, none⟩) (fun e => hne6 e.symm) _
      have BT7 : Blk (w6.setCell ⟨w4.heap.size, 4, none⟩ (.slice (some ⟨g, 0, none⟩) (nk + 1) cap)) w4.heap.size #[.int .i64 k, .string n, .string v, .slice ar np cr, .slice (some ⟨g, 0, none⟩) (nk + 1) cap] 26 := BT6.set 4 _
      have CM := Lib.hid (fun h1 h2 => trees_any (h + 2) T (⟨k, n, v, ps, ks ++ [cmt h]⟩ : Nd (Tr (h + 1))) #[.int .i64 k, .string n, .string v, .slice aa np ca, .slice ka nk ck] #[.int .i64 k, .string n, .string v, .slice ar np cr, .slice (some ⟨g, 0, none⟩) (nk + 1) cap] (w6.setCell ⟨w4.heap.size, 4, none⟩ (.slice (some ⟨g, 0, none⟩) (nk + 1) cap)) h1 h2 SA.out SM.out)
      have k4 := BT6.lt
      obtain ⟨⟨s0, s1, s2, s3, s4⟩, y0, y1, y2, y3, y4⟩ := BT6.five5
      clear kA kB kC a0 a1 a2 a3 a4 b0 b1 b2 b3 b4 e0 e1 e2 e3 e4 BT hba hbA2 hO6 hg6 hf6 HO HR HP HO2 HO3 BN hb6 BA BB BC hz3 hz2
      have kA7 := BA7.lt
      have kT7 := BT7.lt
      obtain ⟨⟨a0, a1, a2, a3, a4⟩, -⟩ := BA7.five5
      obtain ⟨⟨t0, t1, t2, t3, t4⟩, -⟩ := BT7.five5
      have hwf := hw7.size
      cases e2 : (k == 2)
      · have f2 : (k != 2) = true := by unfold bne; rw [e2]; rfl
        cases e1 : (k == 1)
        · have f1 : (k != 1) = true := by unfold bne; rw [e1]; rfl
          clear CM TM SM
          go_wp2_with fail
          go_returns
          exact ⟨rfl, hw7⟩
        · have f1 : (k != 1) = false := by unfold bne; rw [e1]; rfl
          have hdc : deepF (h + 2) T (⟨k, n, v, ps, ks ++ [cmt h]⟩ : Nd (Tr (h + 1))) = true := by rw [HTT.out]; exact deep_comment (h + 1) ⟨k, n, v, ps, ks⟩ (cmt h) rfl (by show (k == 2 || k == 1) = true; rw [e1]; simp)
          rw [hdc] at CM
          go_wp2_with fail
          with_reducible refine (CM.out (HA.out.on hw7) TM.out).mono ?_
          rintro e w8 ⟨rfl, hb⟩
          go_wp2_with fail
          go_returns
          exact ⟨rfl, hw7.trans (hb.mono hw7.size)⟩
      · have f2 : (k != 2) = false := by unfold bne; rw [e2]; rfl
        have hdc : deepF (h + 2) T (⟨k, n, v, ps, ks ++ [cmt h]⟩ : Nd (Tr (h + 1))) = true := by rw [HTT.out]; exact deep_comment (h + 1) ⟨k, n, v, ps, ks⟩ (cmt h) rfl (by show (k == 2 || k == 1) = true; rw [e2]; rfl)
        rw [hdc] at CM
        go_wp2_with fail
        with_reducible refine (CM.out (HA.out.on hw7) TM.out).mono ?_
        rintro e w8 ⟨rfl, hb⟩
        go_wp2_with fail
        go_returns
        exact ⟨rfl, hw7.trans (hb.mono hw7.size)⟩
    · cases BCv
      · go_wp2_with fail
        refine RC.region_steps (R := RB) 29 [some 19, some 20, some 21, some 22, some 23, some 24, some 25, some 26, some 27, some 28, some 29, some 30, some 31, some 32, some 33, some 34, some 35, some 36, some 37, some 38, some 39, some 40, some 41, some 42, some 43, some 44, some 45, some 46, some 47] (fun _ _ => True) (fun a b c h1 h2 => h1.trans (h2.mono h1.size)) (fun w => below_drewN (Below.refl _ w) 1) (fun _ => trivial) (by kernel_rfl) (by kernel_rfl) ?_
        -- 0: Op.load 26 (Operand.tmp 3)
        apply RC.ls_val (fun _ _ _ _ _ _ => trivial)
        · intro x w' hb hpre K hK
          have za0 := (hb.cell (p := ⟨w.heap.size, 0, none⟩) kA).trans a0
          have za1 := (hb.cell (p := ⟨w.heap.size, 1, none⟩) kA).trans a1
          have za2 := (hb.cell (p := ⟨w.heap.size, 2, none⟩) kA).trans a2
          have za3 := (hb.cell (p := ⟨w.heap.size, 3, none⟩) kA).trans a3
          have za4 := (hb.cell (p := ⟨w.heap.size, 4, none⟩) kA).trans a4
          have zb0 := (hb.cell (p := ⟨w.heap.size + 1, 0, none⟩) kB).trans b0
          have zb1 := (hb.cell (p := ⟨w.heap.size + 1, 1, none⟩) kB).trans b1
          have zb2 := (hb.cell (p := ⟨w.heap.size + 1, 2, none⟩) kB).trans b2
          have zb3 := (hb.cell (p := ⟨w.heap.size + 1, 3, none⟩) kB).trans b3
          have zb4 := (hb.cell (p := ⟨w.heap.size + 1, 4, none⟩) kB).trans b4
          have ze0 := (hb.cell (p := ⟨w.heap.size + 1 + 1, 0, none⟩) kC).trans e0
          have ze1 := (hb.cell (p := ⟨w.heap.size + 1 + 1, 1, none⟩) kC).trans e1
          have ze2 := (hb.cell (p := ⟨w.heap.size + 1 + 1, 2, none⟩) kC).trans e2
          have ze3 := (hb.cell (p := ⟨w.heap.size + 1 + 1, 3, none⟩) kC).trans e3
          have ze4 := (hb.cell (p := ⟨w.heap.size + 1 + 1, 4, none⟩) kC).trans e4
          clear hpre
          simp only [frL, Act.put, List.setIfInBounds_toArray, List.set_cons_zero, List.set_cons_succ, Nat.zero_add, Nat.reduceAdd] at hK ⊢
          have HK := Lib.hid hK
          clear hK
          refine Held.mk ?_
          go_simp
          exact HK.out _ (Below.refl _ _)
        -- 1: Op.load 26 (Operand.tmp 3)
        apply RC.ls_val (fun _ _ _ _ _ _ => trivial)
        · intro x w' hb hpre K hK
          have za0 := (hb.cell (p := ⟨w.heap.size, 0, none⟩) kA).trans a0
          have za1 := (hb.cell (p := ⟨w.heap.size, 1, none⟩) kA).trans a1
          have za2 := (hb.cell (p := ⟨w.heap.size, 2, none⟩) kA).trans a2
          have za3 := (hb.cell (p := ⟨w.heap.size, 3, none⟩) kA).trans a3
          have za4 := (hb.cell (p := ⟨w.heap.size, 4, none⟩) kA).trans a4
          have zb0 := (hb.cell (p := ⟨w.heap.size + 1, 0, none⟩) kB).trans b0
          have zb1 := (hb.cell (p := ⟨w.heap.size + 1, 1, none⟩) kB).trans b1
          have zb2 := (hb.cell (p := ⟨w.heap.size + 1, 2, none⟩) kB).trans b2
          have zb3 := (hb.cell (p := ⟨w.heap.size + 1, 3, none⟩) kB).trans b3
          have zb4 := (hb.cell (p := ⟨w.heap.size + 1, 4, none⟩) kB).trans b4
          have ze0 := (hb.cell (p := ⟨w.heap.size + 1 + 1, 0, none⟩) kC).trans e0
          have ze1 := (hb.cell (p := ⟨w.heap.size + 1 + 1, 1, none⟩) kC).trans e1
          have ze2 := (hb.cell (p := ⟨w.heap.size + 1 + 1, 2, none⟩) kC).trans e2
          have ze3 := (hb.cell (p := ⟨w.heap.size + 1 + 1, 3, none⟩) kC).trans e3
          have ze4 := (hb.cell (p := ⟨w.heap.size + 1 + 1, 4, none⟩) kC).trans e4
          clear hpre
          simp only [frL, Act.put, List.setIfInBounds_toArray, List.set_cons_zero, List.set_cons_succ, Nat.zero_add, Nat.reduceAdd] at hK ⊢
          have HK := Lib.hid hK
          clear hK
          refine Held.mk ?_
          go_simp
          exact HK.out _ (Below.refl _ _)
        -- 2: Op.call { callee := Callee.value (Operand.func 8), args := #[Operand.tmp 19, Ope
        apply RC.ls_val (fun _ _ _ _ _ _ => trivial)
        · intro x w' hb hpre K hK
          have za0 := (hb.cell (p := ⟨w.heap.size, 0, none⟩) kA).trans a0
          have za1 := (hb.cell (p := ⟨w.heap.size, 1, none⟩) kA).trans a1
          have za2 := (hb.cell (p := ⟨w.heap.size, 2, none⟩) kA).trans a2
          have za3 := (hb.cell (p := ⟨w.heap.size, 3, none⟩) kA).trans a3
          have za4 := (hb.cell (p := ⟨w.heap.size, 4, none⟩) kA).trans a4
          have zb0 := (hb.cell (p := ⟨w.heap.size + 1, 0, none⟩) kB).trans b0
          have zb1 := (hb.cell (p := ⟨w.heap.size + 1, 1, none⟩) kB).trans b1
          have zb2 := (hb.cell (p := ⟨w.heap.size + 1, 2, none⟩) kB).trans b2
          have zb3 := (hb.cell (p := ⟨w.heap.size + 1, 3, none⟩) kB).trans b3
          have zb4 := (hb.cell (p := ⟨w.heap.size + 1, 4, none⟩) kB).trans b4
          have ze0 := (hb.cell (p := ⟨w.heap.size + 1 + 1, 0, none⟩) kC).trans e0
          have ze1 := (hb.cell (p := ⟨w.heap.size + 1 + 1, 1, none⟩) kC).trans e1
          have ze2 := (hb.cell (p := ⟨w.heap.size + 1 + 1, 2, none⟩) kC).trans e2
          have ze3 := (hb.cell (p := ⟨w.heap.size + 1 + 1, 3, none⟩) kC).trans e3
          have ze4 := (hb.cell (p := ⟨w.heap.size + 1 + 1, 4, none⟩) kC).trans e4
          simp [preds, Region.binds, RC.phi, RC.MP.val] at hpre
          simp only [frL, Act.put, List.setIfInBounds_toArray, List.set_cons_zero, List.set_cons_succ, Nat.zero_add, Nat.reduceAdd, hpre] at hK ⊢
          have HK := Lib.hid hK
          clear hK
          refine Held.mk ?_
          go_simp
          (with_reducible refine (AAc.out _ hb).mono ?_)
          rintro e w1 ⟨rfl, hb1⟩
          dsimp only
          exact HK.out _ hb1
        -- 3: Op.unOp UnOp.not 4 (Operand.tmp 21)
        apply RC.ls_val (fun _ _ _ _ _ _ => trivial)
        · intro x w' hb hpre K hK
          have za0 := (hb.cell (p := ⟨w.heap.size, 0, none⟩) kA).trans a0
          have za1 := (hb.cell (p := ⟨w.heap.size, 1, none⟩) kA).trans a1
          have za2 := (hb.cell (p := ⟨w.heap.size, 2, none⟩) kA).trans a2
          have za3 := (hb.cell (p := ⟨w.heap.size, 3, none⟩) kA).trans a3
          have za4 := (hb.cell (p := ⟨w.heap.size, 4, none⟩) kA).trans a4
          have zb0 := (hb.cell (p := ⟨w.heap.size + 1, 0, none⟩) kB).trans b0
          have zb1 := (hb.cell (p := ⟨w.heap.size + 1, 1, none⟩) kB).trans b1
          have zb2 := (hb.cell (p := ⟨w.heap.size + 1, 2, none⟩) kB).trans b2
          have zb3 := (hb.cell (p := ⟨w.heap.size + 1, 3, none⟩) kB).trans b3
          have zb4 := (hb.cell (p := ⟨w.heap.size + 1, 4, none⟩) kB).trans b4
          have ze0 := (hb.cell (p := ⟨w.heap.size + 1 + 1, 0, none⟩) kC).trans e0
          have ze1 := (hb.cell (p := ⟨w.heap.size + 1 + 1, 1, none⟩) kC).trans e1
          have ze2 := (hb.cell (p := ⟨w.heap.size + 1 + 1, 2, none⟩) kC).trans e2
          have ze3 := (hb.cell (p := ⟨w.heap.size + 1 + 1, 3, none⟩) kC).trans e3
          have ze4 := (hb.cell (p := ⟨w.heap.size + 1 + 1, 4, none⟩) kC).trans e4
          simp [preds, Region.binds, RC.phi, RC.MP.val] at hpre
          simp only [frL, Act.put, List.setIfInBounds_toArray, List.set_cons_zero, List.set_cons_succ, Nat.zero_add, Nat.reduceAdd, hpre] at hK ⊢
          have HK := Lib.hid hK
          clear hK
          refine Held.mk ?_
          go_simp
          exact HK.out _ (Below.refl _ _)
        -- 4: Op.move (Operand.tmp 22)
        apply RC.ls_val (fun _ _ _ _ _ _ => trivial)
        · intro x w' hb hpre K hK
          have za0 := (hb.cell (p := ⟨w.heap.size, 0, none⟩) kA).trans a0
          have za1 := (hb.cell (p := ⟨w.heap.size, 1, none⟩) kA).trans a1
          have za2 := (hb.cell (p := ⟨w.heap.size, 2, none⟩) kA).trans a2
          have za3 := (hb.cell (p := ⟨w.heap.size, 3, none⟩) kA).trans a3
          have za4 := (hb.cell (p := ⟨w.heap.size, 4, none⟩) kA).trans a4
          have zb0 := (hb.cell (p := ⟨w.heap.size + 1, 0, none⟩) kB).trans b0
          have zb1 := (hb.cell (p := ⟨w.heap.size + 1, 1, none⟩) kB).trans b1
          have zb2 := (hb.cell (p := ⟨w.heap.size + 1, 2, none⟩) kB).trans b2
          have zb3 := (hb.cell (p := ⟨w.heap.size + 1, 3, none⟩) kB).trans b3
          have zb4 := (hb.cell (p := ⟨w.heap.size + 1, 4, none⟩) kB).trans b4
          have ze0 := (hb.cell (p := ⟨w.heap.size + 1 + 1, 0, none⟩) kC).trans e0
          have ze1 := (hb.cell (p := ⟨w.heap.size + 1 + 1, 1, none⟩) kC).trans e1
          have ze2 := (hb.cell (p := ⟨w.heap.size + 1 + 1, 2, none⟩) kC).trans e2
          have ze3 := (hb.cell (p := ⟨w.heap.size + 1 + 1, 3, none⟩) kC).trans e3
          have ze4 := (hb.cell (p := ⟨w.heap.size + 1 + 1, 4, none⟩) kC).trans e4
          simp [preds, Region.binds, RC.phi, RC.MP.val] at hpre
          simp only [frL, Act.put, List.setIfInBounds_toArray, List.set_cons_zero, List.set_cons_succ, Nat.zero_add, Nat.reduceAdd, hpre] at hK ⊢
          have HK := Lib.hid hK
          clear hK
          refine Held.mk ?_
          go_simp
          exact HK.out _ (Below.refl _ _)
        -- 5: Op.load 26 (Operand.tmp 3)
        apply RC.ls_val (fun _ _ _ _ _ _ => trivial)
        · intro x w' hb hpre K hK
          have za0 := (hb.cell (p := ⟨w.heap.size, 0, none⟩) kA).trans a0
          have za1 := (hb.cell (p := ⟨w.heap.size, 1, none⟩) kA).trans a1
          have za2 := (hb.cell (p := ⟨w.heap.size, 2, none⟩) kA).trans a2
          have za3 := (hb.cell (p := ⟨w.heap.size, 3, none⟩) kA).trans a3
          have za4 := (hb.cell (p := ⟨w.heap.size, 4, none⟩) kA).trans a4
          have zb0 := (hb.cell (p := ⟨w.heap.size + 1, 0, none⟩) kB).trans b0
          have zb1 := (hb.cell (p := ⟨w.heap.size + 1, 1, none⟩) kB).trans b1
          have zb2 := (hb.cell (p := ⟨w.heap.size + 1, 2, none⟩) kB).trans b2
          have zb3 := (hb.cell (p := ⟨w.heap.size + 1, 3, none⟩) kB).trans b3
          have zb4 := (hb.cell (p := ⟨w.heap.size + 1, 4, none⟩) kB).trans b4
          have ze0 := (hb.cell (p := ⟨w.heap.size + 1 + 1, 0, none⟩) kC).trans e0
          have ze1 := (hb.cell (p := ⟨w.heap.size + 1 + 1, 1, none⟩) kC).trans e1
          have ze2 := (hb.cell (p := ⟨w.heap.size + 1 + 1, 2, none⟩) kC).trans e2
          have ze3 := (hb.cell (p := ⟨w.heap.size + 1 + 1, 3, none⟩) kC).trans e3
          have ze4 := (hb.cell (p := ⟨w.heap.size + 1 + 1, 4, none⟩) kC).trans e4
          simp [preds, Region.binds, RC.phi, RC.MP.val] at hpre
          simp only [frL, Act.put, List.setIfInBounds_toArray, List.set_cons_zero, List.set_cons_succ, Nat.zero_add, Nat.reduceAdd, hpre] at hK ⊢
          have HK := Lib.hid hK
          clear hK
          refine Held.mk ?_
          go_simp
          exact HK.out _ (Below.refl _ _)
        -- 6: Op.load 26 (Operand.tmp 4)
        apply RC.ls_val (fun _ _ _ _ _ _ => trivial)
        · intro x w' hb hpre K hK
          have za0 := (hb.cell (p := ⟨w.heap.size, 0, none⟩) kA).trans a0
          have za1 := (hb.cell (p := ⟨w.heap.size, 1, none⟩) kA).trans a1
          have za2 := (hb.cell (p := ⟨w.heap.size, 2, none⟩) kA).trans a2
          have za3 := (hb.cell (p := ⟨w.heap.size, 3, none⟩) kA).trans a3
          have za4 := (hb.cell (p := ⟨w.heap.size, 4, none⟩) kA).trans a4
          have zb0 := (hb.cell (p := ⟨w.heap.size + 1, 0, none⟩) kB).trans b0
          have zb1 := (hb.cell (p := ⟨w.heap.size + 1, 1, none⟩) kB).trans b1
          have zb2 := (hb.cell (p := ⟨w.heap.size + 1, 2, none⟩) kB).trans b2
          have zb3 := (hb.cell (p := ⟨w.heap.size + 1, 3, none⟩) kB).trans b3
          have zb4 := (hb.cell (p := ⟨w.heap.size + 1, 4, none⟩) kB).trans b4
          have ze0 := (hb.cell (p := ⟨w.heap.size + 1 + 1, 0, none⟩) kC).trans e0
          have ze1 := (hb.cell (p := ⟨w.heap.size + 1 + 1, 1, none⟩) kC).trans e1
          have ze2 := (hb.cell (p := ⟨w.heap.size + 1 + 1, 2, none⟩) kC).trans e2
          have ze3 := (hb.cell (p := ⟨w.heap.size + 1 + 1, 3, none⟩) kC).trans e3
          have ze4 := (hb.cell (p := ⟨w.heap.size + 1 + 1, 4, none⟩) kC).trans e4
          simp [preds, Region.binds, RC.phi, RC.MP.val] at hpre
          simp only [frL, Act.put, List.setIfInBounds_toArray, List.set_cons_zero, List.set_cons_succ, Nat.zero_add, Nat.reduceAdd, hpre] at hK ⊢
          have HK := Lib.hid hK
          clear hK
          refine Held.mk ?_
          go_simp
          exact HK.out _ (Below.refl _ _)
        -- 7: Op.call { callee := Callee.value (Operand.func 8), args := #[Operand.tmp 24, Ope
        apply RC.ls_val (fun _ _ _ _ _ _ => trivial)
        · intro x w' hb hpre K hK
          have za0 := (hb.cell (p := ⟨w.heap.size, 0, none⟩) kA).trans a0
          have za1 := (hb.cell (p := ⟨w.heap.size, 1, none⟩) kA).trans a1
          have za2 := (hb.cell (p := ⟨w.heap.size, 2, none⟩) kA).trans a2
          have za3 := (hb.cell (p := ⟨w.heap.size, 3, none⟩) kA).trans a3
          have za4 := (hb.cell (p := ⟨w.heap.size, 4, none⟩) kA).trans a4
          have zb0 := (hb.cell (p := ⟨w.heap.size + 1, 0, none⟩) kB).trans b0
          have zb1 := (hb.cell (p := ⟨w.heap.size + 1, 1, none⟩) kB).trans b1
          have zb2 := (hb.cell (p := ⟨w.heap.size + 1, 2, none⟩) kB).trans b2
          have zb3 := (hb.cell (p := ⟨w.heap.size + 1, 3, none⟩) kB).trans b3
          have zb4 := (hb.cell (p := ⟨w.heap.size + 1, 4, none⟩) kB).trans b4
          have ze0 := (hb.cell (p := ⟨w.heap.size + 1 + 1, 0, none⟩) kC).trans e0
          have ze1 := (hb.cell (p := ⟨w.heap.size + 1 + 1, 1, none⟩) kC).trans e1
          have ze2 := (hb.cell (p := ⟨w.heap.size + 1 + 1, 2, none⟩) kC).trans e2
          have ze3 := (hb.cell (p := ⟨w.heap.size + 1 + 1, 3, none⟩) kC).trans e3
          have ze4 := (hb.cell (p := ⟨w.heap.size + 1 + 1, 4, none⟩) kC).trans e4
          simp [preds, Region.binds, RC.phi, RC.MP.val] at hpre
          simp only [frL, Act.put, List.setIfInBounds_toArray, List.set_cons_zero, List.set_cons_succ, Nat.zero_add, Nat.reduceAdd, hpre] at hK ⊢
          have HK := Lib.hid hK
          clear hK
          refine Held.mk ?_
          go_simp
          (with_reducible refine (ABc.out _ hb).mono ?_)
          rintro e w1 ⟨rfl, hb1⟩
          dsimp only
          exact HK.out _ hb1
        -- 8: Op.load 26 (Operand.tmp 4)
        apply RC.ls_val (fun _ _ _ _ _ _ => trivial)
        · intro x w' hb hpre K hK
          have za0 := (hb.cell (p := ⟨w.heap.size, 0, none⟩) kA).trans a0
          have za1 := (hb.cell (p := ⟨w.heap.size, 1, none⟩) kA).trans a1
          have za2 := (hb.cell (p := ⟨w.heap.size, 2, none⟩) kA).trans a2
          have za3 := (hb.cell (p := ⟨w.heap.size, 3, none⟩) kA).trans a3
          have za4 := (hb.cell (p := ⟨w.heap.size, 4, none⟩) kA).trans a4
          have zb0 := (hb.cell (p := ⟨w.heap.size + 1, 0, none⟩) kB).trans b0
          have zb1 := (hb.cell (p := ⟨w.heap.size + 1, 1, none⟩) kB).trans b1
          have zb2 := (hb.cell (p := ⟨w.heap.size + 1, 2, none⟩) kB).trans b2
          have zb3 := (hb.cell (p := ⟨w.heap.size + 1, 3, none⟩) kB).trans b3
          have zb4 := (hb.cell (p := ⟨w.heap.size + 1, 4, none⟩) kB).trans b4
          have ze0 := (hb.cell (p := ⟨w.heap.size + 1 + 1, 0, none⟩) kC).trans e0
          have ze1 := (hb.cell (p := ⟨w.heap.size + 1 + 1, 1, none⟩) kC).trans e1
          have ze2 := (hb.cell (p := ⟨w.heap.size + 1 + 1, 2, none⟩) kC).trans e2
          have ze3 := (hb.cell (p := ⟨w.heap.size + 1 + 1, 3, none⟩) kC).trans e3
          have ze4 := (hb.cell (p := ⟨w.heap.size + 1 + 1, 4, none⟩) kC).trans e4
          simp [preds, Region.binds, RC.phi, RC.MP.val] at hpre
          simp only [frL, Act.put, List.setIfInBounds_toArray, List.set_cons_zero, List.set_cons_succ, Nat.zero_add, Nat.reduceAdd, hpre] at hK ⊢
          have HK := Lib.hid hK
          clear hK
          refine Held.mk ?_
          go_simp
          exact HK.out _ (Below.refl _ _)
        -- 9: Op.load 26 (Operand.tmp 3)
        apply RC.ls_val (fun _ _ _ _ _ _ => trivial)
        · intro x w' hb hpre K hK
          have za0 := (hb.cell (p := ⟨w.heap.size, 0, none⟩) kA).trans a0
          have za1 := (hb.cell (p := ⟨w.heap.size, 1, none⟩) kA).trans a1
          have za2 := (hb.cell (p := ⟨w.heap.size, 2, none⟩) kA).trans a2
          have za3 := (hb.cell (p := ⟨w.heap.size, 3, none⟩) kA).trans a3
          have za4 := (hb.cell (p := ⟨w.heap.size, 4, none⟩) kA).trans a4
          have zb0 := (hb.cell (p := ⟨w.heap.size + 1, 0, none⟩) kB).trans b0
          have zb1 := (hb.cell (p := ⟨w.heap.size + 1, 1, none⟩) kB).trans b1
          have zb2 := (hb.cell (p := ⟨w.heap.size + 1, 2, none⟩) kB).trans b2
          have zb3 := (hb.cell (p := ⟨w.heap.size + 1, 3, none⟩) kB).trans b3
          have zb4 := (hb.cell (p := ⟨w.heap.size + 1, 4, none⟩) kB).trans b4
          have ze0 := (hb.cell (p := ⟨w.heap.size + 1 + 1, 0, none⟩) kC).trans e0
          have ze1 := (hb.cell (p := ⟨w.heap.size + 1 + 1, 1, none⟩) kC).trans e1
          have ze2 := (hb.cell (p := ⟨w.heap.size + 1 + 1, 2, none⟩) kC).trans e2
          have ze3 := (hb.cell (p := ⟨w.heap.size + 1 + 1, 3, none⟩) kC).trans e3
          have ze4 := (hb.cell (p := ⟨w.heap.size + 1 + 1, 4, none⟩) kC).trans e4
          simp [preds, Region.binds, RC.phi, RC.MP.val] at hpre
          simp only [frL, Act.put, List.setIfInBounds_toArray, List.set_cons_zero, List.set_cons_succ, Nat.zero_add, Nat.reduceAdd, hpre] at hK ⊢
          have HK := Lib.hid hK
          clear hK
          refine Held.mk ?_
          go_simp
          exact HK.out _ (Below.refl _ _)
        -- 10: Op.call { callee := Callee.value (Operand.func 8), args := #[Operand.tmp 27, Ope
        apply RC.ls_val (fun _ _ _ _ _ _ => trivial)
        · intro x w' hb hpre K hK
          have za0 := (hb.cell (p := ⟨w.heap.size, 0, none⟩) kA).trans a0
          have za1 := (hb.cell (p := ⟨w.heap.size, 1, none⟩) kA).trans a1
          have za2 := (hb.cell (p := ⟨w.heap.size, 2, none⟩) kA).trans a2
          have za3 := (hb.cell (p := ⟨w.heap.size, 3, none⟩) kA).trans a3
          have za4 := (hb.cell (p := ⟨w.heap.size, 4, none⟩) kA).trans a4
          have zb0 := (hb.cell (p := ⟨w.heap.size + 1, 0, none⟩) kB).trans b0
          have zb1 := (hb.cell (p := ⟨w.heap.size + 1, 1, none⟩) kB).trans b1
          have zb2 := (hb.cell (p := ⟨w.heap.size + 1, 2, none⟩) kB).trans b2
          have zb3 := (hb.cell (p := ⟨w.heap.size + 1, 3, none⟩) kB).trans b3
          have zb4 := (hb.cell (p := ⟨w.heap.size + 1, 4, none⟩) kB).trans b4
          have ze0 := (hb.cell (p := ⟨w.heap.size + 1 + 1, 0, none⟩) kC).trans e0
          have ze1 := (hb.cell (p := ⟨w.heap.size + 1 + 1, 1, none⟩) kC).trans e1
          have ze2 := (hb.cell (p := ⟨w.heap.size + 1 + 1, 2, none⟩) kC).trans e2
          have ze3 := (hb.cell (p := ⟨w.heap.size + 1 + 1, 3, none⟩) kC).trans e3
          have ze4 := (hb.cell (p := ⟨w.heap.size + 1 + 1, 4, none⟩) kC).trans e4
          simp [preds, Region.binds, RC.phi, RC.MP.val] at hpre
          simp only [frL, Act.put, List.setIfInBounds_toArray, List.set_cons_zero, List.set_cons_succ, Nat.zero_add, Nat.reduceAdd, hpre] at hK ⊢
          have HK := Lib.hid hK
          clear hK
          refine Held.mk ?_
          go_simp
          (with_reducible refine (BAc.out _ hb).mono ?_)
          rintro e w1 ⟨rfl, hb1⟩
          dsimp only
          exact HK.out _ hb1
        -- 11: Op.binOp BinOp.neq 4 (Operand.tmp 26) (Operand.tmp 29) 4
        apply RC.ls_val (fun _ _ _ _ _ _ => trivial)
        · intro x w' hb hpre K hK
          have za0 := (hb.cell (p := ⟨w.heap.size, 0, none⟩) kA).trans a0
          have za1 := (hb.cell (p := ⟨w.heap.size, 1, none⟩) kA).trans a1
          have za2 := (hb.cell (p := ⟨w.heap.size, 2, none⟩) kA).trans a2
          have za3 := (hb.cell (p := ⟨w.heap.size, 3, none⟩) kA).trans a3
          have za4 := (hb.cell (p := ⟨w.heap.size, 4, none⟩) kA).trans a4
          have zb0 := (hb.cell (p := ⟨w.heap.size + 1, 0, none⟩) kB).trans b0
          have zb1 := (hb.cell (p := ⟨w.heap.size + 1, 1, none⟩) kB).trans b1
          have zb2 := (hb.cell (p := ⟨w.heap.size + 1, 2, none⟩) kB).trans b2
          have zb3 := (hb.cell (p := ⟨w.heap.size + 1, 3, none⟩) kB).trans b3
          have zb4 := (hb.cell (p := ⟨w.heap.size + 1, 4, none⟩) kB).trans b4
          have ze0 := (hb.cell (p := ⟨w.heap.size + 1 + 1, 0, none⟩) kC).trans e0
          have ze1 := (hb.cell (p := ⟨w.heap.size + 1 + 1, 1, none⟩) kC).trans e1
          have ze2 := (hb.cell (p := ⟨w.heap.size + 1 + 1, 2, none⟩) kC).trans e2
          have ze3 := (hb.cell (p := ⟨w.heap.size + 1 + 1, 3, none⟩) kC).trans e3
          have ze4 := (hb.cell (p := ⟨w.heap.size + 1 + 1, 4, none⟩) kC).trans e4
          simp [preds, Region.binds, RC.phi, RC.MP.val] at hpre
          simp only [frL, Act.put, List.setIfInBounds_toArray, List.set_cons_zero, List.set_cons_succ, Nat.zero_add, Nat.reduceAdd, hpre] at hK ⊢
          have HK := Lib.hid hK
          clear hK
          refine Held.mk ?_
          go_simp
          exact HK.out _ (Below.refl _ _)
        -- 12: Op.pick (Operand.tmp 23) (Operand.const (Value.bool true)) (Operand.tmp 30)
        apply RC.ls_val (fun _ _ _ _ _ _ => trivial)
        · intro x w' hb hpre K hK
          have za0 := (hb.cell (p := ⟨w.heap.size, 0, none⟩) kA).trans a0
          have za1 := (hb.cell (p := ⟨w.heap.size, 1, none⟩) kA).trans a1
          have za2 := (hb.cell (p := ⟨w.heap.size, 2, none⟩) kA).trans a2
          have za3 := (hb.cell (p := ⟨w.heap.size, 3, none⟩) kA).trans a3
          have za4 := (hb.cell (p := ⟨w.heap.size, 4, none⟩) kA).trans a4
          have zb0 := (hb.cell (p := ⟨w.heap.size + 1, 0, none⟩) kB).trans b0
          have zb1 := (hb.cell (p := ⟨w.heap.size + 1, 1, none⟩) kB).trans b1
          have zb2 := (hb.cell (p := ⟨w.heap.size + 1, 2, none⟩) kB).trans b2
          have zb3 := (hb.cell (p := ⟨w.heap.size + 1, 3, none⟩) kB).trans b3
          have zb4 := (hb.cell (p := ⟨w.heap.size + 1, 4, none⟩) kB).trans b4
          have ze0 := (hb.cell (p := ⟨w.heap.size + 1 + 1, 0, none⟩) kC).trans e0
          have ze1 := (hb.cell (p := ⟨w.heap.size + 1 + 1, 1, none⟩) kC).trans e1
          have ze2 := (hb.cell (p := ⟨w.heap.size + 1 + 1, 2, none⟩) kC).trans e2
          have ze3 := (hb.cell (p := ⟨w.heap.size + 1 + 1, 3, none⟩) kC).trans e3
          have ze4 := (hb.cell (p := ⟨w.heap.size + 1 + 1, 4, none⟩) kC).trans e4
          simp [preds, Region.binds, RC.phi, RC.MP.val] at hpre
          simp only [frL, Act.put, List.setIfInBounds_toArray, List.set_cons_zero, List.set_cons_succ, Nat.zero_add, Nat.reduceAdd, hpre] at hK ⊢
          have HK := Lib.hid hK
          clear hK
          refine Held.mk ?_
          go_simp
          exact HK.out _ (Below.refl _ _)
        -- 13: Op.move (Operand.tmp 31)
        apply RC.ls_val (fun _ _ _ _ _ _ => trivial)
        · intro x w' hb hpre K hK
          have za0 := (hb.cell (p := ⟨w.heap.size, 0, none⟩) kA).trans a0
          have za1 := (hb.cell (p := ⟨w.heap.size, 1, none⟩) kA).trans a1
          have za2 := (hb.cell (p := ⟨w.heap.size, 2, none⟩) kA).trans a2
          have za3 := (hb.cell (p := ⟨w.heap.size, 3, none⟩) kA).trans a3
          have za4 := (hb.cell (p := ⟨w.heap.size, 4, none⟩) kA).trans a4
          have zb0 := (hb.cell (p := ⟨w.heap.size + 1, 0, none⟩) kB).trans b0
          have zb1 := (hb.cell (p := ⟨w.heap.size + 1, 1, none⟩) kB).trans b1
          have zb2 := (hb.cell (p := ⟨w.heap.size + 1, 2, none⟩) kB).trans b2
          have zb3 := (hb.cell (p := ⟨w.heap.size + 1, 3, none⟩) kB).trans b3
          have zb4 := (hb.cell (p := ⟨w.heap.size + 1, 4, none⟩) kB).trans b4
          have ze0 := (hb.cell (p := ⟨w.heap.size + 1 + 1, 0, none⟩) kC).trans e0
          have ze1 := (hb.cell (p := ⟨w.heap.size + 1 + 1, 1, none⟩) kC).trans e1
          have ze2 := (hb.cell (p := ⟨w.heap.size + 1 + 1, 2, none⟩) kC).trans e2
          have ze3 := (hb.cell (p := ⟨w.heap.size + 1 + 1, 3, none⟩) kC).trans e3
          have ze4 := (hb.cell (p := ⟨w.heap.size + 1 + 1, 4, none⟩) kC).trans e4
          simp [preds, Region.binds, RC.phi, RC.MP.val] at hpre
          simp only [frL, Act.put, List.setIfInBounds_toArray, List.set_cons_zero, List.set_cons_succ, Nat.zero_add, Nat.reduceAdd, hpre] at hK ⊢
          have HK := Lib.hid hK
          clear hK
          refine Held.mk ?_
          go_simp
          exact HK.out _ (Below.refl _ _)
        -- 14: Op.load 26 (Operand.tmp 3)
        apply RC.ls_val (fun _ _ _ _ _ _ => trivial)
        · intro x w' hb hpre K hK
          have za0 := (hb.cell (p := ⟨w.heap.size, 0, none⟩) kA).trans a0
          have za1 := (hb.cell (p := ⟨w.heap.size, 1, none⟩) kA).trans a1
          have za2 := (hb.cell (p := ⟨w.heap.size, 2, none⟩) kA).trans a2
          have za3 := (hb.cell (p := ⟨w.heap.size, 3, none⟩) kA).trans a3
          have za4 := (hb.cell (p := ⟨w.heap.size, 4, none⟩) kA).trans a4
          have zb0 := (hb.cell (p := ⟨w.heap.size + 1, 0, none⟩) kB).trans b0
          have zb1 := (hb.cell (p := ⟨w.heap.size + 1, 1, none⟩) kB).trans b1
          have zb2 := (hb.cell (p := ⟨w.heap.size + 1, 2, none⟩) kB).trans b2
          have zb3 := (hb.cell (p := ⟨w.heap.size + 1, 3, none⟩) kB).trans b3
          have zb4 := (hb.cell (p := ⟨w.heap.size + 1, 4, none⟩) kB).trans b4
          have ze0 := (hb.cell (p := ⟨w.heap.size + 1 + 1, 0, none⟩) kC).trans e0
          have ze1 := (hb.cell (p := ⟨w.heap.size + 1 + 1, 1, none⟩) kC).trans e1
          have ze2 := (hb.cell (p := ⟨w.heap.size + 1 + 1, 2, none⟩) kC).trans e2
          have ze3 := (hb.cell (p := ⟨w.heap.size + 1 + 1, 3, none⟩) kC).trans e3
          have ze4 := (hb.cell (p := ⟨w.heap.size + 1 + 1, 4, none⟩) kC).trans e4
          simp [preds, Region.binds, RC.phi, RC.MP.val] at hpre
          simp only [frL, Act.put, List.setIfInBounds_toArray, List.set_cons_zero, List.set_cons_succ, Nat.zero_add, Nat.reduceAdd, hpre] at hK ⊢
          have HK := Lib.hid hK
          clear hK
          refine Held.mk ?_
          go_simp
          exact HK.out _ (Below.refl _ _)
        -- 15: Op.load 26 (Operand.tmp 4)
        apply RC.ls_val (fun _ _ _ _ _ _ => trivial)
        · intro x w' hb hpre K hK
          have za0 := (hb.cell (p := ⟨w.heap.size, 0, none⟩) kA).trans a0
          have za1 := (hb.cell (p := ⟨w.heap.size, 1, none⟩) kA).trans a1
          have za2 := (hb.cell (p := ⟨w.heap.size, 2, none⟩) kA).trans a2
          have za3 := (hb.cell (p := ⟨w.heap.size, 3, none⟩) kA).trans a3
          have za4 := (hb.cell (p := ⟨w.heap.size, 4, none⟩) kA).trans a4
          have zb0 := (hb.cell (p := ⟨w.heap.size + 1, 0, none⟩) kB).trans b0
          have zb1 := (hb.cell (p := ⟨w.heap.size + 1, 1, none⟩) kB).trans b1
          have zb2 := (hb.cell (p := ⟨w.heap.size + 1, 2, none⟩) kB).trans b2
          have zb3 := (hb.cell (p := ⟨w.heap.size + 1, 3, none⟩) kB).trans b3
          have zb4 := (hb.cell (p := ⟨w.heap.size + 1, 4, none⟩) kB).trans b4
          have ze0 := (hb.cell (p := ⟨w.heap.size + 1 + 1, 0, none⟩) kC).trans e0
          have ze1 := (hb.cell (p := ⟨w.heap.size + 1 + 1, 1, none⟩) kC).trans e1
          have ze2 := (hb.cell (p := ⟨w.heap.size + 1 + 1, 2, none⟩) kC).trans e2
          have ze3 := (hb.cell (p := ⟨w.heap.size + 1 + 1, 3, none⟩) kC).trans e3
          have ze4 := (hb.cell (p := ⟨w.heap.size + 1 + 1, 4, none⟩) kC).trans e4
          simp [preds, Region.binds, RC.phi, RC.MP.val] at hpre
          simp only [frL, Act.put, List.setIfInBounds_toArray, List.set_cons_zero, List.set_cons_succ, Nat.zero_add, Nat.reduceAdd, hpre] at hK ⊢
          have HK := Lib.hid hK
          clear hK
          refine Held.mk ?_
          go_simp
          exact HK.out _ (Below.refl _ _)
        -- 16: Op.call { callee := Callee.value (Operand.func 8), args := #[Operand.tmp 33, Ope
        apply RC.ls_val (fun _ _ _ _ _ _ => trivial)
        · intro x w' hb hpre K hK
          have za0 := (hb.cell (p := ⟨w.heap.size, 0, none⟩) kA).trans a0
          have za1 := (hb.cell (p := ⟨w.heap.size, 1, none⟩) kA).trans a1
          have za2 := (hb.cell (p := ⟨w.heap.size, 2, none⟩) kA).trans a2
          have za3 := (hb.cell (p := ⟨w.heap.size, 3, none⟩) kA).trans a3
          have za4 := (hb.cell (p := ⟨w.heap.size, 4, none⟩) kA).trans a4
          have zb0 := (hb.cell (p := ⟨w.heap.size + 1, 0, none⟩) kB).trans b0
          have zb1 := (hb.cell (p := ⟨w.heap.size + 1, 1, none⟩) kB).trans b1
          have zb2 := (hb.cell (p := ⟨w.heap.size + 1, 2, none⟩) kB).trans b2
          have zb3 := (hb.cell (p := ⟨w.heap.size + 1, 3, none⟩) kB).trans b3
          have zb4 := (hb.cell (p := ⟨w.heap.size + 1, 4, none⟩) kB).trans b4
          have ze0 := (hb.cell (p := ⟨w.heap.size + 1 + 1, 0, none⟩) kC).trans e0
          have ze1 := (hb.cell (p := ⟨w.heap.size + 1 + 1, 1, none⟩) kC).trans e1
          have ze2 := (hb.cell (p := ⟨w.heap.size + 1 + 1, 2, none⟩) kC).trans e2
          have ze3 := (hb.cell (p := ⟨w.heap.size + 1 + 1, 3, none⟩) kC).trans e3
          have ze4 := (hb.cell (p := ⟨w.heap.size + 1 + 1, 4, none⟩) kC).trans e4
          simp [preds, Region.binds, RC.phi, RC.MP.val] at hpre
          simp only [frL, Act.put, List.setIfInBounds_toArray, List.set_cons_zero, List.set_cons_succ, Nat.zero_add, Nat.reduceAdd, hpre] at hK ⊢
          have HK := Lib.hid hK
          clear hK
          refine Held.mk ?_
          go_simp
          (with_reducible refine (ABc.out _ hb).mono ?_)
          rintro e w1 ⟨rfl, hb1⟩
          dsimp only
          exact HK.out _ hb1
        -- 17: Op.move (Operand.tmp 35)
        apply RC.ls_val (fun _ _ _ _ _ _ => trivial)
        · intro x w' hb hpre K hK
          have za0 := (hb.cell (p := ⟨w.heap.size, 0, none⟩) kA).trans a0
          have za1 := (hb.cell (p := ⟨w.heap.size, 1, none⟩) kA).trans a1
          have za2 := (hb.cell (p := ⟨w.heap.size, 2, none⟩) kA).trans a2
          have za3 := (hb.cell (p := ⟨w.heap.size, 3, none⟩) kA).trans a3
          have za4 := (hb.cell (p := ⟨w.heap.size, 4, none⟩) kA).trans a4
          have zb0 := (hb.cell (p := ⟨w.heap.size + 1, 0, none⟩) kB).trans b0
          have zb1 := (hb.cell (p := ⟨w.heap.size + 1, 1, none⟩) kB).trans b1
          have zb2 := (hb.cell (p := ⟨w.heap.size + 1, 2, none⟩) kB).trans b2
          have zb3 := (hb.cell (p := ⟨w.heap.size + 1, 3, none⟩) kB).trans b3
          have zb4 := (hb.cell (p := ⟨w.heap.size + 1, 4, none⟩) kB).trans b4
          have ze0 := (hb.cell (p := ⟨w.heap.size + 1 + 1, 0, none⟩) kC).trans e0
          have ze1 := (hb.cell (p := ⟨w.heap.size + 1 + 1, 1, none⟩) kC).trans e1
          have ze2 := (hb.cell (p := ⟨w.heap.size + 1 + 1, 2, none⟩) kC).trans e2
          have ze3 := (hb.cell (p := ⟨w.heap.size + 1 + 1, 3, none⟩) kC).trans e3
          have ze4 := (hb.cell (p := ⟨w.heap.size + 1 + 1, 4, none⟩) kC).trans e4
          simp [preds, Region.binds, RC.phi, RC.MP.val] at hpre
          simp only [frL, Act.put, List.setIfInBounds_toArray, List.set_cons_zero, List.set_cons_succ, Nat.zero_add, Nat.reduceAdd, hpre] at hK ⊢
          have HK := Lib.hid hK
          clear hK
          refine Held.mk ?_
          go_simp
          exact HK.out _ (Below.refl _ _)
        -- 18: Op.load 26 (Operand.tmp 4)
        apply RC.ls_val (fun _ _ _ _ _ _ => trivial)
        · intro x w' hb hpre K hK
          have za0 := (hb.cell (p := ⟨w.heap.size, 0, none⟩) kA).trans a0
          have za1 := (hb.cell (p := ⟨w.heap.size, 1, none⟩) kA).trans a1
          have za2 := (hb.cell (p := ⟨w.heap.size, 2, none⟩) kA).trans a2
          have za3 := (hb.cell (p := ⟨w.heap.size, 3, none⟩) kA).trans a3
          have za4 := (hb.cell (p := ⟨w.heap.size, 4, none⟩) kA).trans a4
          have zb0 := (hb.cell (p := ⟨w.heap.size + 1, 0, none⟩) kB).trans b0
          have zb1 := (hb.cell (p := ⟨w.heap.size + 1, 1, none⟩) kB).trans b1
          have zb2 := (hb.cell (p := ⟨w.heap.size + 1, 2, none⟩) kB).trans b2
          have zb3 := (hb.cell (p := ⟨w.heap.size + 1, 3, none⟩) kB).trans b3
          have zb4 := (hb.cell (p := ⟨w.heap.size + 1, 4, none⟩) kB).trans b4
          have ze0 := (hb.cell (p := ⟨w.heap.size + 1 + 1, 0, none⟩) kC).trans e0
          have ze1 := (hb.cell (p := ⟨w.heap.size + 1 + 1, 1, none⟩) kC).trans e1
          have ze2 := (hb.cell (p := ⟨w.heap.size + 1 + 1, 2, none⟩) kC).trans e2
          have ze3 := (hb.cell (p := ⟨w.heap.size + 1 + 1, 3, none⟩) kC).trans e3
          have ze4 := (hb.cell (p := ⟨w.heap.size + 1 + 1, 4, none⟩) kC).trans e4
          simp [preds, Region.binds, RC.phi, RC.MP.val] at hpre
          simp only [frL, Act.put, List.setIfInBounds_toArray, List.set_cons_zero, List.set_cons_succ, Nat.zero_add, Nat.reduceAdd, hpre] at hK ⊢
          have HK := Lib.hid hK
          clear hK
          refine Held.mk ?_
          go_simp
          exact HK.out _ (Below.refl _ _)
        -- 19: Op.load 26 (Operand.tmp 5)
        apply RC.ls_val (fun _ _ _ _ _ _ => trivial)
        · intro x w' hb hpre K hK
          have za0 := (hb.cell (p := ⟨w.heap.size, 0, none⟩) kA).trans a0
          have za1 := (hb.cell (p := ⟨w.heap.size, 1, none⟩) kA).trans a1
          have za2 := (hb.cell (p := ⟨w.heap.size, 2, none⟩) kA).trans a2
          have za3 := (hb.cell (p := ⟨w.heap.size, 3, none⟩) kA).trans a3
          have za4 := (hb.cell (p := ⟨w.heap.size, 4, none⟩) kA).trans a4
          have zb0 := (hb.cell (p := ⟨w.heap.size + 1, 0, none⟩) kB).trans b0
          have zb1 := (hb.cell (p := ⟨w.heap.size + 1, 1, none⟩) kB).trans b1
          have zb2 := (hb.cell (p := ⟨w.heap.size + 1, 2, none⟩) kB).trans b2
          have zb3 := (hb.cell (p := ⟨w.heap.size + 1, 3, none⟩) kB).trans b3
          have zb4 := (hb.cell (p := ⟨w.heap.size + 1, 4, none⟩) kB).trans b4
          have ze0 := (hb.cell (p := ⟨w.heap.size + 1 + 1, 0, none⟩) kC).trans e0
          have ze1 := (hb.cell (p := ⟨w.heap.size + 1 + 1, 1, none⟩) kC).trans e1
          have ze2 := (hb.cell (p := ⟨w.heap.size + 1 + 1, 2, none⟩) kC).trans e2
          have ze3 := (hb.cell (p := ⟨w.heap.size + 1 + 1, 3, none⟩) kC).trans e3
          have ze4 := (hb.cell (p := ⟨w.heap.size + 1 + 1, 4, none⟩) kC).trans e4
          simp [preds, Region.binds, RC.phi, RC.MP.val] at hpre
          simp only [frL, Act.put, List.setIfInBounds_toArray, List.set_cons_zero, List.set_cons_succ, Nat.zero_add, Nat.reduceAdd, hpre] at hK ⊢
          have HK := Lib.hid hK
          clear hK
          refine Held.mk ?_
          go_simp
          exact HK.out _ (Below.refl _ _)
        -- 20: Op.call { callee := Callee.value (Operand.func 8), args := #[Operand.tmp 37, Ope
        apply RC.ls_val (fun _ _ _ _ _ _ => trivial)
        · intro x w' hb hpre K hK
          have za0 := (hb.cell (p := ⟨w.heap.size, 0, none⟩) kA).trans a0
          have za1 := (hb.cell (p := ⟨w.heap.size, 1, none⟩) kA).trans a1
          have za2 := (hb.cell (p := ⟨w.heap.size, 2, none⟩) kA).trans a2
          have za3 := (hb.cell (p := ⟨w.heap.size, 3, none⟩) kA).trans a3
          have za4 := (hb.cell (p := ⟨w.heap.size, 4, none⟩) kA).trans a4
          have zb0 := (hb.cell (p := ⟨w.heap.size + 1, 0, none⟩) kB).trans b0
          have zb1 := (hb.cell (p := ⟨w.heap.size + 1, 1, none⟩) kB).trans b1
          have zb2 := (hb.cell (p := ⟨w.heap.size + 1, 2, none⟩) kB).trans b2
          have zb3 := (hb.cell (p := ⟨w.heap.size + 1, 3, none⟩) kB).trans b3
          have zb4 := (hb.cell (p := ⟨w.heap.size + 1, 4, none⟩) kB).trans b4
          have ze0 := (hb.cell (p := ⟨w.heap.size + 1 + 1, 0, none⟩) kC).trans e0
          have ze1 := (hb.cell (p := ⟨w.heap.size + 1 + 1, 1, none⟩) kC).trans e1
          have ze2 := (hb.cell (p := ⟨w.heap.size + 1 + 1, 2, none⟩) kC).trans e2
          have ze3 := (hb.cell (p := ⟨w.heap.size + 1 + 1, 3, none⟩) kC).trans e3
          have ze4 := (hb.cell (p := ⟨w.heap.size + 1 + 1, 4, none⟩) kC).trans e4
          simp [preds, Region.binds, RC.phi, RC.MP.val] at hpre
          simp only [frL, Act.put, List.setIfInBounds_toArray, List.set_cons_zero, List.set_cons_succ, Nat.zero_add, Nat.reduceAdd, hpre] at hK ⊢
          have HK := Lib.hid hK
          clear hK
          refine Held.mk ?_
          go_simp
          (with_reducible refine (BCc.out _ hb).mono ?_)
          rintro e w1 ⟨rfl, hb1⟩
          dsimp only
          exact HK.out _ hb1
        -- 21: Op.pick (Operand.tmp 36) (Operand.tmp 39) (Operand.const (Value.bool false))
        apply RC.ls_val (fun _ _ _ _ _ _ => trivial)
        · intro x w' hb hpre K hK
          have za0 := (hb.cell (p := ⟨w.heap.size, 0, none⟩) kA).trans a0
          have za1 := (hb.cell (p := ⟨w.heap.size, 1, none⟩) kA).trans a1
          have za2 := (hb.cell (p := ⟨w.heap.size, 2, none⟩) kA).trans a2
          have za3 := (hb.cell (p := ⟨w.heap.size, 3, none⟩) kA).trans a3
          have za4 := (hb.cell (p := ⟨w.heap.size, 4, none⟩) kA).trans a4
          have zb0 := (hb.cell (p := ⟨w.heap.size + 1, 0, none⟩) kB).trans b0
          have zb1 := (hb.cell (p := ⟨w.heap.size + 1, 1, none⟩) kB).trans b1
          have zb2 := (hb.cell (p := ⟨w.heap.size + 1, 2, none⟩) kB).trans b2
          have zb3 := (hb.cell (p := ⟨w.heap.size + 1, 3, none⟩) kB).trans b3
          have zb4 := (hb.cell (p := ⟨w.heap.size + 1, 4, none⟩) kB).trans b4
          have ze0 := (hb.cell (p := ⟨w.heap.size + 1 + 1, 0, none⟩) kC).trans e0
          have ze1 := (hb.cell (p := ⟨w.heap.size + 1 + 1, 1, none⟩) kC).trans e1
          have ze2 := (hb.cell (p := ⟨w.heap.size + 1 + 1, 2, none⟩) kC).trans e2
          have ze3 := (hb.cell (p := ⟨w.heap.size + 1 + 1, 3, none⟩) kC).trans e3
          have ze4 := (hb.cell (p := ⟨w.heap.size + 1 + 1, 4, none⟩) kC).trans e4
          simp [preds, Region.binds, RC.phi, RC.MP.val] at hpre
          simp only [frL, Act.put, List.setIfInBounds_toArray, List.set_cons_zero, List.set_cons_succ, Nat.zero_add, Nat.reduceAdd, hpre] at hK ⊢
          have HK := Lib.hid hK
          clear hK
          refine Held.mk ?_
          go_simp
          exact HK.out _ (Below.refl _ _)
        -- 22: Op.move (Operand.tmp 40)
        apply RC.ls_val (fun _ _ _ _ _ _ => trivial)
        · intro x w' hb hpre K hK
          have za0 := (hb.cell (p := ⟨w.heap.size, 0, none⟩) kA).trans a0
          have za1 := (hb.cell (p := ⟨w.heap.size, 1, none⟩) kA).trans a1
          have za2 := (hb.cell (p := ⟨w.heap.size, 2, none⟩) kA).trans a2
          have za3 := (hb.cell (p := ⟨w.heap.size, 3, none⟩) kA).trans a3
          have za4 := (hb.cell (p := ⟨w.heap.size, 4, none⟩) kA).trans a4
          have zb0 := (hb.cell (p := ⟨w.heap.size + 1, 0, none⟩) kB).trans b0
          have zb1 := (hb.cell (p := ⟨w.heap.size + 1, 1, none⟩) kB).trans b1
          have zb2 := (hb.cell (p := ⟨w.heap.size + 1, 2, none⟩) kB).trans b2
          have zb3 := (hb.cell (p := ⟨w.heap.size + 1, 3, none⟩) kB).trans b3
          have zb4 := (hb.cell (p := ⟨w.heap.size + 1, 4, none⟩) kB).trans b4
          have ze0 := (hb.cell (p := ⟨w.heap.size + 1 + 1, 0, none⟩) kC).trans e0
          have ze1 := (hb.cell (p := ⟨w.heap.size + 1 + 1, 1, none⟩) kC).trans e1
          have ze2 := (hb.cell (p := ⟨w.heap.size + 1 + 1, 2, none⟩) kC).trans e2
          have ze3 := (hb.cell (p := ⟨w.heap.size + 1 + 1, 3, none⟩) kC).trans e3
          have ze4 := (hb.cell (p := ⟨w.heap.size + 1 + 1, 4, none⟩) kC).trans e4
          simp [preds, Region.binds, RC.phi, RC.MP.val] at hpre
          simp only [frL, Act.put, List.setIfInBounds_toArray, List.set_cons_zero, List.set_cons_succ, Nat.zero_add, Nat.reduceAdd, hpre] at hK ⊢
          have HK := Lib.hid hK
          clear hK
          refine Held.mk ?_
          go_simp
          exact HK.out _ (Below.refl _ _)
        -- 23: Op.load 26 (Operand.tmp 3)
        apply RC.ls_val (fun _ _ _ _ _ _ => trivial)
        · intro x w' hb hpre K hK
          have za0 := (hb.cell (p := ⟨w.heap.size, 0, none⟩) kA).trans a0
          have za1 := (hb.cell (p := ⟨w.heap.size, 1, none⟩) kA).trans a1
          have za2 := (hb.cell (p := ⟨w.heap.size, 2, none⟩) kA).trans a2
          have za3 := (hb.cell (p := ⟨w.heap.size, 3, none⟩) kA).trans a3
          have za4 := (hb.cell (p := ⟨w.heap.size, 4, none⟩) kA).trans a4
          have zb0 := (hb.cell (p := ⟨w.heap.size + 1, 0, none⟩) kB).trans b0
          have zb1 := (hb.cell (p := ⟨w.heap.size + 1, 1, none⟩) kB).trans b1
          have zb2 := (hb.cell (p := ⟨w.heap.size + 1, 2, none⟩) kB).trans b2
          have zb3 := (hb.cell (p := ⟨w.heap.size + 1, 3, none⟩) kB).trans b3
          have zb4 := (hb.cell (p := ⟨w.heap.size + 1, 4, none⟩) kB).trans b4
          have ze0 := (hb.cell (p := ⟨w.heap.size + 1 + 1, 0, none⟩) kC).trans e0
          have ze1 := (hb.cell (p := ⟨w.heap.size + 1 + 1, 1, none⟩) kC).trans e1
          have ze2 := (hb.cell (p := ⟨w.heap.size + 1 + 1, 2, none⟩) kC).trans e2
          have ze3 := (hb.cell (p := ⟨w.heap.size + 1 + 1, 3, none⟩) kC).trans e3
          have ze4 := (hb.cell (p := ⟨w.heap.size + 1 + 1, 4, none⟩) kC).trans e4
          simp [preds, Region.binds, RC.phi, RC.MP.val] at hpre
          simp only [frL, Act.put, List.setIfInBounds_toArray, List.set_cons_zero, List.set_cons_succ, Nat.zero_add, Nat.reduceAdd, hpre] at hK ⊢
          have HK := Lib.hid hK
          clear hK
          refine Held.mk ?_
          go_simp
          exact HK.out _ (Below.refl _ _)
        -- 24: Op.load 26 (Operand.tmp 5)
        apply RC.ls_val (fun _ _ _ _ _ _ => trivial)
        · intro x w' hb hpre K hK
          have za0 := (hb.cell (p := ⟨w.heap.size, 0, none⟩) kA).trans a0
          have za1 := (hb.cell (p := ⟨w.heap.size, 1, none⟩) kA).trans a1
          have za2 := (hb.cell (p := ⟨w.heap.size, 2, none⟩) kA).trans a2
          have za3 := (hb.cell (p := ⟨w.heap.size, 3, none⟩) kA).trans a3
          have za4 := (hb.cell (p := ⟨w.heap.size, 4, none⟩) kA).trans a4
          have zb0 := (hb.cell (p := ⟨w.heap.size + 1, 0, none⟩) kB).trans b0
          have zb1 := (hb.cell (p := ⟨w.heap.size + 1, 1, none⟩) kB).trans b1
          have zb2 := (hb.cell (p := ⟨w.heap.size + 1, 2, none⟩) kB).trans b2
          have zb3 := (hb.cell (p := ⟨w.heap.size + 1, 3, none⟩) kB).trans b3
          have zb4 := (hb.cell (p := ⟨w.heap.size + 1, 4, none⟩) kB).trans b4
          have ze0 := (hb.cell (p := ⟨w.heap.size + 1 + 1, 0, none⟩) kC).trans e0
          have ze1 := (hb.cell (p := ⟨w.heap.size + 1 + 1, 1, none⟩) kC).trans e1
          have ze2 := (hb.cell (p := ⟨w.heap.size + 1 + 1, 2, none⟩) kC).trans e2
          have ze3 := (hb.cell (p := ⟨w.heap.size + 1 + 1, 3, none⟩) kC).trans e3
          have ze4 := (hb.cell (p := ⟨w.heap.size + 1 + 1, 4, none⟩) kC).trans e4
          simp [preds, Region.binds, RC.phi, RC.MP.val] at hpre
          simp only [frL, Act.put, List.setIfInBounds_toArray, List.set_cons_zero, List.set_cons_succ, Nat.zero_add, Nat.reduceAdd, hpre] at hK ⊢
          have HK := Lib.hid hK
          clear hK
          refine Held.mk ?_
          go_simp
          exact HK.out _ (Below.refl _ _)
        -- 25: Op.call { callee := Callee.value (Operand.func 8), args := #[Operand.tmp 42, Ope
        apply RC.ls_val (fun _ _ _ _ _ _ => trivial)
        · intro x w' hb hpre K hK
          have za0 := (hb.cell (p := ⟨w.heap.size, 0, none⟩) kA).trans a0
          have za1 := (hb.cell (p := ⟨w.heap.size, 1, none⟩) kA).trans a1
          have za2 := (hb.cell (p := ⟨w.heap.size, 2, none⟩) kA).trans a2
          have za3 := (hb.cell (p := ⟨w.heap.size, 3, none⟩) kA).trans a3
          have za4 := (hb.cell (p := ⟨w.heap.size, 4, none⟩) kA).trans a4
          have zb0 := (hb.cell (p := ⟨w.heap.size + 1, 0, none⟩) kB).trans b0
          have zb1 := (hb.cell (p := ⟨w.heap.size + 1, 1, none⟩) kB).trans b1
          have zb2 := (hb.cell (p := ⟨w.heap.size + 1, 2, none⟩) kB).trans b2
          have zb3 := (hb.cell (p := ⟨w.heap.size + 1, 3, none⟩) kB).trans b3
          have zb4 := (hb.cell (p := ⟨w.heap.size + 1, 4, none⟩) kB).trans b4
          have ze0 := (hb.cell (p := ⟨w.heap.size + 1 + 1, 0, none⟩) kC).trans e0
          have ze1 := (hb.cell (p := ⟨w.heap.size + 1 + 1, 1, none⟩) kC).trans e1
          have ze2 := (hb.cell (p := ⟨w.heap.size + 1 + 1, 2, none⟩) kC).trans e2
          have ze3 := (hb.cell (p := ⟨w.heap.size + 1 + 1, 3, none⟩) kC).trans e3
          have ze4 := (hb.cell (p := ⟨w.heap.size + 1 + 1, 4, none⟩) kC).trans e4
          simp [preds, Region.binds, RC.phi, RC.MP.val] at hpre
          simp only [frL, Act.put, List.setIfInBounds_toArray, List.set_cons_zero, List.set_cons_succ, Nat.zero_add, Nat.reduceAdd, hpre] at hK ⊢
          have HK := Lib.hid hK
          clear hK
          refine Held.mk ?_
          go_simp
          exact HK.out _ (Below.refl _ _)
        -- 26: Op.unOp UnOp.not 4 (Operand.tmp 44)
        apply RC.ls_val (fun _ _ _ _ _ _ => trivial)
        · intro x w' hb hpre K hK
          have za0 := (hb.cell (p := ⟨w.heap.size, 0, none⟩) kA).trans a0
          have za1 := (hb.cell (p := ⟨w.heap.size, 1, none⟩) kA).trans a1
          have za2 := (hb.cell (p := ⟨w.heap.size, 2, none⟩) kA).trans a2
          have za3 := (hb.cell (p := ⟨w.heap.size, 3, none⟩) kA).trans a3
          have za4 := (hb.cell (p := ⟨w.heap.size, 4, none⟩) kA).trans a4
          have zb0 := (hb.cell (p := ⟨w.heap.size + 1, 0, none⟩) kB).trans b0
          have zb1 := (hb.cell (p := ⟨w.heap.size + 1, 1, none⟩) kB).trans b1
          have zb2 := (hb.cell (p := ⟨w.heap.size + 1, 2, none⟩) kB).trans b2
          have zb3 := (hb.cell (p := ⟨w.heap.size + 1, 3, none⟩) kB).trans b3
          have zb4 := (hb.cell (p := ⟨w.heap.size + 1, 4, none⟩) kB).trans b4
          have ze0 := (hb.cell (p := ⟨w.heap.size + 1 + 1, 0, none⟩) kC).trans e0
          have ze1 := (hb.cell (p := ⟨w.heap.size + 1 + 1, 1, none⟩) kC).trans e1
          have ze2 := (hb.cell (p := ⟨w.heap.size + 1 + 1, 2, none⟩) kC).trans e2
          have ze3 := (hb.cell (p := ⟨w.heap.size + 1 + 1, 3, none⟩) kC).trans e3
          have ze4 := (hb.cell (p := ⟨w.heap.size + 1 + 1, 4, none⟩) kC).trans e4
          simp [preds, Region.binds, RC.phi, RC.MP.val] at hpre
          simp only [frL, Act.put, List.setIfInBounds_toArray, List.set_cons_zero, List.set_cons_succ, Nat.zero_add, Nat.reduceAdd, hpre] at hK ⊢
          have HK := Lib.hid hK
          clear hK
          refine Held.mk ?_
          go_simp
          exact HK.out _ (Below.refl _ _)
        -- 27: Op.pick (Operand.tmp 41) (Operand.tmp 45) (Operand.const (Value.bool false))
        apply RC.ls_val (fun _ _ _ _ _ _ => trivial)
        · intro x w' hb hpre K hK
          have za0 := (hb.cell (p := ⟨w.heap.size, 0, none⟩) kA).trans a0
          have za1 := (hb.cell (p := ⟨w.heap.size, 1, none⟩) kA).trans a1
          have za2 := (hb.cell (p := ⟨w.heap.size, 2, none⟩) kA).trans a2
          have za3 := (hb.cell (p := ⟨w.heap.size, 3, none⟩) kA).trans a3
          have za4 := (hb.cell (p := ⟨w.heap.size, 4, none⟩) kA).trans a4
          have zb0 := (hb.cell (p := ⟨w.heap.size + 1, 0, none⟩) kB).trans b0
          have zb1 := (hb.cell (p := ⟨w.heap.size + 1, 1, none⟩) kB).trans b1
          have zb2 := (hb.cell (p := ⟨w.heap.size + 1, 2, none⟩) kB).trans b2
          have zb3 := (hb.cell (p := ⟨w.heap.size + 1, 3, none⟩) kB).trans b3
          have zb4 := (hb.cell (p := ⟨w.heap.size + 1, 4, none⟩) kB).trans b4
          have ze0 := (hb.cell (p := ⟨w.heap.size + 1 + 1, 0, none⟩) kC).trans e0
          have ze1 := (hb.cell (p := ⟨w.heap.size + 1 + 1, 1, none⟩) kC).trans e1
          have ze2 := (hb.cell (p := ⟨w.heap.size + 1 + 1, 2, none⟩) kC).trans e2
          have ze3 := (hb.cell (p := ⟨w.heap.size + 1 + 1, 3, none⟩) kC).trans e3
          have ze4 := (hb.cell (p := ⟨w.heap.size + 1 + 1, 4, none⟩) kC).trans e4
          simp [preds, Region.binds, RC.phi, RC.MP.val] at hpre
          simp only [frL, Act.put, List.setIfInBounds_toArray, List.set_cons_zero, List.set_cons_succ, Nat.zero_add, Nat.reduceAdd, hpre] at hK ⊢
          have HK := Lib.hid hK
          clear hK
          refine Held.mk ?_
          go_simp
          exact HK.out _ (Below.refl _ _)
        -- 28: Op.pick (Operand.tmp 32) (Operand.const (Value.bool true)) (Operand.tmp 46)
        apply RC.ls_val (fun _ _ _ _ _ _ => trivial)
        · intro x w' hb hpre K hK
          have za0 := (hb.cell (p := ⟨w.heap.size, 0, none⟩) kA).trans a0
          have za1 := (hb.cell (p := ⟨w.heap.size, 1, none⟩) kA).trans a1
          have za2 := (hb.cell (p := ⟨w.heap.size, 2, none⟩) kA).trans a2
          have za3 := (hb.cell (p := ⟨w.heap.size, 3, none⟩) kA).trans a3
          have za4 := (hb.cell (p := ⟨w.heap.size, 4, none⟩) kA).trans a4
          have zb0 := (hb.cell (p := ⟨w.heap.size + 1, 0, none⟩) kB).trans b0
          have zb1 := (hb.cell (p := ⟨w.heap.size + 1, 1, none⟩) kB).trans b1
          have zb2 := (hb.cell (p := ⟨w.heap.size + 1, 2, none⟩) kB).trans b2
          have zb3 := (hb.cell (p := ⟨w.heap.size + 1, 3, none⟩) kB).trans b3
          have zb4 := (hb.cell (p := ⟨w.heap.size + 1, 4, none⟩) kB).trans b4
          have ze0 := (hb.cell (p := ⟨w.heap.size + 1 + 1, 0, none⟩) kC).trans e0
          have ze1 := (hb.cell (p := ⟨w.heap.size + 1 + 1, 1, none⟩) kC).trans e1
          have ze2 := (hb.cell (p := ⟨w.heap.size + 1 + 1, 2, none⟩) kC).trans e2
          have ze3 := (hb.cell (p := ⟨w.heap.size + 1 + 1, 3, none⟩) kC).trans e3
          have ze4 := (hb.cell (p := ⟨w.heap.size + 1 + 1, 4, none⟩) kC).trans e4
          simp [preds, Region.binds, RC.phi, RC.MP.val] at hpre
          simp only [frL, Act.put, List.setIfInBounds_toArray, List.set_cons_zero, List.set_cons_succ, Nat.zero_add, Nat.reduceAdd, hpre] at hK ⊢
          have HK := Lib.hid hK
          clear hK
          refine Held.mk ?_
          go_simp
          exact HK.out _ (Below.refl _ _)
        intro x w' hb hp hJ
        simp only [List.cons_append, List.nil_append, RC.phis, RC.MP.val, frL, Act.put, List.setIfInBounds_toArray, List.set_cons_zero, List.set_cons_succ, Nat.zero_add, Nat.reduceAdd] at hp ⊢
        obtain ⟨h0, h1, h2, h3, h4, h5, h6, h7, h8, h9, h10, h11, h12, h13, h14, h15, h16, h17, h18, h19, h20, h21, h22, h23, h24, h25, h26, h27, h28, -⟩ := hp
        simp only [h0, h1, h2, h3, h4, h5, h6, h7, h8, h9, h10, h11, h12, h13, h14, h15, h16, h17, h18, h19, h20, h21, h22, h23, h24, h25, h26, h27, h28]
        clear h0 h1 h2 h3 h4 h5 h6 h7 h8 h9 h10 h11 h12 h13 h14 h15 h16 h17 h18 h19 h20 h21 h22 h23 h24 h25 h26 h27 h28
        show wpList Tryd.prog _ _ [] _ _
        have hw3 : Below w.heap.size w w' := hw2.trans (hb.mono hw2.size)
        replace BA := BA.below hb BA.lt
        replace BB := BB.below hb BB.lt
        replace BC := BC.below hb BC.lt
        clear hb hw2 kA kB kC a0 a1 a2 a3 a4 b0 b1 b2 b3 b4 e0 e1 e2 e3 e4 AAc ABc BAc BCc ACc
        have kA := BA.lt
        have kB := BB.lt
        have kC := BC.lt
        obtain ⟨⟨a0, a1, a2, a3, a4⟩, -⟩ := BA.five5
        obtain ⟨⟨b0, b1, b2, b3, b4⟩, -⟩ := BB.five5
        obtain ⟨⟨e0, e1, e2, e3, e4⟩, -⟩ := BC.five5
        go_wp2_with fail
        have ks3 := BC.lt
        have CO := copy_cells (h + 1) k n v ps ks np nk HNP.out HNK.out aa ca ka ck w' (by have := HA.out.on hw3; rw [HTT.out] at this; exact this) (by have := SA.out; rw [HTT.out] at this; exact this)
        with_reducible refine CO.mono ?_
        rintro e w4 ⟨⟨ar, cr, as', cs', vs, rfl, hn', hO, hR, hP⟩, hb⟩
        have hw4 : Below w.heap.size w w4 := hw3.trans (hb.mono hw3.size)
        have hw34 := hb
        replace BA := BA.below hb BA.lt
        replace BB := BB.below hb BB.lt
        replace BC := BC.below hb BC.lt
        clear hb kA kB kC a0 a1 a2 a3 a4 b0 b1 b2 b3 b4 e0 e1 e2 e3 e4 CO
        have kA := BA.lt
        have kB := BB.lt
        have kC := BC.lt
        obtain ⟨⟨a0, a1, a2, a3, a4⟩, -⟩ := BA.five5
        obtain ⟨⟨b0, b1, b2, b3, b4⟩, -⟩ := BB.five5
        obtain ⟨⟨e0, e1, e2, e3, e4⟩, -⟩ := BC.five5
        have HO := Lib.hid hO
        have HR := Lib.hid hR
        have HP := Lib.hid hP
        clear hO hR hP
        have hba : Below w4.heap.size w4 (w4.alloc (.cells #[.int .i64 k, .string n, .string v, .slice ar np cr, .slice as' nk cs'] 26)) := (Below.refl _ _).alloc (Nat.le_refl _) _
        have BT : Blk (w4.alloc (.cells #[.int .i64 k, .string n, .string v, .slice ar np cr, .slice as' nk cs'] 26)) w4.heap.size #[.int .i64 k, .string n, .string v, .slice ar np cr, .slice as' nk cs'] 26 := Blk.new _ _ _
        have HO2 := Lib.hid (HO.out.below hba HO.out.lt)
        have hz2 : (w4.alloc (.cells #[.int .i64 k, .string n, .string v, .slice ar np cr, .slice as' nk cs'] 26)).heap.size = w4.heap.size + 1 := by simp
        have hvl : vs.length = nk := HR.out.1.trans HNK.out
        have nk4 : nk + 1 ≤ 400 := by
          have := HF.out
          rw [HTT.out] at this
          have := few_more this
          rw [HNK.out] at this
          exact this
        have hsz34 := hw34.size
        have BN : Blk ((w4.alloc (.cells #[.int .i64 k, .string n, .string v, .slice ar np cr, .slice as' nk cs'] 26)).alloc (.cells #[.int .i64 5, .string ⟨#[]⟩, .string ⟨#[109, 111, 114, 101]⟩, .slice none 0 0, .slice none 0 0] 26)) (w4.heap.size + 1) cmtC.arr 26 := by
          have := Blk.new (w4.alloc (.cells #[.int .i64 k, .string n, .string v, .slice ar np cr, .slice as' nk cs'] 26)) cmtC.arr 26
          rw [hz2] at this
          exact this
        have HO3 := Lib.hid (World.ownsRow.alloc HO2.out (.cells #[.int .i64 5, .string ⟨#[]⟩, .string ⟨#[109, 111, 114, 101]⟩, .slice none 0 0, .slice none 0 0] 26))
        have hz3 : w'.heap.size ≤ ((w4.alloc (.cells #[.int .i64 k, .string n, .string v, .slice ar np cr, .slice as' nk cs'] 26)).alloc (.cells #[.int .i64 5, .string ⟨#[]⟩, .string ⟨#[109, 111, 114, 101]⟩, .slice none 0 0, .slice none 0 0] 26)).heap.size := by simp; omega
        go_wp2_with (at_builtin; refine wpList_app5f rfl _ _ rfl w'.heap.size _ vs rfl HO3.out (w4.heap.size + 1) _ cmtC rfl ⟨rfl, rfl, rfl, rfl, rfl⟩ BN (by omega) hz3 ?_)
        intro v' w6 hO6 hg6 hf6
        obtain ⟨g, cap, rfl⟩ := ownsRow_succ (k := nk) (by have h9 : w6.ownsRow w'.heap.size 26 5 v' (vs ++ [cmtC]).length (flat5 (vs ++ [cmtC])) := hO6; rw [List.length_append, hvl] at h9; exact h9)
        have hgn : g ≠ w4.heap.size := by
          rcases hf6 g rfl with h9 | h9
          · have := HO.out.lt g h9; omega
          · omega
        have hbA2 : Below w4.heap.size w4 ((w4.alloc (.cells #[.int .i64 k, .string n, .string v, .slice ar np cr, .slice as' nk cs'] 26)).alloc (.cells #[.int .i64 5, .string ⟨#[]⟩, .string ⟨#[109, 111, 114, 101]⟩, .slice none 0 0, .slice none 0 0] 26)) := hba.alloc hba.size _
        have BT6 : Blk w6 w4.heap.size #[.int .i64 k, .string n, .string v, .slice ar np cr, .slice as' nk cs'] 26 := by
          have h9 : Blk ((w4.alloc (.cells #[.int .i64 k, .string n, .string v, .slice ar np cr, .slice as' nk cs'] 26)).alloc (.cells #[.int .i64 5, .string ⟨#[]⟩, .string ⟨#[109, 111, 114, 101]⟩, .slice none 0 0, .slice none 0 0] 26)) w4.heap.size #[.int .i64 k, .string n, .string v, .slice ar np cr, .slice as' nk cs'] 26 := BT.alloc _
          have h8 := h9.lt
          unfold Blk at h9 ⊢
          rw [hg6.block _ h8 (fun e => by have := HO.out.lt _ e.symm; omega)]
          exact h9
        have hb6 : Below w'.heap.size ((w4.alloc (.cells #[.int .i64 k, .string n, .string v, .slice ar np cr, .slice as' nk cs'] 26)).alloc (.cells #[.int .i64 5, .string ⟨#[]⟩, .string ⟨#[109, 111, 114, 101]⟩, .slice none 0 0, .slice none 0 0] 26)) w6 := Own5.grown HO3.out hg6 (Nat.le_refl _) hz3
        have hw6 : Below w.heap.size w w6 := (hw4.trans (hbA2.mono hw4.size)).trans (hb6.mono hw3.size)
        have BA6 := (BA.below hbA2 kA).below hb6 (by omega)
        have TM := Lib.hid (more_lies h k n v ps ks np nk HNP.out HNK.out w'.heap.size w4 ((w4.alloc (.cells #[.int .i64 k, .string n, .string v, .slice ar np cr, .slice as' nk cs'] 26)).alloc (.cells #[.int .i64 5, .string ⟨#[]⟩, .string ⟨#[109, 111, 114, 101]⟩, .slice none 0 0, .slice none 0 0] 26)) w6 ar cr as' cs' vs g cap (.slice (some ⟨g, 0, none⟩) (nk + 1) cap) hn' HR.out HP.out hbA2 hO6 hg6 hgn (by have h9 := SA.out; rw [HTT.out] at h9; have h8 : List.length ps ≤ 400 := h9.1; rw [HNP.out] at h8; omega) (by omega))
        have hw7 : Below w.heap.size w (w6.setCell ⟨w4.heap.size, 4, none⟩ (.slice (some ⟨g, 0, none⟩) (nk + 1) cap)) := hw6.setCell (p := ⟨w4.heap.size, 4, none⟩) hw4.size _
        have SM : Hid (SmallT (h + 2) (⟨k, n, v, ps, ks ++ [cmt h]⟩ : Nd (Tr (h + 1)))) := by
          have h9 := SA.out
          rw [HTT.out] at h9
          refine ⟨h9.1, (show (ks ++ [cmt h]).length ≤ 400 by rw [List.length_append, HNK.out]; exact nk4), fun y hy => ?_⟩
          have hy : y ∈ ks ++ [cmt h] := hy
          rcases List.mem_append.1 hy with hy | hy
          · exact h9.2.2 y hy
          · obtain rfl : y = cmt h := by simpa using hy
            exact cmt_small h
        have hne6 : w4.heap.size ≠ w.heap.size := by omega
        have BA7 : Blk (w6.setCell ⟨w4.heap.size, 4, none⟩ (.slice (some ⟨g, 0, none⟩) (nk + 1) cap)) w.heap.size #[.int .i64 k, .string n, .string v, .slice aa np ca, .slice ka nk ck] 26 := BA6.other (a := ⟨w4.heap.size, 4, none⟩) (fun e => hne6 e.symm) _
        have BT7 : Blk (w6.setCell ⟨w4.heap.size, 4, none⟩ (.slice (some ⟨g, 0, none⟩) (nk + 1) cap)) w4.heap.size #[.int .i64 k, .string n, .string v, .slice ar np cr, .slice (some ⟨g, 0, none⟩) (nk + 1) cap] 26 := BT6.set 4 _
        have CM := Lib.hid (fun h1 h2 => trees_any (h + 2) T (⟨k, n, v, ps, ks ++ [cmt h]⟩ : Nd (Tr (h + 1))) #[.int .i64 k, .string n, .string v, .slice aa np ca, .slice ka nk ck] #[.int .i64 k, .string n, .string v, .slice ar np cr, .slice (some ⟨g, 0, none⟩) (nk + 1) cap] (w6.setCell ⟨w4.heap.size, 4, none⟩ (.slice (some ⟨g, 0, none⟩) (nk + 1) cap)) h1 h2 SA.out SM.out)
        have k4 := BT6.lt
        obtain ⟨⟨s0, s1, s2, s3, s4⟩, y0, y1, y2, y3, y4⟩ := BT6.five5
        clear kA kB kC a0 a1 a2 a3 a4 b0 b1 b2 b3 b4 e0 e1 e2 e3 e4 BT hba hbA2 hO6 hg6 hf6 HO HR HP HO2 HO3 BN hb6 BA BB BC hz3 hz2
        have kA7 := BA7.lt
        have kT7 := BT7.lt
        obtain ⟨⟨a0, a1, a2, a3, a4⟩, -⟩ := BA7.five5
        obtain ⟨⟨t0, t1, t2, t3, t4⟩, -⟩ := BT7.five5
        have hwf := hw7.size
        cases e2 : (k == 2)
        · have f2 : (k != 2) = true := by unfold bne; rw [e2]; rfl
          cases e1 : (k == 1)
          · have f1 : (k != 1) = true := by unfold bne; rw [e1]; rfl
            clear CM TM SM
            go_wp2_with fail
            go_returns
            exact ⟨rfl, hw7⟩
          · have f1 : (k != 1) = false := by unfold bne; rw [e1]; rfl
            have hdc : deepF (h + 2) T (⟨k, n, v, ps, ks ++ [cmt h]⟩ : Nd (Tr (h + 1))) = true := by rw [HTT.out]; exact deep_comment (h + 1) ⟨k, n, v, ps, ks⟩ (cmt h) rfl (by show (k == 2 || k == 1) = true; rw [e1]; simp)
            rw [hdc] at CM
            go_wp2_with fail
            with_reducible refine (CM.out (HA.out.on hw7) TM.out).mono ?_
            rintro e w8 ⟨rfl, hb⟩
            go_wp2_with fail
            go_returns
            exact ⟨rfl, hw7.trans (hb.mono hw7.size)⟩
        · have f2 : (k != 2) = false := by unfold bne; rw [e2]; rfl
          have hdc : deepF (h + 2) T (⟨k, n, v, ps, ks ++ [cmt h]⟩ : Nd (Tr (h + 1))) = true := by rw [HTT.out]; exact deep_comment (h + 1) ⟨k, n, v, ps, ks⟩ (cmt h) rfl (by show (k == 2 || k == 1) = true; rw [e2]; rfl)
          rw [hdc] at CM
          go_wp2_with fail
          with_reducible refine (CM.out (HA.out.on hw7) TM.out).mono ?_
          rintro e w8 ⟨rfl, hb⟩
          go_wp2_with fail
          go_returns
          exact ⟨rfl, hw7.trans (hb.mono hw7.size)⟩
      · have hac := htr rfl rfl
        rw [hac] at ACc
        go_wp2_with fail
        refine RC.region_steps (R := RB) 29 [some 19, some 20, some 21, some 22, some 23, some 24, some 25, some 26, some 27, some 28, some 29, some 30, some 31, some 32, some 33, some 34, some 35, some 36, some 37, some 38, some 39, some 40, some 41, some 42, some 43, some 44, some 45, some 46, some 47] (fun _ _ => True) (fun a b c h1 h2 => h1.trans (h2.mono h1.size)) (fun w => below_drewN (Below.refl _ w) 1) (fun _ => trivial) (by kernel_rfl) (by kernel_rfl) ?_
        -- 0: Op.load 26 (Operand.tmp 3)
        apply RC.ls_val (fun _ _ _ _ _ _ => trivial)
        · intro x w' hb hpre K hK
          have za0 := (hb.cell (p := ⟨w.heap.size, 0, none⟩) kA).trans a0
          have za1 := (hb.cell (p := ⟨w.heap.size, 1, none⟩) kA).trans a1
          have za2 := (hb.cell (p := ⟨w.heap.size, 2, none⟩) kA).trans a2
          have za3 := (hb.cell (p := ⟨w.heap.size, 3, none⟩) kA).trans a3
          have za4 := (hb.cell (p := ⟨w.heap.size, 4, none⟩) kA).trans a4
          have zb0 := (hb.cell (p := ⟨w.heap.size + 1, 0, none⟩) kB).trans b0
          have zb1 := (hb.cell (p := ⟨w.heap.size + 1, 1, none⟩) kB).trans b1
          have zb2 := (hb.cell (p := ⟨w.heap.size + 1, 2, none⟩) kB).trans b2
          have zb3 := (hb.cell (p := ⟨w.heap.size + 1, 3, none⟩) kB).trans b3
          have zb4 := (hb.cell (p := ⟨w.heap.size + 1, 4, none⟩) kB).trans b4
          have ze0 := (hb.cell (p := ⟨w.heap.size + 1 + 1, 0, none⟩) kC).trans e0
          have ze1 := (hb.cell (p := ⟨w.heap.size + 1 + 1, 1, none⟩) kC).trans e1
          have ze2 := (hb.cell (p := ⟨w.heap.size + 1 + 1, 2, none⟩) kC).trans e2
          have ze3 := (hb.cell (p := ⟨w.heap.size + 1 + 1, 3, none⟩) kC).trans e3
          have ze4 := (hb.cell (p := ⟨w.heap.size + 1 + 1, 4, none⟩) kC).trans e4
          clear hpre
          simp only [frL, Act.put, List.setIfInBounds_toArray, List.set_cons_zero, List.set_cons_succ, Nat.zero_add, Nat.reduceAdd] at hK ⊢
          have HK := Lib.hid hK
          clear hK
          refine Held.mk ?_
          go_simp
          exact HK.out _ (Below.refl _ _)
        -- 1: Op.load 26 (Operand.tmp 3)
        apply RC.ls_val (fun _ _ _ _ _ _ => trivial)
        · intro x w' hb hpre K hK
          have za0 := (hb.cell (p := ⟨w.heap.size, 0, none⟩) kA).trans a0
          have za1 := (hb.cell (p := ⟨w.heap.size, 1, none⟩) kA).trans a1
          have za2 := (hb.cell (p := ⟨w.heap.size, 2, none⟩) kA).trans a2
          have za3 := (hb.cell (p := ⟨w.heap.size, 3, none⟩) kA).trans a3
          have za4 := (hb.cell (p := ⟨w.heap.size, 4, none⟩) kA).trans a4
          have zb0 := (hb.cell (p := ⟨w.heap.size + 1, 0, none⟩) kB).trans b0
          have zb1 := (hb.cell (p := ⟨w.heap.size + 1, 1, none⟩) kB).trans b1
          have zb2 := (hb.cell (p := ⟨w.heap.size + 1, 2, none⟩) kB).trans b2
          have zb3 := (hb.cell (p := ⟨w.heap.size + 1, 3, none⟩) kB).trans b3
          have zb4 := (hb.cell (p := ⟨w.heap.size + 1, 4, none⟩) kB).trans b4
          have ze0 := (hb.cell (p := ⟨w.heap.size + 1 + 1, 0, none⟩) kC).trans e0
          have ze1 := (hb.cell (p := ⟨w.heap.size + 1 + 1, 1, none⟩) kC).trans e1
          have ze2 := (hb.cell (p := ⟨w.heap.size + 1 + 1, 2, none⟩) kC).trans e2
          have ze3 := (hb.cell (p := ⟨w.heap.size + 1 + 1, 3, none⟩) kC).trans e3
          have ze4 := (hb.cell (p := ⟨w.heap.size + 1 + 1, 4, none⟩) kC).trans e4
          clear hpre
          simp only [frL, Act.put, List.setIfInBounds_toArray, List.set_cons_zero, List.set_cons_succ, Nat.zero_add, Nat.reduceAdd] at hK ⊢
          have HK := Lib.hid hK
          clear hK
          refine Held.mk ?_
          go_simp
          exact HK.out _ (Below.refl _ _)
        -- 2: Op.call { callee := Callee.value (Operand.func 8), args := #[Operand.tmp 19, Ope
        apply RC.ls_val (fun _ _ _ _ _ _ => trivial)
        · intro x w' hb hpre K hK
          have za0 := (hb.cell (p := ⟨w.heap.size, 0, none⟩) kA).trans a0
          have za1 := (hb.cell (p := ⟨w.heap.size, 1, none⟩) kA).trans a1
          have za2 := (hb.cell (p := ⟨w.heap.size, 2, none⟩) kA).trans a2
          have za3 := (hb.cell (p := ⟨w.heap.size, 3, none⟩) kA).trans a3
          have za4 := (hb.cell (p := ⟨w.heap.size, 4, none⟩) kA).trans a4
          have zb0 := (hb.cell (p := ⟨w.heap.size + 1, 0, none⟩) kB).trans b0
          have zb1 := (hb.cell (p := ⟨w.heap.size + 1, 1, none⟩) kB).trans b1
          have zb2 := (hb.cell (p := ⟨w.heap.size + 1, 2, none⟩) kB).trans b2
          have zb3 := (hb.cell (p := ⟨w.heap.size + 1, 3, none⟩) kB).trans b3
          have zb4 := (hb.cell (p := ⟨w.heap.size + 1, 4, none⟩) kB).trans b4
          have ze0 := (hb.cell (p := ⟨w.heap.size + 1 + 1, 0, none⟩) kC).trans e0
          have ze1 := (hb.cell (p := ⟨w.heap.size + 1 + 1, 1, none⟩) kC).trans e1
          have ze2 := (hb.cell (p := ⟨w.heap.size + 1 + 1, 2, none⟩) kC).trans e2
          have ze3 := (hb.cell (p := ⟨w.heap.size + 1 + 1, 3, none⟩) kC).trans e3
          have ze4 := (hb.cell (p := ⟨w.heap.size + 1 + 1, 4, none⟩) kC).trans e4
          simp [preds, Region.binds, RC.phi, RC.MP.val] at hpre
          simp only [frL, Act.put, List.setIfInBounds_toArray, List.set_cons_zero, List.set_cons_succ, Nat.zero_add, Nat.reduceAdd, hpre] at hK ⊢
          have HK := Lib.hid hK
          clear hK
          refine Held.mk ?_
          go_simp
          (with_reducible refine (AAc.out _ hb).mono ?_)
          rintro e w1 ⟨rfl, hb1⟩
          dsimp only
          exact HK.out _ hb1
        -- 3: Op.unOp UnOp.not 4 (Operand.tmp 21)
        apply RC.ls_val (fun _ _ _ _ _ _ => trivial)
        · intro x w' hb hpre K hK
          have za0 := (hb.cell (p := ⟨w.heap.size, 0, none⟩) kA).trans a0
          have za1 := (hb.cell (p := ⟨w.heap.size, 1, none⟩) kA).trans a1
          have za2 := (hb.cell (p := ⟨w.heap.size, 2, none⟩) kA).trans a2
          have za3 := (hb.cell (p := ⟨w.heap.size, 3, none⟩) kA).trans a3
          have za4 := (hb.cell (p := ⟨w.heap.size, 4, none⟩) kA).trans a4
          have zb0 := (hb.cell (p := ⟨w.heap.size + 1, 0, none⟩) kB).trans b0
          have zb1 := (hb.cell (p := ⟨w.heap.size + 1, 1, none⟩) kB).trans b1
          have zb2 := (hb.cell (p := ⟨w.heap.size + 1, 2, none⟩) kB).trans b2
          have zb3 := (hb.cell (p := ⟨w.heap.size + 1, 3, none⟩) kB).trans b3
          have zb4 := (hb.cell (p := ⟨w.heap.size + 1, 4, none⟩) kB).trans b4
          have ze0 := (hb.cell (p := ⟨w.heap.size + 1 + 1, 0, none⟩) kC).trans e0
          have ze1 := (hb.cell (p := ⟨w.heap.size + 1 + 1, 1, none⟩) kC).trans e1
          have ze2 := (hb.cell (p := ⟨w.heap.size + 1 + 1, 2, none⟩) kC).trans e2
          have ze3 := (hb.cell (p := ⟨w.heap.size + 1 + 1, 3, none⟩) kC).trans e3
          have ze4 := (hb.cell (p := ⟨w.heap.size + 1 + 1, 4, none⟩) kC).trans e4
          simp [preds, Region.binds, RC.phi, RC.MP.val] at hpre
          simp only [frL, Act.put, List.setIfInBounds_toArray, List.set_cons_zero, List.set_cons_succ, Nat.zero_add, Nat.reduceAdd, hpre] at hK ⊢
          have HK := Lib.hid hK
          clear hK
          refine Held.mk ?_
          go_simp
          exact HK.out _ (Below.refl _ _)
        -- 4: Op.move (Operand.tmp 22)
        apply RC.ls_val (fun _ _ _ _ _ _ => trivial)
        · intro x w' hb hpre K hK
          have za0 := (hb.cell (p := ⟨w.heap.size, 0, none⟩) kA).trans a0
          have za1 := (hb.cell (p := ⟨w.heap.size, 1, none⟩) kA).trans a1
          have za2 := (hb.cell (p := ⟨w.heap.size, 2, none⟩) kA).trans a2
          have za3 := (hb.cell (p := ⟨w.heap.size, 3, none⟩) kA).trans a3
          have za4 := (hb.cell (p := ⟨w.heap.size, 4, none⟩) kA).trans a4
          have zb0 := (hb.cell (p := ⟨w.heap.size + 1, 0, none⟩) kB).trans b0
          have zb1 := (hb.cell (p := ⟨w.heap.size + 1, 1, none⟩) kB).trans b1
          have zb2 := (hb.cell (p := ⟨w.heap.size + 1, 2, none⟩) kB).trans b2
          have zb3 := (hb.cell (p := ⟨w.heap.size + 1, 3, none⟩) kB).trans b3
          have zb4 := (hb.cell (p := ⟨w.heap.size + 1, 4, none⟩) kB).trans b4
          have ze0 := (hb.cell (p := ⟨w.heap.size + 1 + 1, 0, none⟩) kC).trans e0
          have ze1 := (hb.cell (p := ⟨w.heap.size + 1 + 1, 1, none⟩) kC).trans e1
          have ze2 := (hb.cell (p := ⟨w.heap.size + 1 + 1, 2, none⟩) kC).trans e2
          have ze3 := (hb.cell (p := ⟨w.heap.size + 1 + 1, 3, none⟩) kC).trans e3
          have ze4 := (hb.cell (p := ⟨w.heap.size + 1 + 1, 4, none⟩) kC).trans e4
          simp [preds, Region.binds, RC.phi, RC.MP.val] at hpre
          simp only [frL, Act.put, List.setIfInBounds_toArray, List.set_cons_zero, List.set_cons_succ, Nat.zero_add, Nat.reduceAdd, hpre] at hK ⊢
          have HK := Lib.hid hK
          clear hK
          refine Held.mk ?_
          go_simp
          exact HK.out _ (Below.refl _ _)
        -- 5: Op.load 26 (Operand.tmp 3)
        apply RC.ls_val (fun _ _ _ _ _ _ => trivial)
        · intro x w' hb hpre K hK
          have za0 := (hb.cell (p := ⟨w.heap.size, 0, none⟩) kA).trans a0
          have za1 := (hb.cell (p := ⟨w.heap.size, 1, none⟩) kA).trans a1
          have za2 := (hb.cell (p := ⟨w.heap.size, 2, none⟩) kA).trans a2
          have za3 := (hb.cell (p := ⟨w.heap.size, 3, none⟩) kA).trans a3
          have za4 := (hb.cell (p := ⟨w.heap.size, 4, none⟩) kA).trans a4
          have zb0 := (hb.cell (p := ⟨w.heap.size + 1, 0, none⟩) kB).trans b0
          have zb1 := (hb.cell (p := ⟨w.heap.size + 1, 1, none⟩) kB).trans b1
          have zb2 := (hb.cell (p := ⟨w.heap.size + 1, 2, none⟩) kB).trans b2
          have zb3 := (hb.cell (p := ⟨w.heap.size + 1, 3, none⟩) kB).trans b3
          have zb4 := (hb.cell (p := ⟨w.heap.size + 1, 4, none⟩) kB).trans b4
          have ze0 := (hb.cell (p := ⟨w.heap.size + 1 + 1, 0, none⟩) kC).trans e0
          have ze1 := (hb.cell (p := ⟨w.heap.size + 1 + 1, 1, none⟩) kC).trans e1
          have ze2 := (hb.cell (p := ⟨w.heap.size + 1 + 1, 2, none⟩) kC).trans e2
          have ze3 := (hb.cell (p := ⟨w.heap.size + 1 + 1, 3, none⟩) kC).trans e3
          have ze4 := (hb.cell (p := ⟨w.heap.size + 1 + 1, 4, none⟩) kC).trans e4
          simp [preds, Region.binds, RC.phi, RC.MP.val] at hpre
          simp only [frL, Act.put, List.setIfInBounds_toArray, List.set_cons_zero, List.set_cons_succ, Nat.zero_add, Nat.reduceAdd, hpre] at hK ⊢
          have HK := Lib.hid hK
          clear hK
          refine Held.mk ?_
          go_simp
          exact HK.out _ (Below.refl _ _)
        -- 6: Op.load 26 (Operand.tmp 4)
        apply RC.ls_val (fun _ _ _ _ _ _ => trivial)
        · intro x w' hb hpre K hK
          have za0 := (hb.cell (p := ⟨w.heap.size, 0, none⟩) kA).trans a0
          have za1 := (hb.cell (p := ⟨w.heap.size, 1, none⟩) kA).trans a1
          have za2 := (hb.cell (p := ⟨w.heap.size, 2, none⟩) kA).trans a2
          have za3 := (hb.cell (p := ⟨w.heap.size, 3, none⟩) kA).trans a3
          have za4 := (hb.cell (p := ⟨w.heap.size, 4, none⟩) kA).trans a4
          have zb0 := (hb.cell (p := ⟨w.heap.size + 1, 0, none⟩) kB).trans b0
          have zb1 := (hb.cell (p := ⟨w.heap.size + 1, 1, none⟩) kB).trans b1
          have zb2 := (hb.cell (p := ⟨w.heap.size + 1, 2, none⟩) kB).trans b2
          have zb3 := (hb.cell (p := ⟨w.heap.size + 1, 3, none⟩) kB).trans b3
          have zb4 := (hb.cell (p := ⟨w.heap.size + 1, 4, none⟩) kB).trans b4
          have ze0 := (hb.cell (p := ⟨w.heap.size + 1 + 1, 0, none⟩) kC).trans e0
          have ze1 := (hb.cell (p := ⟨w.heap.size + 1 + 1, 1, none⟩) kC).trans e1
          have ze2 := (hb.cell (p := ⟨w.heap.size + 1 + 1, 2, none⟩) kC).trans e2
          have ze3 := (hb.cell (p := ⟨w.heap.size + 1 + 1, 3, none⟩) kC).trans e3
          have ze4 := (hb.cell (p := ⟨w.heap.size + 1 + 1, 4, none⟩) kC).trans e4
          simp [preds, Region.binds, RC.phi, RC.MP.val] at hpre
          simp only [frL, Act.put, List.setIfInBounds_toArray, List.set_cons_zero, List.set_cons_succ, Nat.zero_add, Nat.reduceAdd, hpre] at hK ⊢
          have HK := Lib.hid hK
          clear hK
          refine Held.mk ?_
          go_simp
          exact HK.out _ (Below.refl _ _)
        -- 7: Op.call { callee := Callee.value (Operand.func 8), args := #[Operand.tmp 24, Ope
        apply RC.ls_val (fun _ _ _ _ _ _ => trivial)
        · intro x w' hb hpre K hK
          have za0 := (hb.cell (p := ⟨w.heap.size, 0, none⟩) kA).trans a0
          have za1 := (hb.cell (p := ⟨w.heap.size, 1, none⟩) kA).trans a1
          have za2 := (hb.cell (p := ⟨w.heap.size, 2, none⟩) kA).trans a2
          have za3 := (hb.cell (p := ⟨w.heap.size, 3, none⟩) kA).trans a3
          have za4 := (hb.cell (p := ⟨w.heap.size, 4, none⟩) kA).trans a4
          have zb0 := (hb.cell (p := ⟨w.heap.size + 1, 0, none⟩) kB).trans b0
          have zb1 := (hb.cell (p := ⟨w.heap.size + 1, 1, none⟩) kB).trans b1
          have zb2 := (hb.cell (p := ⟨w.heap.size + 1, 2, none⟩) kB).trans b2
          have zb3 := (hb.cell (p := ⟨w.heap.size + 1, 3, none⟩) kB).trans b3
          have zb4 := (hb.cell (p := ⟨w.heap.size + 1, 4, none⟩) kB).trans b4
          have ze0 := (hb.cell (p := ⟨w.heap.size + 1 + 1, 0, none⟩) kC).trans e0
          have ze1 := (hb.cell (p := ⟨w.heap.size + 1 + 1, 1, none⟩) kC).trans e1
          have ze2 := (hb.cell (p := ⟨w.heap.size + 1 + 1, 2, none⟩) kC).trans e2
          have ze3 := (hb.cell (p := ⟨w.heap.size + 1 + 1, 3, none⟩) kC).trans e3
          have ze4 := (hb.cell (p := ⟨w.heap.size + 1 + 1, 4, none⟩) kC).trans e4
          simp [preds, Region.binds, RC.phi, RC.MP.val] at hpre
          simp only [frL, Act.put, List.setIfInBounds_toArray, List.set_cons_zero, List.set_cons_succ, Nat.zero_add, Nat.reduceAdd, hpre] at hK ⊢
          have HK := Lib.hid hK
          clear hK
          refine Held.mk ?_
          go_simp
          (with_reducible refine (ABc.out _ hb).mono ?_)
          rintro e w1 ⟨rfl, hb1⟩
          dsimp only
          exact HK.out _ hb1
        -- 8: Op.load 26 (Operand.tmp 4)
        apply RC.ls_val (fun _ _ _ _ _ _ => trivial)
        · intro x w' hb hpre K hK
          have za0 := (hb.cell (p := ⟨w.heap.size, 0, none⟩) kA).trans a0
          have za1 := (hb.cell (p := ⟨w.heap.size, 1, none⟩) kA).trans a1
          have za2 := (hb.cell (p := ⟨w.heap.size, 2, none⟩) kA).trans a2
          have za3 := (hb.cell (p := ⟨w.heap.size, 3, none⟩) kA).trans a3
          have za4 := (hb.cell (p := ⟨w.heap.size, 4, none⟩) kA).trans a4
          have zb0 := (hb.cell (p := ⟨w.heap.size + 1, 0, none⟩) kB).trans b0
          have zb1 := (hb.cell (p := ⟨w.heap.size + 1, 1, none⟩) kB).trans b1
          have zb2 := (hb.cell (p := ⟨w.heap.size + 1, 2, none⟩) kB).trans b2
          have zb3 := (hb.cell (p := ⟨w.heap.size + 1, 3, none⟩) kB).trans b3
          have zb4 := (hb.cell (p := ⟨w.heap.size + 1, 4, none⟩) kB).trans b4
          have ze0 := (hb.cell (p := ⟨w.heap.size + 1 + 1, 0, none⟩) kC).trans e0
          have ze1 := (hb.cell (p := ⟨w.heap.size + 1 + 1, 1, none⟩) kC).trans e1
          have ze2 := (hb.cell (p := ⟨w.heap.size + 1 + 1, 2, none⟩) kC).trans e2
          have ze3 := (hb.cell (p := ⟨w.heap.size + 1 + 1, 3, none⟩) kC).trans e3
          have ze4 := (hb.cell (p := ⟨w.heap.size + 1 + 1, 4, none⟩) kC).trans e4
          simp [preds, Region.binds, RC.phi, RC.MP.val] at hpre
          simp only [frL, Act.put, List.setIfInBounds_toArray, List.set_cons_zero, List.set_cons_succ, Nat.zero_add, Nat.reduceAdd, hpre] at hK ⊢
          have HK := Lib.hid hK
          clear hK
          refine Held.mk ?_
          go_simp
          exact HK.out _ (Below.refl _ _)
        -- 9: Op.load 26 (Operand.tmp 3)
        apply RC.ls_val (fun _ _ _ _ _ _ => trivial)
        · intro x w' hb hpre K hK
          have za0 := (hb.cell (p := ⟨w.heap.size, 0, none⟩) kA).trans a0
          have za1 := (hb.cell (p := ⟨w.heap.size, 1, none⟩) kA).trans a1
          have za2 := (hb.cell (p := ⟨w.heap.size, 2, none⟩) kA).trans a2
          have za3 := (hb.cell (p := ⟨w.heap.size, 3, none⟩) kA).trans a3
          have za4 := (hb.cell (p := ⟨w.heap.size, 4, none⟩) kA).trans a4
          have zb0 := (hb.cell (p := ⟨w.heap.size + 1, 0, none⟩) kB).trans b0
          have zb1 := (hb.cell (p := ⟨w.heap.size + 1, 1, none⟩) kB).trans b1
          have zb2 := (hb.cell (p := ⟨w.heap.size + 1, 2, none⟩) kB).trans b2
          have zb3 := (hb.cell (p := ⟨w.heap.size + 1, 3, none⟩) kB).trans b3
          have zb4 := (hb.cell (p := ⟨w.heap.size + 1, 4, none⟩) kB).trans b4
          have ze0 := (hb.cell (p := ⟨w.heap.size + 1 + 1, 0, none⟩) kC).trans e0
          have ze1 := (hb.cell (p := ⟨w.heap.size + 1 + 1, 1, none⟩) kC).trans e1
          have ze2 := (hb.cell (p := ⟨w.heap.size + 1 + 1, 2, none⟩) kC).trans e2
          have ze3 := (hb.cell (p := ⟨w.heap.size + 1 + 1, 3, none⟩) kC).trans e3
          have ze4 := (hb.cell (p := ⟨w.heap.size + 1 + 1, 4, none⟩) kC).trans e4
          simp [preds, Region.binds, RC.phi, RC.MP.val] at hpre
          simp only [frL, Act.put, List.setIfInBounds_toArray, List.set_cons_zero, List.set_cons_succ, Nat.zero_add, Nat.reduceAdd, hpre] at hK ⊢
          have HK := Lib.hid hK
          clear hK
          refine Held.mk ?_
          go_simp
          exact HK.out _ (Below.refl _ _)
        -- 10: Op.call { callee := Callee.value (Operand.func 8), args := #[Operand.tmp 27, Ope
        apply RC.ls_val (fun _ _ _ _ _ _ => trivial)
        · intro x w' hb hpre K hK
          have za0 := (hb.cell (p := ⟨w.heap.size, 0, none⟩) kA).trans a0
          have za1 := (hb.cell (p := ⟨w.heap.size, 1, none⟩) kA).trans a1
          have za2 := (hb.cell (p := ⟨w.heap.size, 2, none⟩) kA).trans a2
          have za3 := (hb.cell (p := ⟨w.heap.size, 3, none⟩) kA).trans a3
          have za4 := (hb.cell (p := ⟨w.heap.size, 4, none⟩) kA).trans a4
          have zb0 := (hb.cell (p := ⟨w.heap.size + 1, 0, none⟩) kB).trans b0
          have zb1 := (hb.cell (p := ⟨w.heap.size + 1, 1, none⟩) kB).trans b1
          have zb2 := (hb.cell (p := ⟨w.heap.size + 1, 2, none⟩) kB).trans b2
          have zb3 := (hb.cell (p := ⟨w.heap.size + 1, 3, none⟩) kB).trans b3
          have zb4 := (hb.cell (p := ⟨w.heap.size + 1, 4, none⟩) kB).trans b4
          have ze0 := (hb.cell (p := ⟨w.heap.size + 1 + 1, 0, none⟩) kC).trans e0
          have ze1 := (hb.cell (p := ⟨w.heap.size + 1 + 1, 1, none⟩) kC).trans e1
          have ze2 := (hb.cell (p := ⟨w.heap.size + 1 + 1, 2, none⟩) kC).trans e2
          have ze3 := (hb.cell (p := ⟨w.heap.size + 1 + 1, 3, none⟩) kC).trans e3
          have ze4 := (hb.cell (p := ⟨w.heap.size + 1 + 1, 4, none⟩) kC).trans e4
          simp [preds, Region.binds, RC.phi, RC.MP.val] at hpre
          simp only [frL, Act.put, List.setIfInBounds_toArray, List.set_cons_zero, List.set_cons_succ, Nat.zero_add, Nat.reduceAdd, hpre] at hK ⊢
          have HK := Lib.hid hK
          clear hK
          refine Held.mk ?_
          go_simp
          (with_reducible refine (BAc.out _ hb).mono ?_)
          rintro e w1 ⟨rfl, hb1⟩
          dsimp only
          exact HK.out _ hb1
        -- 11: Op.binOp BinOp.neq 4 (Operand.tmp 26) (Operand.tmp 29) 4
        apply RC.ls_val (fun _ _ _ _ _ _ => trivial)
        · intro x w' hb hpre K hK
          have za0 := (hb.cell (p := ⟨w.heap.size, 0, none⟩) kA).trans a0
          have za1 := (hb.cell (p := ⟨w.heap.size, 1, none⟩) kA).trans a1
          have za2 := (hb.cell (p := ⟨w.heap.size, 2, none⟩) kA).trans a2
          have za3 := (hb.cell (p := ⟨w.heap.size, 3, none⟩) kA).trans a3
          have za4 := (hb.cell (p := ⟨w.heap.size, 4, none⟩) kA).trans a4
          have zb0 := (hb.cell (p := ⟨w.heap.size + 1, 0, none⟩) kB).trans b0
          have zb1 := (hb.cell (p := ⟨w.heap.size + 1, 1, none⟩) kB).trans b1
          have zb2 := (hb.cell (p := ⟨w.heap.size + 1, 2, none⟩) kB).trans b2
          have zb3 := (hb.cell (p := ⟨w.heap.size + 1, 3, none⟩) kB).trans b3
          have zb4 := (hb.cell (p := ⟨w.heap.size + 1, 4, none⟩) kB).trans b4
          have ze0 := (hb.cell (p := ⟨w.heap.size + 1 + 1, 0, none⟩) kC).trans e0
          have ze1 := (hb.cell (p := ⟨w.heap.size + 1 + 1, 1, none⟩) kC).trans e1
          have ze2 := (hb.cell (p := ⟨w.heap.size + 1 + 1, 2, none⟩) kC).trans e2
          have ze3 := (hb.cell (p := ⟨w.heap.size + 1 + 1, 3, none⟩) kC).trans e3
          have ze4 := (hb.cell (p := ⟨w.heap.size + 1 + 1, 4, none⟩) kC).trans e4
          simp [preds, Region.binds, RC.phi, RC.MP.val] at hpre
          simp only [frL, Act.put, List.setIfInBounds_toArray, List.set_cons_zero, List.set_cons_succ, Nat.zero_add, Nat.reduceAdd, hpre] at hK ⊢
          have HK := Lib.hid hK
          clear hK
          refine Held.mk ?_
          go_simp
          exact HK.out _ (Below.refl _ _)
        -- 12: Op.pick (Operand.tmp 23) (Operand.const (Value.bool true)) (Operand.tmp 30)
        apply RC.ls_val (fun _ _ _ _ _ _ => trivial)
        · intro x w' hb hpre K hK
          have za0 := (hb.cell (p := ⟨w.heap.size, 0, none⟩) kA).trans a0
          have za1 := (hb.cell (p := ⟨w.heap.size, 1, none⟩) kA).trans a1
          have za2 := (hb.cell (p := ⟨w.heap.size, 2, none⟩) kA).trans a2
          have za3 := (hb.cell (p := ⟨w.heap.size, 3, none⟩) kA).trans a3
          have za4 := (hb.cell (p := ⟨w.heap.size, 4, none⟩) kA).trans a4
          have zb0 := (hb.cell (p := ⟨w.heap.size + 1, 0, none⟩) kB).trans b0
          have zb1 := (hb.cell (p := ⟨w.heap.size + 1, 1, none⟩) kB).trans b1
          have zb2 := (hb.cell (p := ⟨w.heap.size + 1, 2, none⟩) kB).trans b2
          have zb3 := (hb.cell (p := ⟨w.heap.size + 1, 3, none⟩) kB).trans b3
          have zb4 := (hb.cell (p := ⟨w.heap.size + 1, 4, none⟩) kB).trans b4
          have ze0 := (hb.cell (p := ⟨w.heap.size + 1 + 1, 0, none⟩) kC).trans e0
          have ze1 := (hb.cell (p := ⟨w.heap.size + 1 + 1, 1, none⟩) kC).trans e1
          have ze2 := (hb.cell (p := ⟨w.heap.size + 1 + 1, 2, none⟩) kC).trans e2
          have ze3 := (hb.cell (p := ⟨w.heap.size + 1 + 1, 3, none⟩) kC).trans e3
          have ze4 := (hb.cell (p := ⟨w.heap.size + 1 + 1, 4, none⟩) kC).trans e4
          simp [preds, Region.binds, RC.phi, RC.MP.val] at hpre
          simp only [frL, Act.put, List.setIfInBounds_toArray, List.set_cons_zero, List.set_cons_succ, Nat.zero_add, Nat.reduceAdd, hpre] at hK ⊢
          have HK := Lib.hid hK
          clear hK
          refine Held.mk ?_
          go_simp
          exact HK.out _ (Below.refl _ _)
        -- 13: Op.move (Operand.tmp 31)
        apply RC.ls_val (fun _ _ _ _ _ _ => trivial)
        · intro x w' hb hpre K hK
          have za0 := (hb.cell (p := ⟨w.heap.size, 0, none⟩) kA).trans a0
          have za1 := (hb.cell (p := ⟨w.heap.size, 1, none⟩) kA).trans a1
          have za2 := (hb.cell (p := ⟨w.heap.size, 2, none⟩) kA).trans a2
          have za3 := (hb.cell (p := ⟨w.heap.size, 3, none⟩) kA).trans a3
          have za4 := (hb.cell (p := ⟨w.heap.size, 4, none⟩) kA).trans a4
          have zb0 := (hb.cell (p := ⟨w.heap.size + 1, 0, none⟩) kB).trans b0
          have zb1 := (hb.cell (p := ⟨w.heap.size + 1, 1, none⟩) kB).trans b1
          have zb2 := (hb.cell (p := ⟨w.heap.size + 1, 2, none⟩) kB).trans b2
          have zb3 := (hb.cell (p := ⟨w.heap.size + 1, 3, none⟩) kB).trans b3
          have zb4 := (hb.cell (p := ⟨w.heap.size + 1, 4, none⟩) kB).trans b4
          have ze0 := (hb.cell (p := ⟨w.heap.size + 1 + 1, 0, none⟩) kC).trans e0
          have ze1 := (hb.cell (p := ⟨w.heap.size + 1 + 1, 1, none⟩) kC).trans e1
          have ze2 := (hb.cell (p := ⟨w.heap.size + 1 + 1, 2, none⟩) kC).trans e2
          have ze3 := (hb.cell (p := ⟨w.heap.size + 1 + 1, 3, none⟩) kC).trans e3
          have ze4 := (hb.cell (p := ⟨w.heap.size + 1 + 1, 4, none⟩) kC).trans e4
          simp [preds, Region.binds, RC.phi, RC.MP.val] at hpre
          simp only [frL, Act.put, List.setIfInBounds_toArray, List.set_cons_zero, List.set_cons_succ, Nat.zero_add, Nat.reduceAdd, hpre] at hK ⊢
          have HK := Lib.hid hK
          clear hK
          refine Held.mk ?_
          go_simp
          exact HK.out _ (Below.refl _ _)
        -- 14: Op.load 26 (Operand.tmp 3)
        apply RC.ls_val (fun _ _ _ _ _ _ => trivial)
        · intro x w' hb hpre K hK
          have za0 := (hb.cell (p := ⟨w.heap.size, 0, none⟩) kA).trans a0
          have za1 := (hb.cell (p := ⟨w.heap.size, 1, none⟩) kA).trans a1
          have za2 := (hb.cell (p := ⟨w.heap.size, 2, none⟩) kA).trans a2
          have za3 := (hb.cell (p := ⟨w.heap.size, 3, none⟩) kA).trans a3
          have za4 := (hb.cell (p := ⟨w.heap.size, 4, none⟩) kA).trans a4
          have zb0 := (hb.cell (p := ⟨w.heap.size + 1, 0, none⟩) kB).trans b0
          have zb1 := (hb.cell (p := ⟨w.heap.size + 1, 1, none⟩) kB).trans b1
          have zb2 := (hb.cell (p := ⟨w.heap.size + 1, 2, none⟩) kB).trans b2
          have zb3 := (hb.cell (p := ⟨w.heap.size + 1, 3, none⟩) kB).trans b3
          have zb4 := (hb.cell (p := ⟨w.heap.size + 1, 4, none⟩) kB).trans b4
          have ze0 := (hb.cell (p := ⟨w.heap.size + 1 + 1, 0, none⟩) kC).trans e0
          have ze1 := (hb.cell (p := ⟨w.heap.size + 1 + 1, 1, none⟩) kC).trans e1
          have ze2 := (hb.cell (p := ⟨w.heap.size + 1 + 1, 2, none⟩) kC).trans e2
          have ze3 := (hb.cell (p := ⟨w.heap.size + 1 + 1, 3, none⟩) kC).trans e3
          have ze4 := (hb.cell (p := ⟨w.heap.size + 1 + 1, 4, none⟩) kC).trans e4
          simp [preds, Region.binds, RC.phi, RC.MP.val] at hpre
          simp only [frL, Act.put, List.setIfInBounds_toArray, List.set_cons_zero, List.set_cons_succ, Nat.zero_add, Nat.reduceAdd, hpre] at hK ⊢
          have HK := Lib.hid hK
          clear hK
          refine Held.mk ?_
          go_simp
          exact HK.out _ (Below.refl _ _)
        -- 15: Op.load 26 (Operand.tmp 4)
        apply RC.ls_val (fun _ _ _ _ _ _ => trivial)
        · intro x w' hb hpre K hK
          have za0 := (hb.cell (p := ⟨w.heap.size, 0, none⟩) kA).trans a0
          have za1 := (hb.cell (p := ⟨w.heap.size, 1, none⟩) kA).trans a1
          have za2 := (hb.cell (p := ⟨w.heap.size, 2, none⟩) kA).trans a2
          have za3 := (hb.cell (p := ⟨w.heap.size, 3, none⟩) kA).trans a3
          have za4 := (hb.cell (p := ⟨w.heap.size, 4, none⟩) kA).trans a4
          have zb0 := (hb.cell (p := ⟨w.heap.size + 1, 0, none⟩) kB).trans b0
          have zb1 := (hb.cell (p := ⟨w.heap.size + 1, 1, none⟩) kB).trans b1
          have zb2 := (hb.cell (p := ⟨w.heap.size + 1, 2, none⟩) kB).trans b2
          have zb3 := (hb.cell (p := ⟨w.heap.size + 1, 3, none⟩) kB).trans b3
          have zb4 := (hb.cell (p := ⟨w.heap.size + 1, 4, none⟩) kB).trans b4
          have ze0 := (hb.cell (p := ⟨w.heap.size + 1 + 1, 0, none⟩) kC).trans e0
          have ze1 := (hb.cell (p := ⟨w.heap.size + 1 + 1, 1, none⟩) kC).trans e1
          have ze2 := (hb.cell (p := ⟨w.heap.size + 1 + 1, 2, none⟩) kC).trans e2
          have ze3 := (hb.cell (p := ⟨w.heap.size + 1 + 1, 3, none⟩) kC).trans e3
          have ze4 := (hb.cell (p := ⟨w.heap.size + 1 + 1, 4, none⟩) kC).trans e4
          simp [preds, Region.binds, RC.phi, RC.MP.val] at hpre
          simp only [frL, Act.put, List.setIfInBounds_toArray, List.set_cons_zero, List.set_cons_succ, Nat.zero_add, Nat.reduceAdd, hpre] at hK ⊢
          have HK := Lib.hid hK
          clear hK
          refine Held.mk ?_
          go_simp
          exact HK.out _ (Below.refl _ _)
        -- 16: Op.call { callee := Callee.value (Operand.func 8), args := #[Operand.tmp 33, Ope
        apply RC.ls_val (fun _ _ _ _ _ _ => trivial)
        · intro x w' hb hpre K hK
          have za0 := (hb.cell (p := ⟨w.heap.size, 0, none⟩) kA).trans a0
          have za1 := (hb.cell (p := ⟨w.heap.size, 1, none⟩) kA).trans a1
          have za2 := (hb.cell (p := ⟨w.heap.size, 2, none⟩) kA).trans a2
          have za3 := (hb.cell (p := ⟨w.heap.size, 3, none⟩) kA).trans a3
          have za4 := (hb.cell (p := ⟨w.heap.size, 4, none⟩) kA).trans a4
          have zb0 := (hb.cell (p := ⟨w.heap.size + 1, 0, none⟩) kB).trans b0
          have zb1 := (hb.cell (p := ⟨w.heap.size + 1, 1, none⟩) kB).trans b1
          have zb2 := (hb.cell (p := ⟨w.heap.size + 1, 2, none⟩) kB).trans b2
          have zb3 := (hb.cell (p := ⟨w.heap.size + 1, 3, none⟩) kB).trans b3
          have zb4 := (hb.cell (p := ⟨w.heap.size + 1, 4, none⟩) kB).trans b4
          have ze0 := (hb.cell (p := ⟨w.heap.size + 1 + 1, 0, none⟩) kC).trans e0
          have ze1 := (hb.cell (p := ⟨w.heap.size + 1 + 1, 1, none⟩) kC).trans e1
          have ze2 := (hb.cell (p := ⟨w.heap.size + 1 + 1, 2, none⟩) kC).trans e2
          have ze3 := (hb.cell (p := ⟨w.heap.size + 1 + 1, 3, none⟩) kC).trans e3
          have ze4 := (hb.cell (p := ⟨w.heap.size + 1 + 1, 4, none⟩) kC).trans e4
          simp [preds, Region.binds, RC.phi, RC.MP.val] at hpre
          simp only [frL, Act.put, List.setIfInBounds_toArray, List.set_cons_zero, List.set_cons_succ, Nat.zero_add, Nat.reduceAdd, hpre] at hK ⊢
          have HK := Lib.hid hK
          clear hK
          refine Held.mk ?_
          go_simp
          (with_reducible refine (ABc.out _ hb).mono ?_)
          rintro e w1 ⟨rfl, hb1⟩
          dsimp only
          exact HK.out _ hb1
        -- 17: Op.move (Operand.tmp 35)
        apply RC.ls_val (fun _ _ _ _ _ _ => trivial)
        · intro x w' hb hpre K hK
          have za0 := (hb.cell (p := ⟨w.heap.size, 0, none⟩) kA).trans a0
          have za1 := (hb.cell (p := ⟨w.heap.size, 1, none⟩) kA).trans a1
          have za2 := (hb.cell (p := ⟨w.heap.size, 2, none⟩) kA).trans a2
          have za3 := (hb.cell (p := ⟨w.heap.size, 3, none⟩) kA).trans a3
          have za4 := (hb.cell (p := ⟨w.heap.size, 4, none⟩) kA).trans a4
          have zb0 := (hb.cell (p := ⟨w.heap.size + 1, 0, none⟩) kB).trans b0
          have zb1 := (hb.cell (p := ⟨w.heap.size + 1, 1, none⟩) kB).trans b1
          have zb2 := (hb.cell (p := ⟨w.heap.size + 1, 2, none⟩) kB).trans b2
          have zb3 := (hb.cell (p := ⟨w.heap.size + 1, 3, none⟩) kB).trans b3
          have zb4 := (hb.cell (p := ⟨w.heap.size + 1, 4, none⟩) kB).trans b4
          have ze0 := (hb.cell (p := ⟨w.heap.size + 1 + 1, 0, none⟩) kC).trans e0
          have ze1 := (hb.cell (p := ⟨w.heap.size + 1 + 1, 1, none⟩) kC).trans e1
          have ze2 := (hb.cell (p := ⟨w.heap.size + 1 + 1, 2, none⟩) kC).trans e2
          have ze3 := (hb.cell (p := ⟨w.heap.size + 1 + 1, 3, none⟩) kC).trans e3
          have ze4 := (hb.cell (p := ⟨w.heap.size + 1 + 1, 4, none⟩) kC).trans e4
          simp [preds, Region.binds, RC.phi, RC.MP.val] at hpre
          simp only [frL, Act.put, List.setIfInBounds_toArray, List.set_cons_zero, List.set_cons_succ, Nat.zero_add, Nat.reduceAdd, hpre] at hK ⊢
          have HK := Lib.hid hK
          clear hK
          refine Held.mk ?_
          go_simp
          exact HK.out _ (Below.refl _ _)
        -- 18: Op.load 26 (Operand.tmp 4)
        apply RC.ls_val (fun _ _ _ _ _ _ => trivial)
        · intro x w' hb hpre K hK
          have za0 := (hb.cell (p := ⟨w.heap.size, 0, none⟩) kA).trans a0
          have za1 := (hb.cell (p := ⟨w.heap.size, 1, none⟩) kA).trans a1
          have za2 := (hb.cell (p := ⟨w.heap.size, 2, none⟩) kA).trans a2
          have za3 := (hb.cell (p := ⟨w.heap.size, 3, none⟩) kA).trans a3
          have za4 := (hb.cell (p := ⟨w.heap.size, 4, none⟩) kA).trans a4
          have zb0 := (hb.cell (p := ⟨w.heap.size + 1, 0, none⟩) kB).trans b0
          have zb1 := (hb.cell (p := ⟨w.heap.size + 1, 1, none⟩) kB).trans b1
          have zb2 := (hb.cell (p := ⟨w.heap.size + 1, 2, none⟩) kB).trans b2
          have zb3 := (hb.cell (p := ⟨w.heap.size + 1, 3, none⟩) kB).trans b3
          have zb4 := (hb.cell (p := ⟨w.heap.size + 1, 4, none⟩) kB).trans b4
          have ze0 := (hb.cell (p := ⟨w.heap.size + 1 + 1, 0, none⟩) kC).trans e0
          have ze1 := (hb.cell (p := ⟨w.heap.size + 1 + 1, 1, none⟩) kC).trans e1
          have ze2 := (hb.cell (p := ⟨w.heap.size + 1 + 1, 2, none⟩) kC).trans e2
          have ze3 := (hb.cell (p := ⟨w.heap.size + 1 + 1, 3, none⟩) kC).trans e3
          have ze4 := (hb.cell (p := ⟨w.heap.size + 1 + 1, 4, none⟩) kC).trans e4
          simp [preds, Region.binds, RC.phi, RC.MP.val] at hpre
          simp only [frL, Act.put, List.setIfInBounds_toArray, List.set_cons_zero, List.set_cons_succ, Nat.zero_add, Nat.reduceAdd, hpre] at hK ⊢
          have HK := Lib.hid hK
          clear hK
          refine Held.mk ?_
          go_simp
          exact HK.out _ (Below.refl _ _)
        -- 19: Op.load 26 (Operand.tmp 5)
        apply RC.ls_val (fun _ _ _ _ _ _ => trivial)
        · intro x w' hb hpre K hK
          have za0 := (hb.cell (p := ⟨w.heap.size, 0, none⟩) kA).trans a0
          have za1 := (hb.cell (p := ⟨w.heap.size, 1, none⟩) kA).trans a1
          have za2 := (hb.cell (p := ⟨w.heap.size, 2, none⟩) kA).trans a2
          have za3 := (hb.cell (p := ⟨w.heap.size, 3, none⟩) kA).trans a3
          have za4 := (hb.cell (p := ⟨w.heap.size, 4, none⟩) kA).trans a4
          have zb0 := (hb.cell (p := ⟨w.heap.size + 1, 0, none⟩) kB).trans b0
          have zb1 := (hb.cell (p := ⟨w.heap.size + 1, 1, none⟩) kB).trans b1
          have zb2 := (hb.cell (p := ⟨w.heap.size + 1, 2, none⟩) kB).trans b2
          have zb3 := (hb.cell (p := ⟨w.heap.size + 1, 3, none⟩) kB).trans b3
          have zb4 := (hb.cell (p := ⟨w.heap.size + 1, 4, none⟩) kB).trans b4
          have ze0 := (hb.cell (p := ⟨w.heap.size + 1 + 1, 0, none⟩) kC).trans e0
          have ze1 := (hb.cell (p := ⟨w.heap.size + 1 + 1, 1, none⟩) kC).trans e1
          have ze2 := (hb.cell (p := ⟨w.heap.size + 1 + 1, 2, none⟩) kC).trans e2
          have ze3 := (hb.cell (p := ⟨w.heap.size + 1 + 1, 3, none⟩) kC).trans e3
          have ze4 := (hb.cell (p := ⟨w.heap.size + 1 + 1, 4, none⟩) kC).trans e4
          simp [preds, Region.binds, RC.phi, RC.MP.val] at hpre
          simp only [frL, Act.put, List.setIfInBounds_toArray, List.set_cons_zero, List.set_cons_succ, Nat.zero_add, Nat.reduceAdd, hpre] at hK ⊢
          have HK := Lib.hid hK
          clear hK
          refine Held.mk ?_
          go_simp
          exact HK.out _ (Below.refl _ _)
        -- 20: Op.call { callee := Callee.value (Operand.func 8), args := #[Operand.tmp 37, Ope
        apply RC.ls_val (fun _ _ _ _ _ _ => trivial)
        · intro x w' hb hpre K hK
          have za0 := (hb.cell (p := ⟨w.heap.size, 0, none⟩) kA).trans a0
          have za1 := (hb.cell (p := ⟨w.heap.size, 1, none⟩) kA).trans a1
          have za2 := (hb.cell (p := ⟨w.heap.size, 2, none⟩) kA).trans a2
          have za3 := (hb.cell (p := ⟨w.heap.size, 3, none⟩) kA).trans a3
          have za4 := (hb.cell (p := ⟨w.heap.size, 4, none⟩) kA).trans a4
          have zb0 := (hb.cell (p := ⟨w.heap.size + 1, 0, none⟩) kB).trans b0
          have zb1 := (hb.cell (p := ⟨w.heap.size + 1, 1, none⟩) kB).trans b1
          have zb2 := (hb.cell (p := ⟨w.heap.size + 1, 2, none⟩) kB).trans b2
          have zb3 := (hb.cell (p := ⟨w.heap.size + 1, 3, none⟩) kB).trans b3
          have zb4 := (hb.cell (p := ⟨w.heap.size + 1, 4, none⟩) kB).trans b4
          have ze0 := (hb.cell (p := ⟨w.heap.size + 1 + 1, 0, none⟩) kC).trans e0
          have ze1 := (hb.cell (p := ⟨w.heap.size + 1 + 1, 1, none⟩) kC).trans e1
          have ze2 := (hb.cell (p := ⟨w.heap.size + 1 + 1, 2, none⟩) kC).trans e2
          have ze3 := (hb.cell (p := ⟨w.heap.size + 1 + 1, 3, none⟩) kC).trans e3
          have ze4 := (hb.cell (p := ⟨w.heap.size + 1 + 1, 4, none⟩) kC).trans e4
          simp [preds, Region.binds, RC.phi, RC.MP.val] at hpre
          simp only [frL, Act.put, List.setIfInBounds_toArray, List.set_cons_zero, List.set_cons_succ, Nat.zero_add, Nat.reduceAdd, hpre] at hK ⊢
          have HK := Lib.hid hK
          clear hK
          refine Held.mk ?_
          go_simp
          (with_reducible refine (BCc.out _ hb).mono ?_)
          rintro e w1 ⟨rfl, hb1⟩
          dsimp only
          exact HK.out _ hb1
        -- 21: Op.pick (Operand.tmp 36) (Operand.tmp 39) (Operand.const (Value.bool false))
        apply RC.ls_val (fun _ _ _ _ _ _ => trivial)
        · intro x w' hb hpre K hK
          have za0 := (hb.cell (p := ⟨w.heap.size, 0, none⟩) kA).trans a0
          have za1 := (hb.cell (p := ⟨w.heap.size, 1, none⟩) kA).trans a1
          have za2 := (hb.cell (p := ⟨w.heap.size, 2, none⟩) kA).trans a2
          have za3 := (hb.cell (p := ⟨w.heap.size, 3, none⟩) kA).trans a3
          have za4 := (hb.cell (p := ⟨w.heap.size, 4, none⟩) kA).trans a4
          have zb0 := (hb.cell (p := ⟨w.heap.size + 1, 0, none⟩) kB).trans b0
          have zb1 := (hb.cell (p := ⟨w.heap.size + 1, 1, none⟩) kB).trans b1
          have zb2 := (hb.cell (p := ⟨w.heap.size + 1, 2, none⟩) kB).trans b2
          have zb3 := (hb.cell (p := ⟨w.heap.size + 1, 3, none⟩) kB).trans b3
          have zb4 := (hb.cell (p := ⟨w.heap.size + 1, 4, none⟩) kB).trans b4
          have ze0 := (hb.cell (p := ⟨w.heap.size + 1 + 1, 0, none⟩) kC).trans e0
          have ze1 := (hb.cell (p := ⟨w.heap.size + 1 + 1, 1, none⟩) kC).trans e1
          have ze2 := (hb.cell (p := ⟨w.heap.size + 1 + 1, 2, none⟩) kC).trans e2
          have ze3 := (hb.cell (p := ⟨w.heap.size + 1 + 1, 3, none⟩) kC).trans e3
          have ze4 := (hb.cell (p := ⟨w.heap.size + 1 + 1, 4, none⟩) kC).trans e4
          simp [preds, Region.binds, RC.phi, RC.MP.val] at hpre
          simp only [frL, Act.put, List.setIfInBounds_toArray, List.set_cons_zero, List.set_cons_succ, Nat.zero_add, Nat.reduceAdd, hpre] at hK ⊢
          have HK := Lib.hid hK
          clear hK
          refine Held.mk ?_
          go_simp
          exact HK.out _ (Below.refl _ _)
        -- 22: Op.move (Operand.tmp 40)
        apply RC.ls_val (fun _ _ _ _ _ _ => trivial)
        · intro x w' hb hpre K hK
          have za0 := (hb.cell (p := ⟨w.heap.size, 0, none⟩) kA).trans a0
          have za1 := (hb.cell (p := ⟨w.heap.size, 1, none⟩) kA).trans a1
          have za2 := (hb.cell (p := ⟨w.heap.size, 2, none⟩) kA).trans a2
          have za3 := (hb.cell (p := ⟨w.heap.size, 3, none⟩) kA).trans a3
          have za4 := (hb.cell (p := ⟨w.heap.size, 4, none⟩) kA).trans a4
          have zb0 := (hb.cell (p := ⟨w.heap.size + 1, 0, none⟩) kB).trans b0
          have zb1 := (hb.cell (p := ⟨w.heap.size + 1, 1, none⟩) kB).trans b1
          have zb2 := (hb.cell (p := ⟨w.heap.size + 1, 2, none⟩) kB).trans b2
          have zb3 := (hb.cell (p := ⟨w.heap.size + 1, 3, none⟩) kB).trans b3
          have zb4 := (hb.cell (p := ⟨w.heap.size + 1, 4, none⟩) kB).trans b4
          have ze0 := (hb.cell (p := ⟨w.heap.size + 1 + 1, 0, none⟩) kC).trans e0
          have ze1 := (hb.cell (p := ⟨w.heap.size + 1 + 1, 1, none⟩) kC).trans e1
          have ze2 := (hb.cell (p := ⟨w.heap.size + 1 + 1, 2, none⟩) kC).trans e2
          have ze3 := (hb.cell (p := ⟨w.heap.size + 1 + 1, 3, none⟩) kC).trans e3
          have ze4 := (hb.cell (p := ⟨w.heap.size + 1 + 1, 4, none⟩) kC).trans e4
          simp [preds, Region.binds, RC.phi, RC.MP.val] at hpre
          simp only [frL, Act.put, List.setIfInBounds_toArray, List.set_cons_zero, List.set_cons_succ, Nat.zero_add, Nat.reduceAdd, hpre] at hK ⊢
          have HK := Lib.hid hK
          clear hK
          refine Held.mk ?_
          go_simp
          exact HK.out _ (Below.refl _ _)
        -- 23: Op.load 26 (Operand.tmp 3)
        apply RC.ls_val (fun _ _ _ _ _ _ => trivial)
        · intro x w' hb hpre K hK
          have za0 := (hb.cell (p := ⟨w.heap.size, 0, none⟩) kA).trans a0
          have za1 := (hb.cell (p := ⟨w.heap.size, 1, none⟩) kA).trans a1
          have za2 := (hb.cell (p := ⟨w.heap.size, 2, none⟩) kA).trans a2
          have za3 := (hb.cell (p := ⟨w.heap.size, 3, none⟩) kA).trans a3
          have za4 := (hb.cell (p := ⟨w.heap.size, 4, none⟩) kA).trans a4
          have zb0 := (hb.cell (p := ⟨w.heap.size + 1, 0, none⟩) kB).trans b0
          have zb1 := (hb.cell (p := ⟨w.heap.size + 1, 1, none⟩) kB).trans b1
          have zb2 := (hb.cell (p := ⟨w.heap.size + 1, 2, none⟩) kB).trans b2
          have zb3 := (hb.cell (p := ⟨w.heap.size + 1, 3, none⟩) kB).trans b3
          have zb4 := (hb.cell (p := ⟨w.heap.size + 1, 4, none⟩) kB).trans b4
          have ze0 := (hb.cell (p := ⟨w.heap.size + 1 + 1, 0, none⟩) kC).trans e0
          have ze1 := (hb.cell (p := ⟨w.heap.size + 1 + 1, 1, none⟩) kC).trans e1
          have ze2 := (hb.cell (p := ⟨w.heap.size + 1 + 1, 2, none⟩) kC).trans e2
          have ze3 := (hb.cell (p := ⟨w.heap.size + 1 + 1, 3, none⟩) kC).trans e3
          have ze4 := (hb.cell (p := ⟨w.heap.size + 1 + 1, 4, none⟩) kC).trans e4
          simp [preds, Region.binds, RC.phi, RC.MP.val] at hpre
          simp only [frL, Act.put, List.setIfInBounds_toArray, List.set_cons_zero, List.set_cons_succ, Nat.zero_add, Nat.reduceAdd, hpre] at hK ⊢
          have HK := Lib.hid hK
          clear hK
          refine Held.mk ?_
          go_simp
          exact HK.out _ (Below.refl _ _)
        -- 24: Op.load 26 (Operand.tmp 5)
        apply RC.ls_val (fun _ _ _ _ _ _ => trivial)
        · intro x w' hb hpre K hK
          have za0 := (hb.cell (p := ⟨w.heap.size, 0, none⟩) kA).trans a0
          have za1 := (hb.cell (p := ⟨w.heap.size, 1, none⟩) kA).trans a1
          have za2 := (hb.cell (p := ⟨w.heap.size, 2, none⟩) kA).trans a2
          have za3 := (hb.cell (p := ⟨w.heap.size, 3, none⟩) kA).trans a3
          have za4 := (hb.cell (p := ⟨w.heap.size, 4, none⟩) kA).trans a4
          have zb0 := (hb.cell (p := ⟨w.heap.size + 1, 0, none⟩) kB).trans b0
          have zb1 := (hb.cell (p := ⟨w.heap.size + 1, 1, none⟩) kB).trans b1
          have zb2 := (hb.cell (p := ⟨w.heap.size + 1, 2, none⟩) kB).trans b2
          have zb3 := (hb.cell (p := ⟨w.heap.size + 1, 3, none⟩) kB).trans b3
          have zb4 := (hb.cell (p := ⟨w.heap.size + 1, 4, none⟩) kB).trans b4
          have ze0 := (hb.cell (p := ⟨w.heap.size + 1 + 1, 0, none⟩) kC).trans e0
          have ze1 := (hb.cell (p := ⟨w.heap.size + 1 + 1, 1, none⟩) kC).trans e1
          have ze2 := (hb.cell (p := ⟨w.heap.size + 1 + 1, 2, none⟩) kC).trans e2
          have ze3 := (hb.cell (p := ⟨w.heap.size + 1 + 1, 3, none⟩) kC).trans e3
          have ze4 := (hb.cell (p := ⟨w.heap.size + 1 + 1, 4, none⟩) kC).trans e4
          simp [preds, Region.binds, RC.phi, RC.MP.val] at hpre
          simp only [frL, Act.put, List.setIfInBounds_toArray, List.set_cons_zero, List.set_cons_succ, Nat.zero_add, Nat.reduceAdd, hpre] at hK ⊢
          have HK := Lib.hid hK
          clear hK
          refine Held.mk ?_
          go_simp
          exact HK.out _ (Below.refl _ _)
        -- 25: Op.call { callee := Callee.value (Operand.func 8), args := #[Operand.tmp 42, Ope
        apply RC.ls_val (fun _ _ _ _ _ _ => trivial)
        · intro x w' hb hpre K hK
          have za0 := (hb.cell (p := ⟨w.heap.size, 0, none⟩) kA).trans a0
          have za1 := (hb.cell (p := ⟨w.heap.size, 1, none⟩) kA).trans a1
          have za2 := (hb.cell (p := ⟨w.heap.size, 2, none⟩) kA).trans a2
          have za3 := (hb.cell (p := ⟨w.heap.size, 3, none⟩) kA).trans a3
          have za4 := (hb.cell (p := ⟨w.heap.size, 4, none⟩) kA).trans a4
          have zb0 := (hb.cell (p := ⟨w.heap.size + 1, 0, none⟩) kB).trans b0
          have zb1 := (hb.cell (p := ⟨w.heap.size + 1, 1, none⟩) kB).trans b1
          have zb2 := (hb.cell (p := ⟨w.heap.size + 1, 2, none⟩) kB).trans b2
          have zb3 := (hb.cell (p := ⟨w.heap.size + 1, 3, none⟩) kB).trans b3
          have zb4 := (hb.cell (p := ⟨w.heap.size + 1, 4, none⟩) kB).trans b4
          have ze0 := (hb.cell (p := ⟨w.heap.size + 1 + 1, 0, none⟩) kC).trans e0
          have ze1 := (hb.cell (p := ⟨w.heap.size + 1 + 1, 1, none⟩) kC).trans e1
          have ze2 := (hb.cell (p := ⟨w.heap.size + 1 + 1, 2, none⟩) kC).trans e2
          have ze3 := (hb.cell (p := ⟨w.heap.size + 1 + 1, 3, none⟩) kC).trans e3
          have ze4 := (hb.cell (p := ⟨w.heap.size + 1 + 1, 4, none⟩) kC).trans e4
          simp [preds, Region.binds, RC.phi, RC.MP.val] at hpre
          simp only [frL, Act.put, List.setIfInBounds_toArray, List.set_cons_zero, List.set_cons_succ, Nat.zero_add, Nat.reduceAdd, hpre] at hK ⊢
          have HK := Lib.hid hK
          clear hK
          refine Held.mk ?_
          go_simp
          (with_reducible refine (ACc.out _ hb).mono ?_)
          rintro e w1 ⟨rfl, hb1⟩
          dsimp only
          exact HK.out _ hb1
        -- 26: Op.unOp UnOp.not 4 (Operand.tmp 44)
        apply RC.ls_val (fun _ _ _ _ _ _ => trivial)
        · intro x w' hb hpre K hK
          have za0 := (hb.cell (p := ⟨w.heap.size, 0, none⟩) kA).trans a0
          have za1 := (hb.cell (p := ⟨w.heap.size, 1, none⟩) kA).trans a1
          have za2 := (hb.cell (p := ⟨w.heap.size, 2, none⟩) kA).trans a2
          have za3 := (hb.cell (p := ⟨w.heap.size, 3, none⟩) kA).trans a3
          have za4 := (hb.cell (p := ⟨w.heap.size, 4, none⟩) kA).trans a4
          have zb0 := (hb.cell (p := ⟨w.heap.size + 1, 0, none⟩) kB).trans b0
          have zb1 := (hb.cell (p := ⟨w.heap.size + 1, 1, none⟩) kB).trans b1
          have zb2 := (hb.cell (p := ⟨w.heap.size + 1, 2, none⟩) kB).trans b2
          have zb3 := (hb.cell (p := ⟨w.heap.size + 1, 3, none⟩) kB).trans b3
          have zb4 := (hb.cell (p := ⟨w.heap.size + 1, 4, none⟩) kB).trans b4
          have ze0 := (hb.cell (p := ⟨w.heap.size + 1 + 1, 0, none⟩) kC).trans e0
          have ze1 := (hb.cell (p := ⟨w.heap.size + 1 + 1, 1, none⟩) kC).trans e1
          have ze2 := (hb.cell (p := ⟨w.heap.size + 1 + 1, 2, none⟩) kC).trans e2
          have ze3 := (hb.cell (p := ⟨w.heap.size + 1 + 1, 3, none⟩) kC).trans e3
          have ze4 := (hb.cell (p := ⟨w.heap.size + 1 + 1, 4, none⟩) kC).trans e4
          simp [preds, Region.binds, RC.phi, RC.MP.val] at hpre
          simp only [frL, Act.put, List.setIfInBounds_toArray, List.set_cons_zero, List.set_cons_succ, Nat.zero_add, Nat.reduceAdd, hpre] at hK ⊢
          have HK := Lib.hid hK
          clear hK
          refine Held.mk ?_
          go_simp
          exact HK.out _ (Below.refl _ _)
        -- 27: Op.pick (Operand.tmp 41) (Operand.tmp 45) (Operand.const (Value.bool false))
        apply RC.ls_val (fun _ _ _ _ _ _ => trivial)
        · intro x w' hb hpre K hK
          have za0 := (hb.cell (p := ⟨w.heap.size, 0, none⟩) kA).trans a0
          have za1 := (hb.cell (p := ⟨w.heap.size, 1, none⟩) kA).trans a1
          have za2 := (hb.cell (p := ⟨w.heap.size, 2, none⟩) kA).trans a2
          have za3 := (hb.cell (p := ⟨w.heap.size, 3, none⟩) kA).trans a3
          have za4 := (hb.cell (p := ⟨w.heap.size, 4, none⟩) kA).trans a4
          have zb0 := (hb.cell (p := ⟨w.heap.size + 1, 0, none⟩) kB).trans b0
          have zb1 := (hb.cell (p := ⟨w.heap.size + 1, 1, none⟩) kB).trans b1
          have zb2 := (hb.cell (p := ⟨w.heap.size + 1, 2, none⟩) kB).trans b2
          have zb3 := (hb.cell (p := ⟨w.heap.size + 1, 3, none⟩) kB).trans b3
          have zb4 := (hb.cell (p := ⟨w.heap.size + 1, 4, none⟩) kB).trans b4
          have ze0 := (hb.cell (p := ⟨w.heap.size + 1 + 1, 0, none⟩) kC).trans e0
          have ze1 := (hb.cell (p := ⟨w.heap.size + 1 + 1, 1, none⟩) kC).trans e1
          have ze2 := (hb.cell (p := ⟨w.heap.size + 1 + 1, 2, none⟩) kC).trans e2
          have ze3 := (hb.cell (p := ⟨w.heap.size + 1 + 1, 3, none⟩) kC).trans e3
          have ze4 := (hb.cell (p := ⟨w.heap.size + 1 + 1, 4, none⟩) kC).trans e4
          simp [preds, Region.binds, RC.phi, RC.MP.val] at hpre
          simp only [frL, Act.put, List.setIfInBounds_toArray, List.set_cons_zero, List.set_cons_succ, Nat.zero_add, Nat.reduceAdd, hpre] at hK ⊢
          have HK := Lib.hid hK
          clear hK
          refine Held.mk ?_
          go_simp
          exact HK.out _ (Below.refl _ _)
        -- 28: Op.pick (Operand.tmp 32) (Operand.const (Value.bool true)) (Operand.tmp 46)
        apply RC.ls_val (fun _ _ _ _ _ _ => trivial)
        · intro x w' hb hpre K hK
          have za0 := (hb.cell (p := ⟨w.heap.size, 0, none⟩) kA).trans a0
          have za1 := (hb.cell (p := ⟨w.heap.size, 1, none⟩) kA).trans a1
          have za2 := (hb.cell (p := ⟨w.heap.size, 2, none⟩) kA).trans a2
          have za3 := (hb.cell (p := ⟨w.heap.size, 3, none⟩) kA).trans a3
          have za4 := (hb.cell (p := ⟨w.heap.size, 4, none⟩) kA).trans a4
          have zb0 := (hb.cell (p := ⟨w.heap.size + 1, 0, none⟩) kB).trans b0
          have zb1 := (hb.cell (p := ⟨w.heap.size + 1, 1, none⟩) kB).trans b1
          have zb2 := (hb.cell (p := ⟨w.heap.size + 1, 2, none⟩) kB).trans b2
          have zb3 := (hb.cell (p := ⟨w.heap.size + 1, 3, none⟩) kB).trans b3
          have zb4 := (hb.cell (p := ⟨w.heap.size + 1, 4, none⟩) kB).trans b4
          have ze0 := (hb.cell (p := ⟨w.heap.size + 1 + 1, 0, none⟩) kC).trans e0
          have ze1 := (hb.cell (p := ⟨w.heap.size + 1 + 1, 1, none⟩) kC).trans e1
          have ze2 := (hb.cell (p := ⟨w.heap.size + 1 + 1, 2, none⟩) kC).trans e2
          have ze3 := (hb.cell (p := ⟨w.heap.size + 1 + 1, 3, none⟩) kC).trans e3
          have ze4 := (hb.cell (p := ⟨w.heap.size + 1 + 1, 4, none⟩) kC).trans e4
          simp [preds, Region.binds, RC.phi, RC.MP.val] at hpre
          simp only [frL, Act.put, List.setIfInBounds_toArray, List.set_cons_zero, List.set_cons_succ, Nat.zero_add, Nat.reduceAdd, hpre] at hK ⊢
          have HK := Lib.hid hK
          clear hK
          refine Held.mk ?_
          go_simp
          exact HK.out _ (Below.refl _ _)
        intro x w' hb hp hJ
        simp only [List.cons_append, List.nil_append, RC.phis, RC.MP.val, frL, Act.put, List.setIfInBounds_toArray, List.set_cons_zero, List.set_cons_succ, Nat.zero_add, Nat.reduceAdd] at hp ⊢
        obtain ⟨h0, h1, h2, h3, h4, h5, h6, h7, h8, h9, h10, h11, h12, h13, h14, h15, h16, h17, h18, h19, h20, h21, h22, h23, h24, h25, h26, h27, h28, -⟩ := hp
        simp only [h0, h1, h2, h3, h4, h5, h6, h7, h8, h9, h10, h11, h12, h13, h14, h15, h16, h17, h18, h19, h20, h21, h22, h23, h24, h25, h26, h27, h28]
        clear h0 h1 h2 h3 h4 h5 h6 h7 h8 h9 h10 h11 h12 h13 h14 h15 h16 h17 h18 h19 h20 h21 h22 h23 h24 h25 h26 h27 h28
        show wpList Tryd.prog _ _ [] _ _
        have hw3 : Below w.heap.size w w' := hw2.trans (hb.mono hw2.size)
        replace BA := BA.below hb BA.lt
        replace BB := BB.below hb BB.lt
        replace BC := BC.below hb BC.lt
        clear hb hw2 kA kB kC a0 a1 a2 a3 a4 b0 b1 b2 b3 b4 e0 e1 e2 e3 e4 AAc ABc BAc BCc ACc
        have kA := BA.lt
        have kB := BB.lt
        have kC := BC.lt
        obtain ⟨⟨a0, a1, a2, a3, a4⟩, -⟩ := BA.five5
        obtain ⟨⟨b0, b1, b2, b3, b4⟩, -⟩ := BB.five5
        obtain ⟨⟨e0, e1, e2, e3, e4⟩, -⟩ := BC.five5
        go_wp2_with fail
        have ks3 := BC.lt
        have CO := copy_cells (h + 1) k n v ps ks np nk HNP.out HNK.out aa ca ka ck w' (by have := HA.out.on hw3; rw [HTT.out] at this; exact this) (by have := SA.out; rw [HTT.out] at this; exact this)
        with_reducible refine CO.mono ?_
        rintro e w4 ⟨⟨ar, cr, as', cs', vs, rfl, hn', hO, hR, hP⟩, hb⟩
        have hw4 : Below w.heap.size w w4 := hw3.trans (hb.mono hw3.size)
        have hw34 := hb
        replace BA := BA.below hb BA.lt
        replace BB := BB.below hb BB.lt
        replace BC := BC.below hb BC.lt
        clear hb kA kB kC a0 a1 a2 a3 a4 b0 b1 b2 b3 b4 e0 e1 e2 e3 e4 CO
        have kA := BA.lt
        have kB := BB.lt
        have kC := BC.lt
        obtain ⟨⟨a0, a1, a2, a3, a4⟩, -⟩ := BA.five5
        obtain ⟨⟨b0, b1, b2, b3, b4⟩, -⟩ := BB.five5
        obtain ⟨⟨e0, e1, e2, e3, e4⟩, -⟩ := BC.five5
        have HO := Lib.hid hO
        have HR := Lib.hid hR
        have HP := Lib.hid hP
        clear hO hR hP
        have hba : Below w4.heap.size w4 (w4.alloc (.cells #[.int .i64 k, .string n, .string v, .slice ar np cr, .slice as' nk cs'] 26)) := (Below.refl _ _).alloc (Nat.le_refl _) _
        have BT : Blk (w4.alloc (.cells #[.int .i64 k, .string n, .string v, .slice ar np cr, .slice as' nk cs'] 26)) w4.heap.size #[.int .i64 k, .string n, .string v, .slice ar np cr, .slice as' nk cs'] 26 := Blk.new _ _ _
        have HO2 := Lib.hid (HO.out.below hba HO.out.lt)
        have hz2 : (w4.alloc (.cells #[.int .i64 k, .string n, .string v, .slice ar np cr, .slice as' nk cs'] 26)).heap.size = w4.heap.size + 1 := by simp
        have hvl : vs.length = nk := HR.out.1.trans HNK.out
        have nk4 : nk + 1 ≤ 400 := by
          have := HF.out
          rw [HTT.out] at this
          have := few_more this
          rw [HNK.out] at this
          exact this
        have hsz34 := hw34.size
        have BN : Blk ((w4.alloc (.cells #[.int .i64 k, .string n, .string v, .slice ar np cr, .slice as' nk cs'] 26)).alloc (.cells #[.int .i64 5, .string ⟨#[]⟩, .string ⟨#[109, 111, 114, 101]⟩, .slice none 0 0, .slice none 0 0] 26)) (w4.heap.size + 1) cmtC.arr 26 := by
          have := Blk.new (w4.alloc (.cells #[.int .i64 k, .string n, .string v, .slice ar np cr, .slice as' nk cs'] 26)) cmtC.arr 26
          rw [hz2] at this
          exact this
        have HO3 := Lib.hid (World.ownsRow.alloc HO2.out (.cells #[.int .i64 5, .string ⟨#[]⟩, .string ⟨#[109, 111, 114, 101]⟩, .slice none 0 0, .slice none 0 0] 26))
        have hz3 : w'.heap.size ≤ ((w4.alloc (.cells #[.int .i64 k, .string n, .string v, .slice ar np cr, .slice as' nk cs'] 26)).alloc (.cells #[.int .i64 5, .string ⟨#[]⟩, .string ⟨#[109, 111, 114, 101]⟩, .slice none 0 0, .slice none 0 0] 26)).heap.size := by simp; omega
        go_wp2_with (at_builtin; refine wpList_app5f rfl _ _ rfl w'.heap.size _ vs rfl HO3.out (w4.heap.size + 1) _ cmtC rfl ⟨rfl, rfl, rfl, rfl, rfl⟩ BN (by omega) hz3 ?_)
        intro v' w6 hO6 hg6 hf6
        obtain ⟨g, cap, rfl⟩ := ownsRow_succ (k := nk) (by have h9 : w6.ownsRow w'.heap.size 26 5 v' (vs ++ [cmtC]).length (flat5 (vs ++ [cmtC])) := hO6; rw [List.length_append, hvl] at h9; exact h9)
        have hgn : g ≠ w4.heap.size := by
          rcases hf6 g rfl with h9 | h9
          · have := HO.out.lt g h9; omega
          · omega
        have hbA2 : Below w4.heap.size w4 ((w4.alloc (.cells #[.int .i64 k, .string n, .string v, .slice ar np cr, .slice as' nk cs'] 26)).alloc (.cells #[.int .i64 5, .string ⟨#[]⟩, .string ⟨#[109, 111, 114, 101]⟩, .slice none 0 0, .slice none 0 0] 26)) := hba.alloc hba.size _
        have BT6 : Blk w6 w4.heap.size #[.int .i64 k, .string n, .string v, .slice ar np cr, .slice as' nk cs'] 26 := by
          have h9 : Blk ((w4.alloc (.cells #[.int .i64 k, .string n, .string v, .slice ar np cr, .slice as' nk cs'] 26)).alloc (.cells #[.int .i64 5, .string ⟨#[]⟩, .string ⟨#[109, 111, 114, 101]⟩, .slice none 0 0, .slice none 0 0] 26)) w4.heap.size #[.int .i64 k, .string n, .string v, .slice ar np cr, .slice as' nk cs'] 26 := BT.alloc _
          have h8 := h9.lt
          unfold Blk at h9 ⊢
          rw [hg6.block _ h8 (fun e => by have := HO.out.lt _ e.symm; omega)]
          exact h9
        have hb6 : Below w'.heap.size ((w4.alloc (.cells #[.int .i64 k, .string n, .string v, .slice ar np cr, .slice as' nk cs'] 26)).alloc (.cells #[.int .i64 5, .string ⟨#[]⟩, .string ⟨#[109, 111, 114, 101]⟩, .slice none 0 0, .slice none 0 0] 26)) w6 := Own5.grown HO3.out hg6 (Nat.le_refl _) hz3
        have hw6 : Below w.heap.size w w6 := (hw4.trans (hbA2.mono hw4.size)).trans (hb6.mono hw3.size)
        have BA6 := (BA.below hbA2 kA).below hb6 (by omega)
        have TM := Lib.hid (more_lies h k n v ps ks np nk HNP.out HNK.out w'.heap.size w4 ((w4.alloc (.cells #[.int .i64 k, .string n, .string v, .slice ar np cr, .slice as' nk cs'] 26)).alloc (.cells #[.int .i64 5, .string ⟨#[]⟩, .string ⟨#[109, 111, 114, 101]⟩, .slice none 0 0, .slice none 0 0] 26)) w6 ar cr as' cs' vs g cap (.slice (some ⟨g, 0, none⟩) (nk + 1) cap) hn' HR.out HP.out hbA2 hO6 hg6 hgn (by have h9 := SA.out; rw [HTT.out] at h9; have h8 : List.length ps ≤ 400 := h9.1; rw [HNP.out] at h8; omega) (by omega))
        have hw7 : Below w.heap.size w (w6.setCell ⟨w4.heap.size, 4, none⟩ (.slice (some ⟨g, 0, none⟩) (nk + 1) cap)) := hw6.setCell (p := ⟨w4.heap.size, 4, none⟩) hw4.size _
        have SM : Hid (SmallT (h + 2) (⟨k, n, v, ps, ks ++ [cmt h]⟩ : Nd (Tr (h + 1)))) := by
          have h9 := SA.out
          rw [HTT.out] at h9
          refine ⟨h9.1, (show (ks ++ [cmt h]).length ≤ 400 by rw [List.length_append, HNK.out]; exact nk4), fun y hy => ?_⟩
          have hy : y ∈ ks ++ [cmt h] := hy
          rcases List.mem_append.1 hy with hy | hy
          · exact h9.2.2 y hy
          · obtain rfl : y = cmt h := by simpa using hy
            exact cmt_small h
        have hne6 : w4.heap.size ≠ w.heap.size := by omega
        have BA7 : Blk (w6.setCell ⟨w4.heap.size, 4, none⟩ (.slice (some ⟨g, 0, none⟩) (nk + 1) cap)) w.heap.size #[.int .i64 k, .string n, .string v, .slice aa np ca, .slice ka nk ck] 26 := BA6.other (a := ⟨w4.heap.size, 4, none⟩) (fun e => hne6 e.symm) _
        have BT7 : Blk (w6.setCell ⟨w4.heap.size, 4, none⟩ (.slice (some ⟨g, 0, none⟩) (nk + 1) cap)) w4.heap.size #[.int .i64 k, .string n, .string v, .slice ar np cr, .slice (some ⟨g, 0, none⟩) (nk + 1) cap] 26 := BT6.set 4 _
        have CM := Lib.hid (fun h1 h2 => trees_any (h + 2) T (⟨k, n, v, ps, ks ++ [cmt h]⟩ : Nd (Tr (h + 1))) #[.int .i64 k, .string n, .string v, .slice aa np ca, .slice ka nk ck] #[.int .i64 k, .string n, .string v, .slice ar np cr, .slice (some ⟨g, 0, none⟩) (nk + 1) cap] (w6.setCell ⟨w4.heap.size, 4, none⟩ (.slice (some ⟨g, 0, none⟩) (nk + 1) cap)) h1 h2 SA.out SM.out)
        have k4 := BT6.lt
        obtain ⟨⟨s0, s1, s2, s3, s4⟩, y0, y1, y2, y3, y4⟩ := BT6.five5
        clear kA kB kC a0 a1 a2 a3 a4 b0 b1 b2 b3 b4 e0 e1 e2 e3 e4 BT hba hbA2 hO6 hg6 hf6 HO HR HP HO2 HO3 BN hb6 BA BB BC hz3 hz2
        have kA7 := BA7.lt
        have kT7 := BT7.lt
        obtain ⟨⟨a0, a1, a2, a3, a4⟩, -⟩ := BA7.five5
        obtain ⟨⟨t0, t1, t2, t3, t4⟩, -⟩ := BT7.five5
        have hwf := hw7.size
        cases e2 : (k == 2)
        · have f2 : (k != 2) = true := by unfold bne; rw [e2]; rfl
          cases e1 : (k == 1)
          · have f1 : (k != 1) = true := by unfold bne; rw [e1]; rfl
            clear CM TM SM
            go_wp2_with fail
            go_returns
            exact ⟨rfl, hw7⟩
          · have f1 : (k != 1) = false := by unfold bne; rw [e1]; rfl
            have hdc : deepF (h + 2) T (⟨k, n, v, ps, ks ++ [cmt h]⟩ : Nd (Tr (h + 1))) = true := by rw [HTT.out]; exact deep_comment (h + 1) ⟨k, n, v, ps, ks⟩ (cmt h) rfl (by show (k == 2 || k == 1) = true; rw [e1]; simp)
            rw [hdc] at CM
            go_wp2_with fail
            with_reducible refine (CM.out (HA.out.on hw7) TM.out).mono ?_
            rintro e w8 ⟨rfl, hb⟩
            go_wp2_with fail
            go_returns
            exact ⟨rfl, hw7.trans (hb.mono hw7.size)⟩
        · have f2 : (k != 2) = false := by unfold bne; rw [e2]; rfl
          have hdc : deepF (h + 2) T (⟨k, n, v, ps, ks ++ [cmt h]⟩ : Nd (Tr (h + 1))) = true := by rw [HTT.out]; exact deep_comment (h + 1) ⟨k, n, v, ps, ks⟩ (cmt h) rfl (by show (k == 2 || k == 1) = true; rw [e2]; rfl)
          rw [hdc] at CM
          go_wp2_with fail
          with_reducible refine (CM.out (HA.out.on hw7) TM.out).mono ?_
          rintro e w8 ⟨rfl, hb⟩
          go_wp2_with fail
          go_returns
          exact ⟨rfl, hw7.trans (hb.mono hw7.size)⟩
end Go.Proofs.YtgdbbocfiejlfaaDoor

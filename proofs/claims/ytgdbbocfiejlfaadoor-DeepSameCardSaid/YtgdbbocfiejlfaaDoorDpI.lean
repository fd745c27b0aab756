/- The document's Copy: walked. -/
import Derived.Test.YtgdbbocfiejlfaaDoorDpH
set_option linter.unusedSimpArgs false
set_option linter.unusedVariables false
set_option linter.constructorNameAsVariable false
namespace Go.Proofs.YtgdbbocfiejlfaaDoor
open Go.RowKit

/-- What lies in an own row, in blocks of which S holds. -/
def RepS (S : Nat → Prop) (h : Nat) (w : World) (xs : List (Tr h)) (vs : List C5) : Prop := vs.length = xs.length ∧ ∀ (j : Nat) (x : _) (c : C5), xs[j]? = some x → vs[j]? = some c → TLies S h w x c.arr
theorem RepS.go {S T : Nat → Prop} {h : Nat} {w w' : World} {xs : List (Tr h)} {vs : List C5} (H : RepS S h w xs vs) (hk : Kept S w w') (hST : ∀ b, S b → b < w.heap.size → T b) : RepS T h w' xs vs :=
  ⟨H.1, fun j x c hx hc => (H.2 j x c hx hc).go hk hST⟩
theorem RepS.snoc {S : Nat → Prop} {h : Nat} {w : World} {xs : List (Tr h)} {vs : List C5} (H : RepS S h w xs vs) (x : Tr h) (c : C5) (hx : TLies S h w x c.arr) : RepS S h w (xs ++ [x]) (vs ++ [c]) := by
  refine ⟨by simp [H.1], fun j y d hy hd => ?_⟩
  rcases Nat.lt_trichotomy j xs.length with h' | h' | h'
  · rw [List.getElem?_append_left h'] at hy
    rw [List.getElem?_append_left (by rw [H.1]; exact h')] at hd
    exact H.2 j y d hy hd
  · rw [List.getElem?_append_right (by omega), h'] at hy
    rw [List.getElem?_append_right (by rw [H.1]; omega), h', H.1] at hd
    simp at hy hd
    subst hy hd
    exact hx
  · rw [List.getElem?_eq_none (by simp; omega)] at hy
    cases hy
/-- In the call's own memory, apart from a row. -/
def Apart (n : Nat) (v : Value) : Nat → Prop := fun b => n ≤ b ∧ v.ownBlock ≠ some b
theorem grown_kept {w w' : World} {v : Value} {n : Nat} (hg : w.grownBy w' v.ownBlock) : Kept (Apart n v) w w' :=
  ⟨hg.size, fun b o hb hlt => World.cell?_of_block (a := ⟨b, o, none⟩) (hg.block b hlt (fun e => hb.2 e.symm))⟩
theorem set_kept {w : World} {S : Nat → Prop} {q i : Nat} {x : Value} (hS : ∀ b, S b → b ≠ q) : Kept S w (w.setCell ⟨q, i, none⟩ x) :=
  ⟨by simp, fun b o hb hlt => (by
    have hne : (⟨q, i, none⟩ : Addr) ≠ ⟨b, o, none⟩ := fun e => hS b hb (congrArg Addr.block e).symm
    rw [World.cell?_setCell_other]
    exact hne)⟩
theorem Kept.trans {S : Nat → Prop} {a b c : World} (h1 : Kept S a b) (h2 : Kept S b c) : Kept S a c := ⟨Nat.le_trans h1.size h2.size, fun q o hq hl => (h2.cell q o hq (Nat.lt_of_lt_of_le hl h1.size)).trans (h1.cell q o hq hl)⟩
theorem arr5T {cs : Array Value} (h : cs.size = 5) : ∃ a b c d e, cs = #[a, b, c, d, e] := by
  obtain ⟨l⟩ := cs
  match l, h with
  | [a, b, c, d, e], _ => exact ⟨a, b, c, d, e, rfl⟩
theorem Own5.set {base : Nat} {w : World} {v : Value} {vs : List C5} (h : Own5 base w v vs) {q : Nat} (hq : q < base) (i : Nat) (x : Value) : Own5 base (w.setCell ⟨q, i, none⟩ x) v vs := by
  refine ⟨h.1, ?_⟩
  rcases h.2 with h0 | ⟨g, cap, cur, rfl, h1, h2, h3, h4, h5, h6⟩
  · exact .inl h0
  · exact .inr ⟨g, cap, cur, rfl, h1, (show Blk _ g cur 26 from Blk.other h2 (by simp; omega) x), h3, h4, h5, h6⟩
theorem Own5.mono {base base' : Nat} {w : World} {v : Value} {vs : List C5} (h : Own5 base w v vs) (hb : base' ≤ base) : Own5 base' w v vs := by
  refine ⟨h.1, ?_⟩
  rcases h.2 with h0 | ⟨g, cap, cur, rfl, h1, h2, h3, h4, h5, h6⟩
  · exact .inl h0
  · exact .inr ⟨g, cap, cur, rfl, Nat.le_trans hb h1, h2, h3, h4, h5, h6⟩
/-- A copy whose kids are an own row. -/
def CopyOwn (base : Nat) (h : Nat) (w : World) (t : Nd (Tr h)) (ds : Array Value) : Prop := ∃ a c kv vs, ds = #[.int .i64 t.k, .string t.n, .string t.v, .slice a t.as.length c, kv] ∧ (a = none → c = 0) ∧ Own5 base w kv vs ∧ RepS (Apart base kv) h w t.ks vs ∧ PRow (Apart base kv) w a t.as
theorem CopyOwn.lies {base h : Nat} {w : World} {t : Nd (Tr h)} {ds : Array Value} (H : CopyOwn base h w t ds) (M : SmallT (h + 1) t) : TLies (fun b => base ≤ b) (h + 1) w t ds := by
  obtain ⟨a, c, kv, vs, rfl, hn, hO, hR, hP⟩ := H
  obtain ⟨m1, m2, -⟩ := M
  obtain ⟨a2, c2, rfl, hK2, hn2⟩ := own5_read hO t.ks (TLies (Apart base _) h w) hR.1 (fun i x c hx hc => hR.2 i x c hx hc)
  refine ⟨a, c, a2, c2, rfl, hn, hn2, (show t.as.length ≤ _ by have : t.as.length ≤ 400 := m1; omega), (show t.ks.length ≤ _ by have : t.ks.length ≤ 400 := m2; omega), ?_, ?_⟩
  · exact hP.on (kept_of (Below.refl _ _)) fun b hb _ => hb.1
  · exact hK2.on (kept_of (Below.refl _ _)) (fun b hb _ => hb) fun x cs hx => hx.go (kept_of (Below.refl _ _)) fun b hb _ => hb.1
set_option maxRecDepth 100000 in
set_option maxHeartbeats 4000000 in
theorem copy_own (h : Nat) (IH0 : ∀ (S : Nat → Prop) (t : Tr h) (cs : Array Value) (w : World), TLies S h w t cs → SmallT h t → Calls Tryd.prog 7 #[.agg cs] w fun e w' => (∃ ds, e = .returned (.agg ds) ∧ TLies (fun b => w.heap.size ≤ b) h w' t ds) ∧ Below w.heap.size w w')
    (S : Nat → Prop) (k : Int) (n v : ByteArray) (ps : List Pr) (ks : List (Tr h)) (cs : Array Value) (w : World) (HT : TLies S (h + 1) w (⟨k, n, v, ps, ks⟩ : Nd (Tr h)) cs) (M : SmallT (h + 1) (⟨k, n, v, ps, ks⟩ : Nd (Tr h))) :
    Calls Tryd.prog 7 #[.agg cs] w fun e w' => (∃ ds, e = .returned (.agg ds) ∧ CopyOwn w.heap.size h w' (⟨k, n, v, ps, ks⟩ : Nd (Tr h)) ds) ∧ Below w.heap.size w w' := by
    obtain ⟨aa, ca, ka, ck, H⟩ := HT
    obtain ⟨rfl, han, -, al, kl, hps, hks⟩ := H
    obtain ⟨m1, m2, m3⟩ := M
    simp only at han al kl hps hks m1 m2 m3 ⊢
    have m3 : ∀ x ∈ ks, SmallT h x := m3
    have IH := Lib.hid (fun x cx w' => IH0 S x cx w')
    clear IH0
    have HP := Lib.hid hps
    have HK := Lib.hid hks
    have HM := Lib.hid m3
    clear hps hks m3
    go_enter Tryd.func7, Tryd.ntmps7
    have hz0 : Below w.heap.size w ((w.alloc (.cells #[.int .i64 k, .string n, .string v, .slice aa ps.length ca, .slice ka ks.length ck] 26)).alloc (.cells #[.int .i64 0, .string ⟨#[]⟩, .string ⟨#[]⟩, .slice none 0 0, .slice none 0 0] 26)) := ((Below.refl _ _).alloc (Nat.le_refl _) _).alloc (by simp) _
    go_wp2_with (at_builtin; refine wpList_appP rfl _ _ rfl rfl aa ca ps rfl (HP.out.on (kept_of hz0) fun _ h _ => h) han (by omega) ?_)
    intro a' c' w3 hP3 hn3 hb3
    have B0 : Blk w3 w.heap.size #[.int .i64 k, .string n, .string v, .slice aa ps.length ca, .slice ka ks.length ck] 26 := ((Blk.new w _ _).alloc _).below hb3 (by first | omega | (simp <;> omega))
    have B1 : Blk w3 (w.heap.size + 1) #[.int .i64 0, .string ⟨#[]⟩, .string ⟨#[]⟩, .slice none 0 0, .slice none 0 0] 26 := by
      have := Blk.new (w.alloc (.cells #[.int .i64 k, .string n, .string v, .slice aa ps.length ca, .slice ka ks.length ck] 26)) #[.int .i64 0, .string ⟨#[]⟩, .string ⟨#[]⟩, .slice none 0 0, .slice none 0 0] 26
      exact Blk.below (by simpa using this) hb3 (by first | omega | (simp <;> omega))
    have hs3 : w.heap.size + 2 ≤ w3.heap.size := by have := hb3.size; (try simp at this); omega
    have hw3 : Below w.heap.size w w3 := hz0.trans (hb3.mono (by first | omega | (simp <;> omega)))
    have hP3 : PRow (fun b => w.heap.size + 2 ≤ b) w3 a' ps := hP3.on (kept_of (Below.refl _ _)) fun b h _ => (by have h' : w.heap.size + 1 + 1 ≤ b := h; omega)
    clear hb3 hz0
    have k0 := B0.lt
    have k1 := B1.lt
    obtain ⟨⟨x0, x1, x2, x3, x4⟩, f0, f1, f2, f3, f4⟩ := B0.five5
    go_wp2_with fail
    clear x0 x1 x2 x3 x4 f0 f1 f2 f3 f4
    have hP4 := hP3.on (T := fun b => w.heap.size + 2 ≤ b) (set_kept (q := w.heap.size) (i := 3) (x := .slice a' ps.length c') (fun b hb => by omega)) fun _ h _ => h
    have B0' : Blk (w3.setCell ⟨w.heap.size, 3, none⟩ (.slice a' ps.length c')) w.heap.size #[.int .i64 k, .string n, .string v, .slice a' ps.length c', .slice ka ks.length ck] 26 := B0.set 3 _
    have B1' : Blk (w3.setCell ⟨w.heap.size, 3, none⟩ (.slice a' ps.length c')) (w.heap.size + 1) #[.int .i64 0, .string ⟨#[]⟩, .string ⟨#[]⟩, .slice none 0 0, .slice none 0 0] 26 := B1.other (by simp) _
    have hw4 : Below w.heap.size w (w3.setCell ⟨w.heap.size, 3, none⟩ (.slice a' ps.length c')) := hw3.setCell (p := ⟨w.heap.size, 3, none⟩) (Nat.le_refl _) _
    have hs4 : w.heap.size + 2 ≤ (w3.setCell ⟨w.heap.size, 3, none⟩ (.slice a' ps.length c')).heap.size := by simpa using hs3
    generalize w3.setCell ⟨w.heap.size, 3, none⟩ (.slice a' ps.length c') = W at *
    clear B0 B1 k0 k1 hP3 hw3 hs3
    go_loopg [4, 5] (ks.length + 1) (fun m vv ii wr => ∃ (j : Nat) (vs : List C5), j ≤ ks.length ∧ m + j = ks.length + 1 ∧ ii = .int .i64 (j : Int) ∧ Own5 (w.heap.size + 2) wr vv vs ∧ Below (w.heap.size + 2) W wr ∧ Hid (RepS (Apart (w.heap.size + 2) vv) h wr (ks.take j) vs) ∧ Hid (PRow (Apart (w.heap.size + 2) vv) wr a' ps))
    case atStart => exact ⟨0, [], by omega, by omega, rfl, Own5.nil _ _, Below.refl _ _, ⟨rfl, fun j x c hx => by simp at hx⟩, hP4.on (kept_of (Below.refl _ _)) fun b h _ => ⟨h, fun e => by cases e⟩⟩
    case round =>
      obtain ⟨j, vs, hj, hmj, rfl, hO, hbr, HD, HQ⟩ := hrel
      have hj0 : (0 : Int) ≤ (j : Int) := Int.natCast_nonneg _
      have hwr : Below w.heap.size w wr := hw4.trans (hbr.mono (by omega))
      have hsr : w.heap.size + 2 ≤ wr.heap.size := Nat.le_trans hs4 hbr.size
      have B0 := B0'.below hbr (by omega)
      have B1 := B1'.below hbr (by omega)
      have k0 := B0.lt
      have k1 := B1.lt
      obtain ⟨⟨x0, x1, x2, x3, x4⟩, f0, f1, f2, f3, f4⟩ := B0.five5
      by_cases hlt : j < ks.length
      · have i0 : decide ((j : Int) < (ks.length : Int)) = true := by simp; omega
        have i6 : (j : Int) < (ks.length : Int) := by omega
        obtain ⟨p, hjp⟩ : ∃ p, ks[j]? = some p := ⟨ks[j], by simp [hlt]⟩
        rcases HK.out with h0 | ⟨b, of, rfl, hb, -, hc⟩
        · rw [h0] at hlt; simp at hlt
        obtain ⟨c0, c1, c2, c3, c4, u0, u1, u2, u3, u4, hx⟩ := hc j p hjp
        have CX := Lib.hid (IH.out p _ wr (hx.on hwr) (HM.out p (List.mem_of_getElem? hjp)))
        replace u0 := (hwr.cell (p := ⟨b, of + j * 5, none⟩) hb).trans u0
        replace u1 := (hwr.cell (p := ⟨b, of + j * 5 + 1, none⟩) hb).trans u1
        replace u2 := (hwr.cell (p := ⟨b, of + j * 5 + 2, none⟩) hb).trans u2
        replace u3 := (hwr.cell (p := ⟨b, of + j * 5 + 3, none⟩) hb).trans u3
        replace u4 := (hwr.cell (p := ⟨b, of + j * 5 + 4, none⟩) hb).trans u4
        have lb := Nat.lt_of_lt_of_le hb hwr.size
        have HO := Lib.hid hO
        have HT := Lib.hid (take_one ks j p hjp)
        have hvl : vs.length = j := by rw [HD.out.1, List.length_take]; omega
        clear hc hx hjp hO
        go_wp2_with (first
          | (go_at_call 7; with_reducible refine CX.out.mono ?_; rintro e w5 ⟨⟨ds, rfl, hT⟩, hb5⟩
             obtain ⟨d0, d1, d2, d3, d4, rfl⟩ := arr5T hT.size
             have hO5 := HO.out.below hb5 HO.out.lt
             clear x0 x1 x2 x3 x4 u0 u1 u2 u3 u4 f0 f1 f2 f3 f4 CX)
          | (at_builtin; refine wpList_app5f rfl _ _ rfl (w.heap.size + 2) _ vs rfl (World.ownsRow.alloc hO5 _) w5.heap.size _ ⟨d0, d1, d2, d3, d4⟩ rfl hT.one (Blk.new _ _ _) (by omega) (by have := hb5.size; first | omega | (simp <;> omega)) ?_))
        intro v' w6 hO6 hg6 hf6
        have hT5 : TLies (Apart (w.heap.size + 2) _) h w5 p #[d0, d1, d2, d3, d4] := hT.go (kept_of (Below.refl _ _)) fun b hb _ => ⟨Nat.le_trans hsr hb, fun e => by have := HO.out.lt b e; omega⟩
        have K1 : Kept (Apart (w.heap.size + 2) _) w5 w6 := (kept_of ((Below.refl w5.heap.size w5).alloc (Nat.le_refl _) _)).trans (grown_kept hg6)
        have hST : ∀ b, Apart (w.heap.size + 2) _ b → b < w5.heap.size → Apart (w.heap.size + 2) v' b := fun b hb hl => ⟨hb.1, fun e => by
          rcases hf6 b e with h | h
          · exact hb.2 h
          · (try simp at h); omega⟩
        have HD5 := (HD.out.go (T := Apart (w.heap.size + 2) _) (kept_of hb5) fun _ h _ => h).snoc p ⟨d0, d1, d2, d3, d4⟩ hT5
        have HD6 := HD5.go K1 hST
        rw [← HT.out] at HD6
        have HQ6 := (HQ.out.on (T := Apart (w.heap.size + 2) _) (kept_of hb5) fun _ h _ => h).on K1 hST
        have hw6 : Below (w.heap.size + 2) W w6 := ((hbr.trans (hb5.mono (by omega))).alloc (by have := hb5.size; omega) _).trans (Own5.grown (World.ownsRow.alloc hO5 _) hg6 (Nat.le_refl _) (by have := hb5.size; first | omega | (simp <;> omega)))
        have HD7 := Lib.hid HD6
        have HQ7 := Lib.hid HQ6
        clear HD6 HQ6 HD5 hT5 K1 hST hf6 hg6 hT hO5 HO HD HQ
        go_wp2_with fail
        go_roundg (gk - 1)
        case measure => omega
        case rel => exact ⟨j + 1, _, by omega, by omega, by go_num, hO6, hw6, HD7, HQ7⟩
      · have i0 : decide ((j : Int) < (ks.length : Int)) = false := by simp; omega
        have hd := HD.out
        rw [List.take_of_length_le (by omega)] at hd
        have HOO := Lib.hid hO
        obtain ⟨a2, c2, rfl, hK2, hn2⟩ := own5_read hO ks (TLies (Apart (w.heap.size + 2) _) h wr) hd.1 (fun i x c hx hc => hd.2 i x c hx hc)
        have hq := HQ.out
        have f10 := B1.free 0
        have f11 := B1.free 1
        have f12 := B1.free 2
        have f13 := B1.free 3
        have f14 := B1.free 4
        obtain ⟨⟨y0, y1, y2, y3, y4⟩, -⟩ := B1.five5
        have HH := Lib.hid (And.intro hd hq)
        clear HD HQ hO hd hK2 hq
        go_wp2_with fail
        have BF : Blk ((((((wr.setCell ⟨w.heap.size, 4, none⟩ (.slice a2 ks.length c2)).setCell ⟨w.heap.size + 1, 0, none⟩ (.int .i64 k)).setCell ⟨w.heap.size + 1, 1, none⟩ (.string n)).setCell ⟨w.heap.size + 1, 2, none⟩ (.string v)).setCell ⟨w.heap.size + 1, 3, none⟩ (.slice a' ps.length c')).setCell ⟨w.heap.size + 1, 4, none⟩ (.slice a2 ks.length c2)) (w.heap.size + 1) #[.int .i64 k, .string n, .string v, .slice a' ps.length c', .slice a2 ks.length c2] 26 := (((((B1.other (a := ⟨w.heap.size, 4, none⟩) (by simp) (.slice a2 ks.length c2)).set 0 (.int .i64 k)).set 1 (.string n)).set 2 (.string v)).set 3 (.slice a' ps.length c')).set 4 (.slice a2 ks.length c2)
        have hK : ∀ S : Nat → Prop, (∀ b, S b → w.heap.size + 2 ≤ b) → Kept S wr ((((((wr.setCell ⟨w.heap.size, 4, none⟩ (.slice a2 ks.length c2)).setCell ⟨w.heap.size + 1, 0, none⟩ (.int .i64 k)).setCell ⟨w.heap.size + 1, 1, none⟩ (.string n)).setCell ⟨w.heap.size + 1, 2, none⟩ (.string v)).setCell ⟨w.heap.size + 1, 3, none⟩ (.slice a' ps.length c')).setCell ⟨w.heap.size + 1, 4, none⟩ (.slice a2 ks.length c2)) := fun S hS =>
          (((((set_kept fun b hb => by have := hS b hb; omega).trans (set_kept fun b hb => by have := hS b hb; omega)).trans (set_kept fun b hb => by have := hS b hb; omega)).trans (set_kept fun b hb => by have := hS b hb; omega)).trans (set_kept fun b hb => by have := hS b hb; omega)).trans (set_kept fun b hb => by have := hS b hb; omega)
        have hwF : Below w.heap.size w ((((((wr.setCell ⟨w.heap.size, 4, none⟩ (.slice a2 ks.length c2)).setCell ⟨w.heap.size + 1, 0, none⟩ (.int .i64 k)).setCell ⟨w.heap.size + 1, 1, none⟩ (.string n)).setCell ⟨w.heap.size + 1, 2, none⟩ (.string v)).setCell ⟨w.heap.size + 1, 3, none⟩ (.slice a' ps.length c')).setCell ⟨w.heap.size + 1, 4, none⟩ (.slice a2 ks.length c2)) := (((((hwr.setCell (p := ⟨w.heap.size, 4, none⟩) (Nat.le_refl _) _).setCell (p := ⟨w.heap.size + 1, 0, none⟩) (by simp) _).setCell (p := ⟨w.heap.size + 1, 1, none⟩) (by simp) _).setCell (p := ⟨w.heap.size + 1, 2, none⟩) (by simp) _).setCell (p := ⟨w.heap.size + 1, 3, none⟩) (by simp) _).setCell (p := ⟨w.heap.size + 1, 4, none⟩) (by simp) _
        have HOF : Own5 (w.heap.size + 2) ((((((wr.setCell ⟨w.heap.size, 4, none⟩ (.slice a2 ks.length c2)).setCell ⟨w.heap.size + 1, 0, none⟩ (.int .i64 k)).setCell ⟨w.heap.size + 1, 1, none⟩ (.string n)).setCell ⟨w.heap.size + 1, 2, none⟩ (.string v)).setCell ⟨w.heap.size + 1, 3, none⟩ (.slice a' ps.length c')).setCell ⟨w.heap.size + 1, 4, none⟩ (.slice a2 ks.length c2)) (.slice a2 ks.length c2) vs := (((((HOO.out.set (by omega) _ _).set (by omega) _ _).set (by omega) _ _).set (by omega) _ _).set (by omega) _ _).set (by omega) _ _
        generalize ((((((wr.setCell ⟨w.heap.size, 4, none⟩ (.slice a2 ks.length c2)).setCell ⟨w.heap.size + 1, 0, none⟩ (.int .i64 k)).setCell ⟨w.heap.size + 1, 1, none⟩ (.string n)).setCell ⟨w.heap.size + 1, 2, none⟩ (.string v)).setCell ⟨w.heap.size + 1, 3, none⟩ (.slice a' ps.length c')).setCell ⟨w.heap.size + 1, 4, none⟩ (.slice a2 ks.length c2)) = WF at *
        obtain ⟨⟨z0, z1, z2, z3, z4⟩, -⟩ := BF.five5
        refine bodyPost_ret (v := .agg #[.int .i64 k, .string n, .string v, .slice a' ps.length c', .slice a2 ks.length c2]) (by simp [results, Tryd.results7, go_sem, z0, z1, z2, z3, z4]) rfl ⟨⟨_, rfl, a', c', _, vs, rfl, hn3, HOF.mono (by omega), ?_, ?_⟩, hwF⟩
        · exact HH.out.1.go (hK _ fun b hb => hb.1) fun b hb _ => ⟨Nat.le_trans (Nat.le_add_right _ _) hb.1, hb.2⟩
        · exact HH.out.2.on (hK _ fun b hb => hb.1) fun b hb _ => ⟨Nat.le_trans (Nat.le_add_right _ _) hb.1, hb.2⟩
theorem copy_any : ∀ (h : Nat) (S : Nat → Prop) (t : Tr h) (cs : Array Value) (w : World), TLies S h w t cs → SmallT h t → Calls Tryd.prog 7 #[.agg cs] w fun e w' => (∃ ds, e = .returned (.agg ds) ∧ TLies (fun b => w.heap.size ≤ b) h w' t ds) ∧ Below w.heap.size w w'
  | 0, _, t, _, _, _, _ => nomatch t
  | h + 1, S, (⟨k, n, v, ps, ks⟩ : Nd (Tr h)), cs, w, HT, M =>
    (copy_own h (copy_any h) S k n v ps ks cs w HT M).mono fun e w' ⟨⟨ds, h1, h2⟩, h3⟩ => ⟨⟨ds, h1, h2.lies M⟩, h3⟩
theorem copy_cells (h : Nat) (k : Int) (n v : ByteArray) (ps : List Pr) (ks : List (Tr h)) (np nk : Nat) (hnp : ps.length = np) (hnk : ks.length = nk) (aa : Option Addr) (ca : Nat) (ka : Option Addr) (ck : Nat) (w : World)
    (HT : TLies All (h + 1) w (⟨k, n, v, ps, ks⟩ : Nd (Tr h)) #[.int .i64 k, .string n, .string v, .slice aa np ca, .slice ka nk ck]) (M : SmallT (h + 1) (⟨k, n, v, ps, ks⟩ : Nd (Tr h))) :
    Calls Tryd.prog 7 #[.agg #[.int .i64 k, .string n, .string v, .slice aa np ca, .slice ka nk ck]] w fun e w' => (∃ a' c' a2 c2 vs, e = .returned (.agg #[.int .i64 k, .string n, .string v, .slice a' np c', .slice a2 nk c2]) ∧ (a' = none → c' = 0) ∧ Own5 w.heap.size w' (.slice a2 nk c2) vs ∧ RepS (Apart w.heap.size (.slice a2 nk c2)) h w' ks vs ∧ PRow (Apart w.heap.size (.slice a2 nk c2)) w' a' ps) ∧ Below w.heap.size w w' := by
  refine (copy_own h (copy_any h) All k n v ps ks _ w HT M).mono ?_
  rintro e w' ⟨⟨ds, rfl, a', c', kv, vs, rfl, h1, h2, h3, h4⟩, hb⟩
  obtain ⟨a2, c2, rfl, -, -⟩ := own5_read h2 ks (TLies (Apart w.heap.size _) h w') h3.1 (fun i x c hx hc => h3.2 i x c hx hc)
  subst hnp hnk
  exact ⟨⟨a', c', a2, c2, vs, rfl, h1, h2, h3, h4⟩, hb⟩
end Go.Proofs.YtgdbbocfiejlfaaDoor

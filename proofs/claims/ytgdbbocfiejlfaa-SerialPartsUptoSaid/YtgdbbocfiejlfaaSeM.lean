/- A tree is laid. -/
import Derived.Test.YtgdbbocfiejlfaaSeL
import Derived.Test.YtgdbbocfiejlfaaLoC
set_option linter.unusedSimpArgs false
set_option linter.unusedVariables false
set_option linter.constructorNameAsVariable false
namespace Go.Proofs.Ytgdbbocfiejlfaa
open Go.RowKit

abbrev RB (w w' : World) : Prop := Below w.heap.size w w'
/-- put at texts that the call has just laid. -/
theorem put_new (B b n c q : Nat) (ok : Bool) (bs : List UInt8) (xs : List ByteArray) (cs : Array Value) (w : World) (h : WB B b ok bs w) (hcs : (xs.map Value.string).toArray = cs) (hn : xs.length = n) (hlen : bs.length + (catF xs).length ≤ 140737488355328) (hxl : n ≤ 1000000) (hq : w.heap.size = q) (hBw : B ≤ w.heap.size) :
    Calls Try.prog 12 #[.pointer (some ⟨b, 0, none⟩), .slice (some ⟨q, 0, none⟩) n c] (w.alloc (.cells cs 9)) fun e w' => e = .returned (.tuple #[]) ∧ WB B b ok (bs ++ catF xs) w' ∧ WK B w w' := by
  subst hcs hn hq
  have hb : Below w.heap.size w (w.alloc (.cells (xs.map Value.string).toArray 9)) := (Below.refl _ _).alloc (Nat.le_refl _) _
  refine (put_any B b w.heap.size c ok bs xs _ (h.on hb) (Blk.new _ _ _) hlen (by have := hb.size; omega) hxl).mono ?_
  rintro e w' ⟨h1, h2, h3⟩
  exact ⟨h1, h2, (WK.of hb hBw).trans h3⟩
/-- Five texts, laid. -/
def MP5s (s : ByteArray) (l : List UInt8) : RC.MP RB := ⟨fun v w => ∃ q, v = .slice (some ⟨q, 0, none⟩) 5 5 ∧ Blk w q #[.string ⟨#[32]⟩, .string s, .string ⟨#[61, 34]⟩, .string ⟨l.toArray⟩, .string ⟨#[34]⟩] 9, fun _ _ _ ⟨q, h1, h2⟩ hr => ⟨q, h1, h2.below hr h2.lt⟩⟩
theorem put_blk (B b n c q : Nat) (ok : Bool) (bs : List UInt8) (xs : List ByteArray) (cs : Array Value) (w : World) (h : WB B b ok bs w) (hB : Blk w q cs 9) (hcs : (xs.map Value.string).toArray = cs) (hn : xs.length = n) (hlen : bs.length + (catF xs).length ≤ 140737488355328) (hxl : n ≤ 1000000) (hBw : B ≤ w.heap.size) :
    Calls Try.prog 12 #[.pointer (some ⟨b, 0, none⟩), .slice (some ⟨q, 0, none⟩) n c] w fun e w' => e = .returned (.tuple #[]) ∧ WB B b ok (bs ++ catF xs) w' ∧ WK B w w' := by
  subst hcs hn
  exact put_any B b q c ok bs xs w h hB hlen hBw hxl
theorem catF_app (xs ys : List ByteArray) : catF (xs ++ ys) = catF xs ++ catF ys := List.flatMap_append
theorem attrs_snoc (ps : List Pr) (j : Nat) (p : Pr) (h : ps[j]? = some p) : attrsO (ps.take (j + 1)) = attrsO (ps.take j) ++ attrF p := by
  unfold attrsO
  rw [take_one ps j p h, List.flatMap_append]
  simp
theorem attrs_take (ps : List Pr) (j : Nat) : (attrsO (ps.take j)).length ≤ (attrsO ps).length := by
  conv => rhs; rw [← List.take_append_drop j ps]
  unfold attrsO
  rw [List.flatMap_append, List.length_append]
  omega
theorem WB.setok {B b : Nat} {ok : Bool} {bs : List UInt8} {w : World} (h : WB B b ok bs w) (ok' : Bool) : WB B b ok' bs (w.setCell ⟨b, 2, none⟩ (.bool ok')) ∧ WK B w (w.setCell ⟨b, 2, none⟩ (.bool ok')) := by
  obtain ⟨p, v, hB, hp, ho⟩ := h.ex
  refine ⟨⟨h.le, p, v, hB.set 2 _, hp, own_set ho (own_type ho hB neWB) 2 _⟩, (Below.refl B w).setCell (p := ⟨b, 2, none⟩) h.le _, fun q cs t ht hq => hq.other (a := ⟨b, 2, none⟩) (fun e => ?_) _⟩
  obtain rfl : q = b := e
  unfold Blk at hq hB
  rw [hB] at hq
  simp only [Option.some.injEq, Obj.cells.injEq] at hq
  rw [← hq.2.1] at ht
  simp at ht
theorem sizeL {s : ByteArray} {L : Nat} (h : s.size ≤ L) : s.data.toList.length ≤ L := h
set_option maxRecDepth 100000 in
set_option maxHeartbeats 8000000 in
theorem tree_step (h : Nat) (IH : TreeC h) : TreeC (h + 1) := by
  intro t cs B b ok bs w m HW HT HS hlen hBw hB0 hm
  obtain ⟨k, n, v, ps, ks⟩ : Nd (Tr h) := t
  obtain ⟨aa, ca, ka, ck, H⟩ := HT
  obtain ⟨rfl, -, -, al, kl, hps, hks⟩ := H
  obtain ⟨sn, sv, sp, sk⟩ := HS
  simp only at al kl hps hks sn sv sp sk
  have sk : ∀ x ∈ ks, StrOk 1048576 h x := sk
  have hlen : bs.length + (nodeO (outF h) ⟨k, n, v, ps, ks⟩).length ≤ 140737488355328 := hlen
  show Calls Try.prog 10 #[.pointer (some ⟨b, 0, none⟩), .agg #[.int .i64 k, .string n, .string v, .slice aa ps.length ca, .slice ka ks.length ck]] w fun e w' => e = .returned (.tuple #[]) ∧ WB B b (ok && nodeK (okF h) ⟨k, n, v, ps, ks⟩) (bs ++ nodeO (outF h) ⟨k, n, v, ps, ks⟩) w' ∧ WK B w w'
  have BX := Blk.new w #[.int .i64 k, .string n, .string v, .slice aa ps.length ca, .slice ka ks.length ck] 31
  have hbx : Below w.heap.size w (w.alloc (.cells #[.int .i64 k, .string n, .string v, .slice aa ps.length ca, .slice ka ks.length ck] 31)) := (Below.refl _ _).alloc (Nat.le_refl _) _
  have hkx := WK.of hbx hBw
  have hwx := HW.on hbx
  have hsx : (w.alloc (.cells #[.int .i64 k, .string n, .string v, .slice aa ps.length ca, .slice ka ks.length ck] 31)).heap.size = w.heap.size + 1 := by simp
  have hTr := Lib.hid (fun (ok' : Bool) (bs' : List UInt8) (w' : World) (hbl : Below B w w') (h1 : WB B b ok' bs' w') (h2 : bs'.length + (outs h ks).length ≤ 140737488355328) => trees_any h IH ks ka ck B b ok' bs' w' m h1 (KRow.on hks (keptB hbl) (fun _ h _ => h) fun x cs hx => hx.go (keptB hbl) fun _ h _ => h) kl sk h2 (Nat.le_trans hBw hbl.size) hB0 ((hbl.cell (p := ⟨0, 0, none⟩) hB0).trans hm))
  have hP := Lib.hid hps
  have hM := Lib.hid (fun (w' : World) (hbl : Below B w w') => (hbl.cell (p := ⟨0, 0, none⟩) hB0).trans hm)
  have hSP := Lib.hid sp
  clear IH hks hps sp sk HW hm hbx
  cases e1 : (k == 1)
  · cases e2 : (k == 2)
    · cases e4 : (k == 4)
      · cases e5 : (k == 5)
        · have e0 : nodeO (outF h) ⟨k, n, v, ps, ks⟩ = [] := by
            unfold nodeO
            rw [e1, e2, e4, e5]
            rfl
          have ek : nodeK (okF h) ⟨k, n, v, ps, ks⟩ = false := by
            unfold nodeK
            rw [e1, e2, e4, e5]
            rfl
          rw [e0, ek, List.append_nil, Bool.and_false]
          obtain ⟨p0, v0, hBW, -, -⟩ := hwx.ex
          have f2 := hBW.free 2
          have q2 := hBW.cell 2
          simp at q2
          have kb := hBW.lt
          obtain ⟨⟨c0, c1, c2, c3, c4⟩, -⟩ := BX.five5
          have kx := BX.lt
          have HF := Lib.hid (And.intro (hwx.setok false).1 (hkx.trans (hwx.setok false).2))
          clear hwx hkx hTr hP hM hSP BX hBW e0 ek
          go_enter Try.func10, Try.ntmps10
          go_wp2_with fail
          go_end0
          exact ⟨rfl, HF.out⟩
        · have e0 : nodeO (outF h) ⟨k, n, v, ps, ks⟩ = catF [⟨#[60, 33, 45, 45]⟩, v, ⟨#[45, 45, 62]⟩] := by
            unfold nodeO
            rw [e1, e2, e4, e5]
            rfl
          have ek : nodeK (okF h) ⟨k, n, v, ps, ks⟩ = !Lib.contains (bsl (v ++ ⟨#[45]⟩)) (bsl ⟨#[45, 45]⟩) := by
            unfold nodeK
            rw [e1, e2, e4, e5]
            rfl
          rw [e0] at hlen ⊢
          rw [ek]
          have hcs : (v ++ ⟨#[45]⟩ : ByteArray).size < 4294967281 := by
            rw [ByteArray.size_append]
            show v.size + 1 < 4294967281
            omega
          have CC0 := fun w' hm => Try.strings_Contains (v ++ ⟨#[45]⟩) ⟨#[45, 45]⟩ m w' hcs hm
          obtain ⟨cc, hcc⟩ : ∃ cc, Lib.contains (v ++ ⟨#[45]⟩ : ByteArray).data.toList (⟨#[45, 45]⟩ : ByteArray).data.toList = cc := ⟨_, rfl⟩
          rw [hcc] at CC0
          have hcc2 : Lib.contains (bsl (v ++ ⟨#[45]⟩)) (bsl ⟨#[45, 45]⟩) = cc := hcc
          rw [hcc2]
          have CC := Lib.hid CC0
          clear CC0 hcc hcc2
          have CP := Lib.hid (fun w' q ok' h1 hq h2 => put_new B b 3 3 q ok' bs [⟨#[60, 33, 45, 45]⟩, v, ⟨#[45, 45, 62]⟩] #[.string ⟨#[60, 33, 45, 45]⟩, .string v, .string ⟨#[45, 45, 62]⟩] w' h1 rfl rfl hlen (by decide) hq h2)
          have hmx := hM.out _ hkx.bl
          obtain ⟨p0, v0, hBW, -, -⟩ := hwx.ex
          have f2 := hBW.free 2
          have q2 := hBW.cell 2
          simp at q2
          have kb := hBW.lt
          obtain ⟨⟨c0, c1, c2, c3, c4⟩, -⟩ := BX.five5
          have kx := BX.lt
          have hne : b ≠ w.heap.size := by
            intro e9
            unfold Blk at hBW BX
            rw [e9, BX] at hBW
            simp at hBW
          have hne2 : w.heap.size ≠ b := Ne.symm hne
          have HW := Lib.hid hwx
          have HK := Lib.hid hkx
          have hnot := not_run
          clear hwx hkx hTr hP hM hSP BX e0 ek hlen hBW
          go_enter Try.func10, Try.ntmps10
          cases ok
          · go_wp2_with fail
            generalize w.alloc (.cells #[.int .i64 k, .string n, .string v, .slice aa ps.length ca, .slice ka ks.length ck] 31) = W at *
            have hs := HW.out.setok false
            have hk2 := HK.out.trans hs.2
            with_reducible refine (CP.out _ (w.heap.size + 1) false hs.1 (by simp [hsx]) (Nat.le_trans hBw hk2.bl.size)).mono ?_
            rintro e w2 ⟨rfl, hw2, hk3⟩
            have HF := Lib.hid (And.intro hw2 (hk2.trans hk3))
            clear hs hw2 hk2 hk3
            go_wp2_with fail
            go_end0
            exact ⟨rfl, HF.out⟩
          · go_wp2_with fail
            generalize w.alloc (.cells #[.int .i64 k, .string n, .string v, .slice aa ps.length ca, .slice ka ks.length ck] 31) = W at *
            with_reducible refine (CC.out _ hmx).mono ?_
            rintro e w1 ⟨rfl, rfl⟩
            have hs := HW.out.setok (!cc)
            have hk2 := HK.out.trans hs.2
            go_wp2_with fail
            with_reducible refine (CP.out _ (w.heap.size + 1) _ hs.1 (by simp [hsx]) (Nat.le_trans hBw hk2.bl.size)).mono ?_
            rintro e w2 ⟨rfl, hw2, hk3⟩
            have HF := Lib.hid (And.intro hw2 (hk2.trans hk3))
            clear hs hw2 hk2 hk3
            go_wp2_with fail
            go_end0
            exact ⟨rfl, HF.out⟩
      · have e0 : nodeO (outF h) ⟨k, n, v, ps, ks⟩ = catF [⟨(escF tabE (bsl v)).toArray⟩] := by
          unfold nodeO
          rw [e1, e2, e4]
          rfl
        have ek : nodeK (okF h) ⟨k, n, v, ps, ks⟩ = true := by
          unfold nodeK
          rw [e1, e2, e4]
          rfl
        rw [e0] at hlen ⊢
        rw [ek, Bool.and_true]
        have CE := Lib.hid (fun w' => escape_any v w' (Nat.le_trans (sizeL sv) (by decide)))
        have CP := Lib.hid (fun w' h1 h2 => put_new B b 1 1 _ ok bs [⟨(escF tabE (bsl v)).toArray⟩] #[.string ⟨(escF tabE v.data.toList).toArray⟩] w' h1 rfl rfl hlen (by decide) rfl h2)
        obtain ⟨⟨c0, c1, c2, c3, c4⟩, -⟩ := BX.five5
        have kx := BX.lt
        have HW := Lib.hid hwx
        have HK := Lib.hid hkx
        clear hwx hkx hTr hP hM hSP BX e0 ek hlen
        go_enter Try.func10, Try.ntmps10
        go_wp2_with fail
        generalize w.alloc (.cells #[.int .i64 k, .string n, .string v, .slice aa ps.length ca, .slice ka ks.length ck] 31) = W at *
        with_reducible refine (CE.out _).mono ?_
        rintro e w1 ⟨rfl, hb1⟩
        have hBW' := Nat.le_trans hBw HK.out.bl.size
        have hw1 := HW.out.on hb1
        have hk1 := HK.out.trans (WK.of hb1 hBW')
        go_wp2_with fail
        with_reducible refine (CP.out w1 hw1 (Nat.le_trans hBw hk1.bl.size)).mono ?_
        rintro e w2 ⟨rfl, hw2, hk2⟩
        have HF := Lib.hid (And.intro hw2 (hk1.trans hk2))
        clear hw1 hw2 hk1 hk2 hb1
        go_wp2_with fail
        go_end0
        exact ⟨rfl, HF.out⟩
    · obtain ⟨E, hE⟩ : ∃ E, (if ks.length == 0 then catF [⟨#[47, 62]⟩] else catF [⟨#[62]⟩] ++ outs h ks ++ catF [⟨#[60, 47]⟩, n, ⟨#[62]⟩]) = E := ⟨_, rfl⟩
      have e0 : nodeO (outF h) ⟨k, n, v, ps, ks⟩ = catF [⟨#[60]⟩, n] ++ attrsO ps ++ E := by
        unfold nodeO
        rw [e1, e2, ← hE]
        rfl
      have ek : nodeK (okF h) ⟨k, n, v, ps, ks⟩ = oks h ks := by
        unfold nodeK
        rw [e1, e2]
        rfl
      rw [e0] at hlen ⊢
      rw [ek]
      rw [List.length_append, List.length_append] at hlen
      have HE := Lib.hid hE
      have CP := Lib.hid (put_new B b 2 2 (w.heap.size + 1) ok bs [⟨#[60]⟩, n] #[.string ⟨#[60]⟩, .string n] _ hwx rfl rfl (by omega) (by decide) hsx (Nat.le_trans hBw hkx.bl.size))
      have HX := Lib.hid BX
      obtain ⟨⟨c0, c1, c2, c3, c4⟩, -⟩ := BX.five5
      have kx := BX.lt
      have HK := Lib.hid hkx
      clear hwx hkx hM BX e0 ek hE
      go_enter Try.func10, Try.ntmps10
      go_wp2_with fail
      generalize w.alloc (.cells #[.int .i64 k, .string n, .string v, .slice aa ps.length ca, .slice ka ks.length ck] 31) = W at *
      with_reducible refine CP.out.mono ?_
      rintro e w1 ⟨rfl, hw1, hk1⟩
      have HX1 := Lib.hid (hk1.oth _ _ _ (by decide) HX.out)
      have HW1 := Lib.hid hw1
      have HK1 := Lib.hid (HK.out.trans hk1)
      have hz1 := hk1.bl.size
      obtain ⟨⟨d0, d1, d2, d3, d4⟩, -⟩ := HX1.out.five5
      have kx1 := HX1.out.lt
      clear c0 c1 c2 c3 c4 kx hw1 hk1 CP HX HK
      go_wp2_with fail
      go_loopg [27] (ps.length + 1) (fun gm ii wr => ∃ j : Nat, j ≤ ps.length ∧ gm + j = ps.length + 1 ∧ ii = .int .i64 (j : Int) ∧ Hid (WB B b ok (bs ++ catF [⟨#[60]⟩, n] ++ attrsO (ps.take j)) wr ∧ WK B w1 wr))
      case atStart => exact ⟨0, by omega, by omega, rfl, by unfold Hid; rw [List.take_zero]; exact ⟨by simpa [attrsO] using HW1.out, WK.refl _ _⟩⟩
      case round =>
        obtain ⟨j, hj, hmj, rfl, HD⟩ := hrel
        have hj0 : (0 : Int) ≤ (j : Int) := Int.natCast_nonneg _
        have hkw := HK1.out.trans HD.out.2
        have hBr := Nat.le_trans hBw hkw.bl.size
        have HXr := Lib.hid (HD.out.2.oth _ _ _ (by decide) HX1.out)
        by_cases hlt : j < ps.length
        · have i0 : decide ((j : Int) < (ps.length : Int)) = true := by simp; omega
          have i6 : (j : Int) < (ps.length : Int) := by omega
          obtain ⟨⟨s, t⟩, hjx⟩ : ∃ x, ps[j]? = some x := ⟨_, List.getElem?_eq_getElem hlt⟩
          rcases hP.out with h0 | ⟨q, o, rfl, hq, hqB, hc⟩
          · rw [h0] at hlt; simp at hlt
          obtain ⟨u0, u1⟩ := hc j (s, t) hjx
          simp only at u0 u1
          replace u0 := (hkw.bl.cell (p := ⟨q, o + j * 2, none⟩) hqB).trans u0
          replace u1 := (hkw.bl.cell (p := ⟨q, o + j * 2 + 1, none⟩) hqB).trans u1
          have lq := Nat.lt_of_lt_of_le hq hkw.bl.size
          have hsn := attrs_snoc ps j (s, t) hjx
          have hle := attrs_take ps (j + 1)
          rw [hsn, List.length_append] at hle
          have hst := hSP.out (s, t) (List.mem_of_getElem? hjx)
          have hfit : (bs ++ catF [⟨#[60]⟩, n] ++ attrsO (ps.take j)).length + (catF [⟨#[32]⟩, s, ⟨#[61, 34]⟩, ⟨(escF tabV t.data.toList).toArray⟩, ⟨#[34]⟩]).length ≤ 140737488355328 := by
            have h9 : (attrF (s, t)).length = (catF [⟨#[32]⟩, s, ⟨#[61, 34]⟩, ⟨(escF tabV t.data.toList).toArray⟩, ⟨#[34]⟩]).length := rfl
            rw [List.length_append, List.length_append]
            omega
          have CV := Lib.hid (fun w' => value_any t w' (Nat.le_trans (sizeL hst.2) (by decide)))
          have BP := Blk.new wr #[.string s, .string t] 34
          have hbp : Below wr.heap.size wr (wr.alloc (.cells #[.string s, .string t] 34)) := (Below.refl _ _).alloc (Nat.le_refl _) _
          have HSN := Lib.hid hsn
          have hWp := HD.out.1.on hbp
          have hKp := Lib.hid (HD.out.2.trans (WK.of hbp hBr))
          have hBp := Nat.le_trans hBr hbp.size
          clear hc hjx hsn hle hst HD hkw hbp d0 d1 d2 d3 d4
          go_wp2_with fail
          generalize wr.alloc (.cells #[.string s, .string t] 34) = WP at *
          obtain ⟨⟨a0, a1⟩, -⟩ := BP.two2
          have kp := BP.lt
          have HWP := Lib.hid hWp
          clear hWp BP
          refine RC.region_steps (R := RB) 7 [some 31, some 32, some 33, some 34, some 35, some 36, some 37] (fun _ _ => True) (fun a b c h1 h2 => h1.trans (h2.mono h1.size)) (fun w => below_drewN (Below.refl _ w) 1) (fun _ => trivial) (by kernel_rfl) (by kernel_rfl) ?_
          -- 0: Op.move (Operand.tmp 0)
          apply RC.ls_val (fun _ _ _ _ _ _ => trivial)
          · intro x w' hb hpre K hK
            have z0 := (hb.cell (p := ⟨wr.heap.size, 0, none⟩) kp).trans a0
            have z1 := (hb.cell (p := ⟨wr.heap.size, 1, none⟩) kp).trans a1
            have zs := hb.size
            clear hpre
            simp only [frL, Act.put, List.setIfInBounds_toArray, List.set_cons_zero, List.set_cons_succ, Nat.zero_add, Nat.reduceAdd] at hK ⊢
            have HK := Lib.hid hK
            clear hK
            refine Held.mk ?_
            go_simp
            exact HK.out _ (Below.refl _ _)
          -- 1: Op.fieldAddr 34 (Operand.tmp 5) 0
          apply RC.ls_val (fun _ _ _ _ _ _ => trivial)
          · intro x w' hb hpre K hK
            have z0 := (hb.cell (p := ⟨wr.heap.size, 0, none⟩) kp).trans a0
            have z1 := (hb.cell (p := ⟨wr.heap.size, 1, none⟩) kp).trans a1
            have zs := hb.size
            clear hpre
            simp only [frL, Act.put, List.setIfInBounds_toArray, List.set_cons_zero, List.set_cons_succ, Nat.zero_add, Nat.reduceAdd] at hK ⊢
            have HK := Lib.hid hK
            clear hK
            refine Held.mk ?_
            go_simp
            exact HK.out _ (Below.refl _ _)
          -- 2: Op.load 9 (Operand.tmp 32)
          apply RC.ls_val (fun _ _ _ _ _ _ => trivial)
          · intro x w' hb hpre K hK
            have z0 := (hb.cell (p := ⟨wr.heap.size, 0, none⟩) kp).trans a0
            have z1 := (hb.cell (p := ⟨wr.heap.size, 1, none⟩) kp).trans a1
            have zs := hb.size
            simp [preds, Region.binds, RC.phi, RC.MP.val] at hpre
            simp only [frL, Act.put, List.setIfInBounds_toArray, List.set_cons_zero, List.set_cons_succ, Nat.zero_add, Nat.reduceAdd, hpre] at hK ⊢
            have HK := Lib.hid hK
            clear hK
            refine Held.mk ?_
            go_simp
            exact HK.out _ (Below.refl _ _)
          -- 3: Op.fieldAddr 34 (Operand.tmp 5) 1
          apply RC.ls_val (fun _ _ _ _ _ _ => trivial)
          · intro x w' hb hpre K hK
            have z0 := (hb.cell (p := ⟨wr.heap.size, 0, none⟩) kp).trans a0
            have z1 := (hb.cell (p := ⟨wr.heap.size, 1, none⟩) kp).trans a1
            have zs := hb.size
            clear hpre
            simp only [frL, Act.put, List.setIfInBounds_toArray, List.set_cons_zero, List.set_cons_succ, Nat.zero_add, Nat.reduceAdd] at hK ⊢
            have HK := Lib.hid hK
            clear hK
            refine Held.mk ?_
            go_simp
            exact HK.out _ (Below.refl _ _)
          -- 4: Op.load 9 (Operand.tmp 34)
          apply RC.ls_val (fun _ _ _ _ _ _ => trivial)
          · intro x w' hb hpre K hK
            have z0 := (hb.cell (p := ⟨wr.heap.size, 0, none⟩) kp).trans a0
            have z1 := (hb.cell (p := ⟨wr.heap.size, 1, none⟩) kp).trans a1
            have zs := hb.size
            simp [preds, Region.binds, RC.phi, RC.MP.val] at hpre
            simp only [frL, Act.put, List.setIfInBounds_toArray, List.set_cons_zero, List.set_cons_succ, Nat.zero_add, Nat.reduceAdd, hpre] at hK ⊢
            have HK := Lib.hid hK
            clear hK
            refine Held.mk ?_
            go_simp
            exact HK.out _ (Below.refl _ _)
          -- 5: Op.call { callee := Callee.value (Operand.func 13), args := #[Operand.tmp 35], a
          apply RC.ls_val (fun _ _ _ _ _ _ => trivial)
          · intro x w' hb hpre K hK
            have z0 := (hb.cell (p := ⟨wr.heap.size, 0, none⟩) kp).trans a0
            have z1 := (hb.cell (p := ⟨wr.heap.size, 1, none⟩) kp).trans a1
            have zs := hb.size
            simp [preds, Region.binds, RC.phi, RC.MP.val] at hpre
            simp only [frL, Act.put, List.setIfInBounds_toArray, List.set_cons_zero, List.set_cons_succ, Nat.zero_add, Nat.reduceAdd, hpre] at hK ⊢
            have HK := Lib.hid hK
            clear hK
            refine Held.mk ?_
            go_simp
            (with_reducible refine (CV.out _).mono ?_)
            rintro e w1 ⟨rfl, hb1⟩
            dsimp only
            exact HK.out _ hb1
          -- 6: Op.buildSlice 51 5 #[(0, Operand.const (Value.string { data := #[32] })), (1, Op
          refine RC.ls_gen (MP5s s (escF tabV t.data.toList)) ?_ ?_
          · intro x w' hb hj hpre K hK
            have p0 := hpre.1 rfl
            have p1 := hpre.2.1 rfl
            clear hpre
            simp [RC.phi, RC.MP.val] at p0 p1
            simp only [frL, Act.put, List.setIfInBounds_toArray, List.set_cons_zero, List.set_cons_succ, Nat.zero_add, Nat.reduceAdd, p0, p1] at hK ⊢
            have HK := Lib.hid hK
            clear hK
            refine Held.mk ?_
            go_simp
            exact HK.out _ _ ⟨_, rfl, Blk.new _ _ _⟩ trivial ((Below.refl _ _).alloc (Nat.le_refl _) _)
          intro x w' hb hp hJ
          simp only [List.cons_append, List.nil_append, RC.phis, RC.MP.val, frL, Act.put, List.setIfInBounds_toArray, List.set_cons_zero, List.set_cons_succ, Nat.zero_add, Nat.reduceAdd] at hp ⊢
          obtain ⟨h0, h1, h2, h3, h4, h5, h6, -⟩ := hp
          simp only [h0, h1, h2, h3, h4, h5]
          clear h0 h1 h2 h3 h4 h5
          obtain ⟨q9, e9, hB9⟩ : ∃ q, x 6 = .slice (some ⟨q, 0, none⟩) 5 5 ∧ Blk w' q #[.string ⟨#[32]⟩, .string s, .string ⟨#[61, 34]⟩, .string ⟨(escF tabV t.data.toList).toArray⟩, .string ⟨#[34]⟩] 9 := h6
          have hBq := Nat.le_trans hBp hb.size
          have CQ := Lib.hid (put_blk B b 5 5 q9 ok _ [⟨#[32]⟩, s, ⟨#[61, 34]⟩, ⟨(escF tabV t.data.toList).toArray⟩, ⟨#[34]⟩] _ w' (HWP.out.on hb) hB9 rfl rfl hfit (by decide) hBq)
          have HK2 := Lib.hid (hKp.out.trans (WK.of hb hBp))
          simp only [e9]
          clear e9 hB9 hb hfit HWP hKp a0 a1 kp hJ
          show wpList Try.prog _ _ [_] _ _
          go_wp2_with fail
          with_reducible refine CQ.out.mono ?_
          rintro e w3 ⟨rfl, hw3, hk3⟩
          have HN : Hid (WB B b ok (bs ++ catF [⟨#[60]⟩, n] ++ attrsO (ps.take (j + 1))) w3 ∧ WK B w1 w3) := by
            unfold Hid
            rw [HSN.out, ← List.append_assoc]
            exact ⟨hw3, HK2.out.trans hk3⟩
          clear hw3 hk3 CQ HK2
          go_wp2_with fail
          go_roundg (gk - 1)
          case measure => omega
          case rel => exact ⟨j + 1, by omega, by omega, by go_num, HN⟩
        · have i0 : decide ((j : Int) < (ps.length : Int)) = false := by simp; omega
          have hd := HD.out.1
          rw [List.take_of_length_le (by omega)] at hd
          have HWd := Lib.hid hd
          have HKd := Lib.hid hkw
          obtain ⟨⟨a0, a1, a2, a3, a4⟩, -⟩ := HXr.out.five5
          have ka := HXr.out.lt
          have hE := HE.out
          clear HD hd hkw d0 d1 d2 d3 d4
          by_cases hk0 : ks.length = 0
          · have i9 : ((ks.length : Int) == 0) = true := by rw [beq_iff_eq]; omega
            have hE2 : E = catF [⟨#[47, 62]⟩] := by rw [← hE, hk0]; rfl
            have hq1 : (bs ++ catF [⟨#[60]⟩, n] ++ attrsO ps).length + (catF [⟨#[47, 62]⟩]).length ≤ 140737488355328 := by
              rw [hE2] at hlen
              rw [List.length_append, List.length_append]
              omega
            have CP1 := Lib.hid (put_new B b 1 1 wr.heap.size ok (bs ++ catF [⟨#[60]⟩, n] ++ attrsO ps) [⟨#[47, 62]⟩] #[.string ⟨#[47, 62]⟩] wr HWd.out rfl rfl hq1 (by decide) rfl hBr)
            have ho : oks h ks = true := by
              have : ks = [] := List.length_eq_zero_iff.1 hk0
              rw [this]
              rfl
            have HO := Lib.hid ho
            clear hE hk0 ho
            go_wp2_with fail
            with_reducible refine CP1.out.mono ?_
            rintro e w3 ⟨rfl, hw3, hk3⟩
            have HF : Hid (WB B b (ok && oks h ks) (bs ++ (catF [⟨#[60]⟩, n] ++ attrsO ps ++ E)) w3 ∧ WK B w w3) := by
              unfold Hid
              rw [HO.out, Bool.and_true, hE2, ← List.append_assoc, ← List.append_assoc]
              exact ⟨hw3, HKd.out.trans hk3⟩
            clear hw3 hk3 hE2
            go_wp2_with fail
            first | go_end0 | refine bodyPost_ret (results_none rfl _ _ _) rfl ?_
            exact ⟨rfl, HF.out⟩
          · have i9 : ((ks.length : Int) == 0) = false := by rw [beq_eq_false_iff_ne]; omega
            have hE2 : E = catF [⟨#[62]⟩] ++ outs h ks ++ catF [⟨#[60, 47]⟩, n, ⟨#[62]⟩] := by rw [← hE, if_neg (by simpa using hk0)]
            have hlen2 : bs.length + ((catF [⟨#[60]⟩, n]).length + (attrsO ps).length + ((catF [⟨#[62]⟩]).length + (outs h ks).length + (catF [⟨#[60, 47]⟩, n, ⟨#[62]⟩]).length)) ≤ 140737488355328 := by
              rw [hE2] at hlen
              simp only [List.length_append] at hlen
              exact hlen
            have hq1 : (bs ++ catF [⟨#[60]⟩, n] ++ attrsO ps).length + (catF [⟨#[62]⟩]).length ≤ 140737488355328 := by
              rw [List.length_append, List.length_append]
              omega
            have hq2 : (bs ++ catF [⟨#[60]⟩, n] ++ attrsO ps ++ catF [⟨#[62]⟩]).length + (outs h ks).length ≤ 140737488355328 := by
              rw [List.length_append, List.length_append, List.length_append]
              omega
            have hq3 : (bs ++ catF [⟨#[60]⟩, n] ++ attrsO ps ++ catF [⟨#[62]⟩] ++ outs h ks).length + (catF [⟨#[60, 47]⟩, n, ⟨#[62]⟩]).length ≤ 140737488355328 := by
              rw [List.length_append, List.length_append, List.length_append, List.length_append]
              omega
            have CP1 := Lib.hid (put_new B b 1 1 wr.heap.size ok (bs ++ catF [⟨#[60]⟩, n] ++ attrsO ps) [⟨#[62]⟩] #[.string ⟨#[62]⟩] wr HWd.out rfl rfl hq1 (by decide) rfl hBr)
            have HE2 := Lib.hid hE2
            clear hE hE2 hk0
            go_wp2_with fail
            with_reducible refine CP1.out.mono ?_
            rintro e w3 ⟨rfl, hw3, hk3⟩
            have hX3 := hk3.oth _ _ _ (by decide) HXr.out
            have HK3 := Lib.hid (HKd.out.trans hk3)
            have CT := Lib.hid (hTr.out ok _ w3 HK3.out.bl hw3 hq2)
            clear a0 a1 a2 a3 a4
            obtain ⟨⟨a0, a1, a2, a3, a4⟩, -⟩ := hX3.five5
            have kx3 := hX3.lt
            have HX3 := Lib.hid hX3
            clear hw3 hk3 hX3 CP1
            go_wp2_with fail
            with_reducible refine CT.out.mono ?_
            rintro e w4 ⟨rfl, hw4, hk4⟩
            have hX4 := hk4.oth _ _ _ (by decide) HX3.out
            have HK4 := Lib.hid (HK3.out.trans hk4)
            have CP3 := Lib.hid (put_new B b 3 3 w4.heap.size _ _ [⟨#[60, 47]⟩, n, ⟨#[62]⟩] #[.string ⟨#[60, 47]⟩, .string n, .string ⟨#[62]⟩] w4 hw4 rfl rfl hq3 (by decide) rfl (Nat.le_trans hBw HK4.out.bl.size))
            clear a0 a1 a2 a3 a4
            obtain ⟨⟨a0, a1, a2, a3, a4⟩, -⟩ := hX4.five5
            have kx4 := hX4.lt
            clear hw4 hk4 hX4 CT
            go_wp2_with fail
            with_reducible refine CP3.out.mono ?_
            rintro e w5 ⟨rfl, hw5, hk5⟩
            have HF : Hid (WB B b (ok && oks h ks) (bs ++ (catF [⟨#[60]⟩, n] ++ attrsO ps ++ E)) w5 ∧ WK B w w5) := by
              unfold Hid
              rw [HE2.out]
              simp only [List.append_assoc] at hw5 ⊢
              exact ⟨hw5, HK4.out.trans hk5⟩
            clear hw5 hk5 CP3
            go_wp2_with fail
            go_end0
            exact ⟨rfl, HF.out⟩
  · have eo : nodeO (outF h) ⟨k, n, v, ps, ks⟩ = outs h ks := by
      unfold nodeO
      rw [e1]
      rfl
    have ek : nodeK (okF h) ⟨k, n, v, ps, ks⟩ = oks h ks := by
      unfold nodeK
      rw [e1]
      rfl
    rw [eo] at hlen ⊢
    rw [ek]
    have CT := Lib.hid (hTr.out ok bs _ hkx.bl hwx hlen)
    obtain ⟨⟨c0, c1, c2, c3, c4⟩, -⟩ := BX.five5
    have kx := BX.lt
    have HK := Lib.hid hkx
    clear hkx hwx eo ek hTr hP hM hSP BX
    go_enter Try.func10, Try.ntmps10
    go_wp2_with fail
    with_reducible refine CT.out.mono ?_
    rintro e w1 ⟨rfl, hw1, hk1⟩
    have HF := Lib.hid (And.intro hw1 (HK.out.trans hk1))
    clear hw1 hk1 CT HK
    go_wp2_with fail
    go_end0
    exact ⟨rfl, HF.out⟩
end Go.Proofs.Ytgdbbocfiejlfaa

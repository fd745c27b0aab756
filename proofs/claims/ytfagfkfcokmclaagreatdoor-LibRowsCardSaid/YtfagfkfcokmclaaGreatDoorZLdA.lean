/- Texts put together: LdA, LdB, LdC. -/
import Derived.Test.YtfagfkfcokmclaaGreatDoorZLbS
import Derived.Test.YtfagfkfcokmclaaGreatDoorZShC
import Derived.Lib.OwnBridge
import Derived.Test.YtfagfkfcokmclaaGreatDoorZLcB
section
set_option linter.unusedSimpArgs false
set_option linter.unusedVariables false
set_option linter.constructorNameAsVariable false
namespace Go.Proofs.YtfagfkfcokmclaaGreatDoor
open Go.RowKit Go.Sort

instance : Inhabited At := ⟨⟨0, 0, 0, ⟨#[]⟩, false⟩⟩
/-- An item's cells. -/
def encI (x : At) : List Value := [.int .i64 0, .int .i64 x.k, .int .i64 x.n, .int .i64 x.s, .string x.t, .bool x.b]
theorem encI_len (x : At) : (encI x).length = 6 := rfl
theorem encI_one (x : At) : ∀ v ∈ encI x, v.oneCell' = true := by
  intro v hv
  simp only [encI, List.mem_cons, List.not_mem_nil, or_false] at hv
  rcases hv with rfl | rfl | rfl | rfl | rfl | rfl <;> rfl
theorem cellsI_get (xs : List At) (t : Nat) (h : t < xs.length * 6) : (cellsI xs)[t]? = some ((encI xs[t / 6]!)[t % 6]!) := by
  have hq : t / 6 < xs.length := by omega
  have hx : xs[t / 6]? = some xs[t / 6]! := by rw [List.getElem?_eq_getElem hq, getElem!_pos xs (t / 6) hq]
  obtain ⟨y0, y1, y2, y3, y4, y5⟩ := cellsI_at xs (t / 6) _ hx
  have hd : t = t / 6 * 6 + t % 6 := by omega
  have hm : t % 6 < 6 := Nat.mod_lt _ (by omega)
  generalize t % 6 = r at *
  generalize t / 6 = q at *
  subst hd
  match r, hm with
  | 0, _ => exact y0
  | 1, _ => exact y1
  | 2, _ => exact y2
  | 3, _ => exact y3
  | 4, _ => exact y4
  | 5, _ => exact y5
theorem ItRow.flat {w : World} {a : Addr} {xs : List At} (h : ItRow w (some a) xs) : ∀ j u, (cellsI xs)[j]? = some u → w.cell? (a.add j) = some u := by
  intro j u hu
  have hj : j < xs.length * 6 := by
    have := (List.getElem?_eq_some_iff.1 hu).1
    rwa [cellsI_len] at this
  rcases h with rfl | ⟨b, o, he, -, hc⟩
  · simp at hj
  cases he
  rw [Addr.add_lit]
  have hx : xs[j / 6]? = some xs[j / 6]! := by rw [List.getElem?_eq_getElem (show j / 6 < xs.length by omega), getElem!_pos xs (j / 6) (by omega)]
  obtain ⟨y0, y1, y2, y3, y4, y5⟩ := hc (j / 6) _ hx
  have hg := cellsI_get xs j hj
  rw [hu] at hg
  obtain rfl := Option.some.inj hg
  have hd : o + j = o + j / 6 * 6 + j % 6 := by omega
  have hm : j % 6 < 6 := Nat.mod_lt _ (by omega)
  rw [hd]
  clear hd hu hg hx hj hc
  generalize j % 6 = r at *
  match r, hm with
  | 0, _ => exact y0
  | 1, _ => exact y1
  | 2, _ => exact y2
  | 3, _ => exact y3
  | 4, _ => exact y4
  | 5, _ => exact y5
theorem eqlI_nil (a : Option Addr) (n c n' c' : Nat) (w : World) : (binOp .eql 29 (.slice a n c) (.slice none n' c')).run Tryz.prog w = .ok (.bool a.isNone) w := Lib.run_eql_slice_nil w _ _ a n c n' c' Tryz.underlying29
set_option maxRecDepth 100000 in
theorem clonei_any (a : Option Addr) (c : Nat) (xs : List At) (w : World) (hI : ItRow w a xs) (hl : xs.length ≤ 1000000) :
    Calls Tryz.prog 108 #[.slice a xs.length c] w fun e w' => ∃ v, e = .returned v ∧ OwnI w.heap.size w' v xs ∧ Below w.heap.size w w' := by
  cases a with
  | none =>
    have hk : xs = [] := by
      rcases hI with h | ⟨b, o, e, -⟩
      · exact h
      · cases e
    subst hk
    clear hI
    have q22 := fun w => eqlI_nil none 0 c 0 0 w
    simp only [Option.isNone_none] at q22
    go_enter Tryz.func108, Tryz.ntmps108
    go_wp2_with fail
    go_returns
    exact ⟨_, rfl, OwnI.nil _ _, Below.refl _ _⟩
  | some ad =>
    obtain ⟨i0, hi, hz0, hz1, hz2⟩ := info_parts infoI
    have hcell2 : ∀ j u, (cellsI xs)[j]? = some u → (w.alloc (.cells #[] 28)).cell? (ad.add j) = some u := fun j u hj => by
      have h0 := hI.flat j u hj
      have hlt := (World.block_lt_of_cell? w _ h0)
      have hbb : Below w.heap.size w (w.alloc (.cells #[] 28)) := (Below.refl _ _).alloc (Nat.le_refl _) _
      exact (World.cell?_of_block (hbb.block _ hlt)).trans h0
    have HC := Lib.hid hcell2
    have HO := Lib.hid (cellsI_one xs)
    have HL := Lib.hid (cellsI_len xs)
    have q22 := fun w => eqlI_nil (some ad) xs.length c 0 0 w
    simp only [Option.isNone_some] at q22
    clear hI hcell2
    go_enter Tryz.func108, Tryz.ntmps108
    go_wp2_with (at_builtin; refine wpList_append_own _ rfl _ _ 29 rfl w.heap.size 28 i0 (.agg #[.int .i64 0, .int .i64 0, .int .i64 0, .int .i64 0, .string .empty, .bool false]) 6 56 Tryz.underlying29 hi hz0 hz1 hz2 rfl (by decide) _ 0 [] rfl ⟨rfl, .inr ⟨w.heap.size, 0, #[], rfl, Nat.le_refl _, Blk.new _ _ _, Nat.le_refl _, by unfold maxLen; omega, rfl, rfl⟩⟩ ad xs.length c (cellsI xs) rfl HL.out HC.out HO.out (by unfold maxLen; omega) (by omega) (by simp) ?_)
    intro v' w' h1 h2 h3
    have hO : OwnI w.heap.size w' v' xs := by
      unfold OwnI
      simpa using h1
    have hb : Below w.heap.size w w' := ((Below.refl w.heap.size w).alloc (Nat.le_refl _) _).grown h2 (by simp) (fun k hk => by simp [Value.ownBlock] at hk; omega)
    clear h1 h2 h3
    go_wp2_with fail
    go_returns
    exact ⟨v', rfl, hO, hb⟩
/-- A row of the call's own, turned in place. -/
theorem holdsK_own {w : World} {base g cap : Nat} {xs : List At} (h : OwnI base w (.slice (some ⟨g, 0, none⟩) xs.length cap) xs) : HoldsK encI 6 w g 0 xs.toArray := by
  rcases h.2 with ⟨e0, _⟩ | ⟨g', cap', cur, e0, hb, hg, hn, hm, hs, ht⟩
  · cases e0
  · cases e0
    intro j hj
    rw [size_flatK, List.size_toArray] at hj
    rw [get_flatK _ _ _ _ (by simpa using hj)]
    have e1 : (cur.toList.take (xs.length * 6))[j]? = (cellsI xs)[j]? := by rw [ht]
    rw [List.getElem?_take, if_pos hj, Array.getElem?_toList, cellsI_get _ _ hj] at e1
    refine ⟨?_, by simp [World.frozen?, hg]⟩
    simp only [World.cell?, hg, Nat.zero_add]
    simp only [Option.isSome_none, Bool.false_eq_true, if_false]
    rw [e1]
    simp [getElem!_pos, show j / 6 < xs.length by omega]
theorem own_putRowK {w : World} {base g cap q : Nat} {xs ys : List At} (h : OwnI base w (.slice (some ⟨g, 0, none⟩) xs.length cap) xs) (hy : ys.length = xs.length) :
    OwnI base (putRowK encI 6 (Sort.ahead w q) g 0 ys.toArray) (.slice (some ⟨g, 0, none⟩) xs.length cap) ys := by
  rcases h.2 with ⟨e0, _⟩ | ⟨g', cap', cur, e0, hb, hg, hn, hm, hs, ht⟩
  · cases e0
  · cases e0
    refine ⟨cellsI_len ys, .inr ⟨g, cap, putCells id 0 (flatK encI 6 ys.toArray) cur, by rw [hy], hb, ?_, by omega, hm, by simpa [putCells] using hs, ?_⟩⟩
    · simp [putRowK, putRow, mapBlock, Sort.ahead, Array.getElem?_modify, hg, onCells]
    · apply List.ext_getElem?
      intro j
      rw [List.getElem?_take, Array.getElem?_toList]
      by_cases hj : j < ys.length * 6
      · have hjc : j < cur.size := by omega
        rw [if_pos hj, cellsI_get _ _ hj]
        simp only [putCells, Array.getElem?_mapIdx, Array.getElem?_eq_getElem hjc, Option.map_some]
        rw [if_pos (by simp; omega)]
        simp only [Nat.sub_zero, id]
        rw [get_flatK _ _ _ _ (by simpa using hj)]
        simp [getElem!_pos, show j / 6 < ys.length by omega]
      · rw [if_neg hj, List.getElem?_eq_none (by rw [cellsI_len]; omega)]
set_option maxRecDepth 100000 in
theorem reversei_any (base : Nat) (v : Value) (xs : List At) (w : World) (h : OwnI base w v xs) (hl : xs.length ≤ 1000000) :
    Calls Tryz.prog 153 #[v] w fun e w' => e = .returned (.tuple #[]) ∧ OwnI base w' v xs.reverse ∧ Below base w w' := by
  rcases h.2 with ⟨rfl, h0⟩ | ⟨g, cap, cur, rfl, hb, hg, hn, hm, hs, ht⟩
  · refine (AnyQ.slices_Reverse_empty Tryz.laysRev none 0 w).mono ?_
    rintro e w1 ⟨rfl, rfl⟩
    have : xs = [] := List.length_eq_zero_iff.1 h0
    subst this
    exact ⟨rfl, OwnI.nil _ _, Below.refl _ _⟩
  · have hH := holdsK_own h
    refine (AnyQ.slices_Reverse Tryz.laysRev 6 Tryz.isAgg28 Tryz.sizeOf28 encI encI_len encI_one g 0 cap xs.toArray w hH (by simp; omega)).mono ?_
    rintro e w1 ⟨rfl, q, rfl⟩
    have h1 := own_putRowK (q := q) (ys := xs.reverse) h (by simp)
    rw [show xs.toArray.reverse = xs.reverse.toArray by simp]
    exact ⟨rfl, h1, Lib.below_putRow (Below.refl _ _) hb⟩
set_option maxRecDepth 100000 in
theorem sreverse_any (a : Option Addr) (c : Nat) (xs : List At) (w : World) (hI : ItRow w a xs) (hl : xs.length ≤ 1000000) :
    Calls Tryz.prog 99 #[.slice a xs.length c] w fun e w' => ∃ v, e = .returned v ∧ OwnI w.heap.size w' v xs.reverse ∧ Below w.heap.size w w' := by
  have C1 := Lib.hid (clonei_any a c xs w hI hl)
  have C2 := Lib.hid (fun (v : Value) (W : World) (h : OwnI w.heap.size W v xs) => reversei_any w.heap.size v xs W h hl)
  clear hI
  go_enter Tryz.func99, Tryz.ntmps99
  go_wp2_with fail
  with_reducible refine C1.out.mono ?_
  rintro e w1 ⟨v, rfl, hO, hb⟩
  have C3 := Lib.hid (C2.out v w1 hO)
  clear C1 C2 hO
  go_wp2_with fail
  with_reducible refine C3.out.mono ?_
  rintro e w2 ⟨rfl, hO, hb2⟩
  have hw2 := hb.trans hb2
  clear C3 hb hb2
  go_wp2_with fail
  go_returns
  exact ⟨v, rfl, hO, hw2⟩
/-- A part of a row that lies. -/
theorem ItRow.part {w : World} {a : Addr} {xs : List At} (h : ItRow w (some a) xs) (hxs : xs ≠ []) (f n : Nat) : ItRow w (some (a.add (f * 6))) ((xs.drop f).take n) := by
  rcases h with h | ⟨b, o, he, hb, hc⟩
  · exact absurd h hxs
  cases he
  refine .inr ⟨b, o + f * 6, by rw [Addr.add_lit], hb, fun j x hj => ?_⟩
  rw [List.getElem?_take] at hj
  split at hj
  · rw [List.getElem?_drop] at hj
    have := hc (f + j) x hj
    rw [show o + (f + j) * 6 = o + f * 6 + j * 6 by omega] at this
    exact this
  · cases hj
end Go.Proofs.YtfagfkfcokmclaaGreatDoor
end
section
set_option linter.unusedSimpArgs false
set_option linter.unusedVariables false
set_option linter.constructorNameAsVariable false
namespace Go.Proofs.YtfagfkfcokmclaaGreatDoor
open Go.RowKit Go.Sort

set_option maxRecDepth 100000 in
set_option maxHeartbeats 800000 in
theorem spart_any (xs : List At) (a : Option Addr) (c fn en : Nat) (w : World) (hI : ItRow w a xs) (hc : xs.length ≤ c) (he : en ≤ xs.length) (hf : fn ≤ xs.length) (hl : xs.length ≤ 1000000) :
    Calls Tryz.prog 104 #[.slice a xs.length c, .int .i64 ((fn : Int) + 1), .int .i64 ((en : Int) + 1)] w fun e w' => ∃ v, e = .returned v ∧ OwnI w.heap.size w' v ((xs.drop fn).take (en - fn)) ∧ Below w.heap.size w w' := by
  have m1 : max ((fn : Int) + 1) 1 = (fn : Int) + 1 := by omega
  have m2 : min ((en : Int) + 1) ((xs.length : Int) + 1) = (en : Int) + 1 := by omega
  by_cases h : en ≤ fn
  · rw [show (xs.drop fn).take (en - fn) = [] by rw [show en - fn = 0 by omega]; rfl]
    have d1 : decide ((en : Int) + 1 ≤ (fn : Int) + 1) = true := by simp; omega
    clear hI
    go_enter Tryz.func104, Tryz.ntmps104
    go_wp2_with fail
    go_returns
    exact ⟨_, rfl, OwnI.nil _ _, Below.refl _ _⟩
  · have hne : xs ≠ [] := by intro h0; subst h0; simp at he; omega
    obtain ⟨b, o, rfl⟩ : ∃ b o, a = some ⟨b, o, none⟩ := by
      rcases hI with h0 | ⟨b, o, rfl, -⟩
      · exact absurd h0 hne
      · exact ⟨b, o, rfl⟩
    have hP := hI.part hne fn (en - fn)
    rw [Addr.add_lit] at hP
    have hlen : ((xs.drop fn).take (en - fn)).length = en - fn := by simp; omega
    have C1 := Lib.hid (clonei_any (some ⟨b, o + fn * 6, none⟩) (c - fn) _ w hP (by rw [hlen]; omega))
    rw [hlen] at C1
    have d1 : decide ((en : Int) + 1 ≤ (fn : Int) + 1) = false := by simp; omega
    clear hI hP hlen
    go_enter Tryz.func104, Tryz.ntmps104
    go_wp2_with fail
    with_reducible refine C1.out.mono ?_
    rintro e w1 ⟨v, rfl, hO, hb⟩
    go_wp2_with fail
    go_returns
    exact ⟨_, rfl, hO, hb⟩
end Go.Proofs.YtfagfkfcokmclaaGreatDoor
end
section
set_option linter.unusedSimpArgs false
set_option linter.unusedVariables false
set_option linter.constructorNameAsVariable false
namespace Go.Proofs.YtfagfkfcokmclaaGreatDoor
open Go.RowKit Go.Sort

/-- A call's argument that has its capacity. -/
structure ArgC (w : World) (ab ao n i : Nat) (xs : List At) : Prop where
  lt : i < n
  n6 : n ≤ 1000000
  al : ab < w.heap.size
  ex : ∃ a c, w.cell? ⟨ab, ao + i, none⟩ = some (.slice a xs.length c) ∧ ItRow w a xs ∧ xs.length ≤ c
theorem ArgC.on {w w' : World} {ab ao n i : Nat} {xs : List At} (h : ArgC w ab ao n i xs) (hb : Below w.heap.size w w') : ArgC w' ab ao n i xs := by
  obtain ⟨h1, h2, h3, ⟨a, c, h4, h5, h6⟩⟩ := h
  exact ⟨h1, h2, Nat.lt_of_lt_of_le h3 hb.size, ⟨a, c, (hb.cell (p := ⟨ab, _, none⟩) h3).trans h4, h5.on hb, h6⟩⟩
theorem argC_of {W : World} {b n i : Nat} {cells : Array Value} {t : TypeId} {a : Option Addr} {c : Nat} {xs : List At} (hB : Blk W b cells t) (hc : cells[i]? = some (.slice a xs.length c)) (hI : ItRow W a xs) (hi : i < n) (hn : n ≤ 1000000) (hl : xs.length ≤ c) : ArgC W b 0 n i xs :=
  ⟨hi, hn, hB.lt, ⟨a, c, by rw [Nat.zero_add, hB.cell]; exact hc, hI, hl⟩⟩
set_option maxRecDepth 100000 in
set_option maxHeartbeats 1600000 in
theorem crows_reverse (xs : List At) (hl : xs.length ≤ 1000000) (ab ao n cc : Nat) (w : World) (h0 : ArgC w ab ao n 0 xs) :
    Calls Tryz.prog 52 #[.agg #[.pointer none, .slice (some ⟨ab, ao, none⟩) n cc], .string ⟨#[114, 101, 118, 101, 114, 115, 101]⟩] w fun e w' => ∃ v, e = .returned v ∧ OwnI w.heap.size w' v xs.reverse ∧ Below w.heap.size w w' := by
  have hb0 : Below w.heap.size w (w.alloc (.cells #[.pointer none, .slice (some ⟨ab, ao, none⟩) n cc] 51)) := (Below.refl _ _).alloc (Nat.le_refl _) _
  have B0 : Blk (w.alloc (.cells #[.pointer none, .slice (some ⟨ab, ao, none⟩) n cc] 51)) w.heap.size #[.pointer none, .slice (some ⟨ab, ao, none⟩) n cc] 51 := Blk.new _ _ _
  have g0 := h0.on hb0
  obtain ⟨a9, c9, ha9, hI9, -⟩ := g0.ex
  replace ha9 : (w.alloc (.cells #[.pointer none, .slice (some ⟨ab, ao, none⟩) n cc] 51)).cell? ⟨ab, ao, none⟩ = some (.slice a9 xs.length c9) := ha9
  have kab := g0.al
  have hn0 : 0 < n := g0.lt
  have C1 := Lib.hid (sreverse_any a9 c9 xs _ hI9 hl)
  clear h0 g0 hI9
  go_enter Tryz.func52, Tryz.ntmps52
  go_wp2_with fail
  with_reducible refine C1.out.mono ?_
  rintro e w1 ⟨v, rfl, hO, hb1⟩
  have hw1 := hb0.trans (hb1.mono hb0.size)
  have hO1 := hO.low hb0.size
  clear C1 hO hb1 B0 ha9 kab hb0
  go_wp2_with fail
  go_returns
  exact ⟨_, rfl, hO1, hw1⟩
set_option maxRecDepth 100000 in
set_option maxHeartbeats 1600000 in
theorem crows_sub (xs : List At) (fn en : Nat) (ab ao n cc : Nat) (w : World) (hl : xs.length ≤ 1000000) (he : en ≤ xs.length) (hf : fn ≤ xs.length) (h0 : ArgC w ab ao n 0 xs)
    (CP0 : ∀ W, Below w.heap.size w W → Calls Tryz.prog 103 #[.agg #[.pointer none, .slice (some ⟨ab, ao, none⟩) n cc], .int .i64 (xs.length : Int)] W fun e w' => e = .returned (.tuple #[.int .i64 ((fn : Int) + 1), .int .i64 ((en : Int) + 1)]) ∧ Below W.heap.size W w') :
    Calls Tryz.prog 52 #[.agg #[.pointer none, .slice (some ⟨ab, ao, none⟩) n cc], .string ⟨#[115, 117, 98, 115, 101, 113, 117, 101, 110, 99, 101]⟩] w fun e w' => ∃ v, e = .returned v ∧ OwnI w.heap.size w' v ((xs.drop fn).take (en - fn)) ∧ Below w.heap.size w w' := by
  have hb0 : Below w.heap.size w (w.alloc (.cells #[.pointer none, .slice (some ⟨ab, ao, none⟩) n cc] 51)) := (Below.refl _ _).alloc (Nat.le_refl _) _
  have B0 : Blk (w.alloc (.cells #[.pointer none, .slice (some ⟨ab, ao, none⟩) n cc] 51)) w.heap.size #[.pointer none, .slice (some ⟨ab, ao, none⟩) n cc] 51 := Blk.new _ _ _
  have g0 := h0.on hb0
  obtain ⟨a9, c9, ha9, hI9, hc9⟩ := g0.ex
  replace ha9 : (w.alloc (.cells #[.pointer none, .slice (some ⟨ab, ao, none⟩) n cc] 51)).cell? ⟨ab, ao, none⟩ = some (.slice a9 xs.length c9) := ha9
  have kab := g0.al
  have hn0 : 0 < n := g0.lt
  have C1 := Lib.hid (fun W (hI : ItRow W a9 xs) => spart_any xs a9 c9 fn en W hI hc9 he hf hl)
  have C2 := Lib.hid (CP0 _ hb0)
  have HI := Lib.hid hI9
  have c0 : (w.alloc (.cells #[.pointer none, .slice (some ⟨ab, ao, none⟩) n cc] 51)).cell? ⟨w.heap.size, 0, none⟩ = some (.pointer none) := B0.cell 0
  have c1 : (w.alloc (.cells #[.pointer none, .slice (some ⟨ab, ao, none⟩) n cc] 51)).cell? ⟨w.heap.size, 1, none⟩ = some (.slice (some ⟨ab, ao, none⟩) n cc) := B0.cell 1
  have kB := B0.lt
  clear h0 g0 hI9 hc9 CP0
  go_enter Tryz.func52, Tryz.ntmps52
  go_wp2_with fail
  with_reducible refine C2.out.mono ?_
  rintro e w1 ⟨rfl, hb1⟩
  have hw1 := hb0.trans (hb1.mono hb0.size)
  have C3 := Lib.hid (C1.out w1 (HI.out.on hb1))
  clear C1 C2 HI hb1 B0 ha9 kab hb0 c0 c1 kB
  go_wp2_with fail
  with_reducible refine C3.out.mono ?_
  rintro e w2 ⟨v, rfl, hO, hb2⟩
  have hw2 := hw1.trans (hb2.mono hw1.size)
  have hO1 := hO.low hw1.size
  clear C3 hO hb2 hw1
  go_wp2_with fail
  go_returns
  exact ⟨_, rfl, hO1, hw2⟩
theorem call_reverse (xs : List At) (hx : ∀ x ∈ xs, x.t.size ≤ 65536) (hl : xs.length ≤ 1000000) (ab cc : Nat) (w : World) (hS : Sp w) (h0 : ArgC w ab 0 1 0 xs) :
    Calls Tryz.prog 9 #[.pointer none, .string ⟨#[114, 101, 118, 101, 114, 115, 101]⟩, .slice (some ⟨ab, 0, none⟩) 1 cc] w (Ans xs.reverse w) := by
  refine lcall_of _ _ 1 cc (some ⟨ab, 0, none⟩) rfl _ w (fun W hW => has_reverse_1 W (hS.on hW)) (fun W hW => do_reverse _ 1 cc (some ⟨ab, 0, none⟩) W (fun V hV => ?_)) ?_ (by rw [List.length_reverse]; omega)
  · exact crows_reverse xs hl ab 0 1 cc V (h0.on (hW.trans (hV.mono hW.size)))
  · exact fun x h => hx x (List.mem_reverse.1 h)
theorem mem_part {xs : List At} {f n : Nat} {x : At} (h : x ∈ (xs.drop f).take n) : x ∈ xs := List.mem_of_mem_drop (List.mem_of_mem_take h)
theorem call_subsequence2 (xs : List At) (hx : ∀ x ∈ xs, x.t.size ≤ 65536) (hl : xs.length ≤ 1000000) (fn : Nat) (hf : fn ≤ xs.length) (ab cc : Nat) (w : World) (hS : Sp w) (h0 : ArgC w ab 0 2 0 xs) (h1 : Arg1 w ab 0 2 1 (ofA ((fn : Int) + 1))) :
    Calls Tryz.prog 9 #[.pointer none, .string ⟨#[115, 117, 98, 115, 101, 113, 117, 101, 110, 99, 101]⟩, .slice (some ⟨ab, 0, none⟩) 2 cc] w (Ans (xs.drop fn) w) := by
  have hk : (xs.drop fn).take (xs.length - fn) = xs.drop fn := List.take_of_length_le (by rw [List.length_drop]; omega)
  rw [← hk]
  refine lcall_of _ _ 2 cc (some ⟨ab, 0, none⟩) rfl _ w (fun W hW => has_subsequence_2 W (hS.on hW)) (fun W hW => do_subsequence _ 2 cc (some ⟨ab, 0, none⟩) W (fun V hV => ?_)) (fun x h => hx x (mem_part h)) (by rw [hk, List.length_drop]; omega)
  have hV2 := hW.trans (hV.mono hW.size)
  exact crows_sub xs fn xs.length ab 0 2 cc V hl (Nat.le_refl _) hf (h0.on hV2) (fun U hU => cpart_two _ _ (by omega) (by omega) ab 0 cc U ((h1.on hV2).on hU))
theorem call_subsequence3 (xs : List At) (hx : ∀ x ∈ xs, x.t.size ≤ 65536) (hl : xs.length ≤ 1000000) (en : Nat) (he : en ≤ xs.length) (ab cc : Nat) (w : World) (hS : Sp w) (h0 : ArgC w ab 0 3 0 xs) (h1 : Arg1 w ab 0 3 1 (ofA 1)) (h2 : Arg1 w ab 0 3 2 (ofA (en : Int))) :
    Calls Tryz.prog 9 #[.pointer none, .string ⟨#[115, 117, 98, 115, 101, 113, 117, 101, 110, 99, 101]⟩, .slice (some ⟨ab, 0, none⟩) 3 cc] w (Ans (xs.take en) w) := by
  have hk : (xs.drop 0).take (en - 0) = xs.take en := rfl
  rw [← hk]
  refine lcall_of _ _ 3 cc (some ⟨ab, 0, none⟩) rfl _ w (fun W hW => has_subsequence_3 W (hS.on hW)) (fun W hW => do_subsequence _ 3 cc (some ⟨ab, 0, none⟩) W (fun V hV => ?_)) (fun x h => hx x (mem_part h)) (by rw [hk, List.length_take]; omega)
  have hV2 := hW.trans (hV.mono hW.size)
  refine crows_sub xs 0 en ab 0 3 cc V hl he (Nat.zero_le _) (h0.on hV2) (fun U hU => ?_)
  have := cpart_three (xs.length : Int) 1 (en : Int) (by omega) (by omega) ab 0 cc U ((h1.on hV2).on hU) ((h2.on hV2).on hU)
  rw [show (1 : Int) + (en : Int) = (en : Int) + 1 by omega] at this
  exact this
end Go.Proofs.YtfagfkfcokmclaaGreatDoor
end

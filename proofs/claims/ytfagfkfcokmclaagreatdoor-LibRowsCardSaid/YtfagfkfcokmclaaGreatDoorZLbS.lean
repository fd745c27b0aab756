/- Texts put together: LbS, LbZ. -/
import Derived.Test.YtfagfkfcokmclaaGreatDoorZLbK
import Derived.Test.YtfagfkfcokmclaaGreatDoorZLbF
import Derived.Test.YtfagfkfcokmclaaGreatDoorZLbO
import Derived.Test.YtfagfkfcokmclaaGreatDoorZMgD
section
set_option linter.unusedSimpArgs false
set_option linter.unusedVariables false
set_option linter.constructorNameAsVariable false
namespace Go.Proofs.YtfagfkfcokmclaaGreatDoor
open Go.RowKit Go.Sort

/-- 'append(own, one...)' of a row of one item. -/
theorem wpList_appI2 {ops : Array Oper} {rest : List Oper} {o : Oper} {act : Act} {Q : Exit → Act → World → Prop} {w : World} (hgd : o.guard = none) (s x : Operand)
    (ho : o.op = .call { callee := .builtin .append, args := #[s, x], argTypes := #[29, 29] }) (base : Nat) (v : Value) (xs : List At) (hs : act.eval s = v) (hown : OwnI base w v xs)
    (q o2 c : Nat) (p : At) (hx : act.eval x = .slice (some ⟨q, o2, none⟩) 1 c) (hB : ItRow w (some ⟨q, o2, none⟩) [p]) (hl : xs.length + 1 ≤ 1000000000) (hb : base ≤ w.heap.size)
    (h : ∀ v' w', OwnI base w' v' (xs ++ [p]) → Below base w w' → wpList Tryz.prog ops Q rest (act.put o.dst v') w') : wpList Tryz.prog ops Q (o :: rest) act w := by
  obtain ⟨i0, hi, hz0, hz1, hz2⟩ := info_parts infoI
  refine wpList_append_own w hgd s x 29 ho base 28 i0 (.agg #[.int .i64 0, .int .i64 0, .int .i64 0, .int .i64 0, .string .empty, .bool false]) 6 56 Tryz.underlying29 hi hz0 hz1 hz2 rfl (by decide) v xs.length (cellsI xs) hs hown ⟨q, o2, none⟩ 1 c (cellsI [p]) hx (cellsI_len [p]) (fun j u hj => ?_) (cellsI_one [p]) (by unfold maxLen; omega) (by omega) hb (fun v' w' h1 h2 _ => ?_)
  · rw [Addr.add_lit]
    rcases hB with h0 | ⟨b, q', he, -, hc⟩
    · cases h0
    cases he
    obtain ⟨y0, y1, y2, y3, y4, y5⟩ := hc 0 p rfl
    simp only [Nat.zero_mul, Nat.add_zero] at y0 y1 y2 y3 y4 y5
    match j, hj with
    | 0, hj => simp [cellsI] at hj; subst hj; exact y0
    | 1, hj => simp [cellsI] at hj; subst hj; exact y1
    | 2, hj => simp [cellsI] at hj; subst hj; exact y2
    | 3, hj => simp [cellsI] at hj; subst hj; exact y3
    | 4, hj => simp [cellsI] at hj; subst hj; exact y4
    | 5, hj => simp [cellsI] at hj; subst hj; exact y5
    | j + 6, hj => simp [cellsI] at hj
  · have h3 : OwnI base w' v' (xs ++ [p]) := by
      unfold OwnI
      rw [cellsI_app, List.length_append]
      exact h1
    exact h v' w' h3 (OwnI.grown hown h2 hb)
/-- A call's argument: the i-th is this row. -/
structure ArgR (w : World) (ab ao n i : Nat) (xs : List At) : Prop where
  lt : i < n
  n6 : n ≤ 1000000
  al : ab < w.heap.size
  ex : ∃ a c, w.cell? ⟨ab, ao + i, none⟩ = some (.slice a xs.length c) ∧ ItRow w a xs
  sz : sumT xs ≤ 65536
  ln : xs.length ≤ 100000000
theorem ArgR.on {w w' : World} {ab ao n i : Nat} {xs : List At} (h : ArgR w ab ao n i xs) (hb : Below w.heap.size w w') : ArgR w' ab ao n i xs := by
  obtain ⟨h1, h2, h3, ⟨a, c, h4, h5⟩, h6, h7⟩ := h
  exact ⟨h1, h2, Nat.lt_of_lt_of_le h3 hb.size, ⟨a, c, (hb.cell (p := ⟨ab, _, none⟩) h3).trans h4, h5.on hb⟩, h6, h7⟩
theorem catoms_row (xs : List At) (ab ao n cc i : Nat) (w : World) (h : ArgR w ab ao n i xs) :
    Calls Tryz.prog 32 #[.agg #[.pointer none, .slice (some ⟨ab, ao, none⟩) n cc], .int .i64 (i : Int)] w fun e w' => ∃ a c, e = .returned (.slice a xs.length c) ∧ VRow w' a xs ∧ (a = none → c = 0) ∧ Below w.heap.size w w' := by
  obtain ⟨h1, h2, h3, ⟨a, c, h4, h5⟩, h6, h7⟩ := h
  exact catoms_any xs ab ao n cc i a c w h5 h7 h6 h1 h2 h3 h4
/-- Equal to a value. -/
def eqA (y x : At) : Bool := (orderF x y).2 == 0 && (orderF x y).1 == 0
theorem rows1_any (x y : At) (hx : RA x) (hy : RA y) (b : Nat) (w : World) (hB : Blk w b #[.int .i64 y.k, .int .i64 y.n, .int .i64 y.s, .string y.t, .bool y.b] 24) :
    Calls Tryz.prog 107 #[.agg #[.int .i64 x.k, .int .i64 x.n, .int .i64 x.s, .string x.t, .bool x.b], .pointer (some ⟨b, 0, none⟩)] w fun e w' => e = .returned (.bool (eqA y x)) ∧ Below w.heap.size w w' := by
  have hb0 : Below w.heap.size w (w.alloc (.cells #[.int .i64 x.k, .int .i64 x.n, .int .i64 x.s, .string x.t, .bool x.b] 24)) := (Below.refl _ _).alloc (Nat.le_refl _) _
  have CE : Hid (∀ w, Calls Tryz.prog 96 #[.agg #[.int .i64 x.k, .int .i64 x.n, .int .i64 x.s, .string x.t, .bool x.b], .agg #[.int .i64 y.k, .int .i64 y.n, .int .i64 y.s, .string y.t, .bool y.b]] w fun e w' => e = .returned (.bool (eqA y x)) ∧ Below w.heap.size w w') := fun w => equal_any x y hx hy w
  generalize eqA y x = r at *
  obtain ⟨⟨y0, y1, y2, y3, y4⟩, -⟩ := hB.five
  have kb := hB.lt
  clear hx hy hB
  obtain ⟨k, n, s, t, bb⟩ := x
  obtain ⟨k', n', s', t', bb'⟩ := y
  simp only at y0 y1 y2 y3 y4
  go_enter Tryz.func107, Tryz.ntmps107
  go_wp2_with fail
  with_reducible refine (CE.out _).mono ?_
  rintro e w1 ⟨rfl, hb1⟩
  go_wp2_with fail
  go_returns
  exact ⟨rfl, hb0.trans (hb1.mono hb0.size)⟩
/-- Where it is so. -/
def placesF (p : At → Bool) (xs : List At) : List Int := (xs.zipIdx.filter (fun q => p q.1)).map (fun q => (q.2 : Int) + 1)
theorem places_snoc (p : At → Bool) (xs : List At) (x : At) : placesF p (xs ++ [x]) = placesF p xs ++ (if p x then [(xs.length : Int) + 1] else []) := by
  unfold placesF
  rw [List.zipIdx_append, List.filter_append, List.map_append]
  congr 1
  cases h : p x <;> simp [h]
theorem places_len (p : At → Bool) (xs : List At) : (placesF p xs).length ≤ xs.length := by
  unfold placesF
  rw [List.length_map]
  exact Nat.le_trans (List.length_filter_le _ _) (by simp)
set_option maxRecDepth 100000 in
set_option maxHeartbeats 1600000 in
theorem splaces_any (p : At → Bool) (xs : List At) (a : Option Addr) (c : Nat) (cap : Array Value) (w : World) (hT : VRow w a xs) (hl : xs.length ≤ 1000000)
    (hF : ∀ (x : At) (W : World), x ∈ xs → Below w.heap.size w W → Calls Tryz.prog 107 (#[.agg #[.int .i64 x.k, .int .i64 x.n, .int .i64 x.s, .string x.t, .bool x.b]] ++ cap) W fun e w' => e = .returned (.bool (p x)) ∧ Below W.heap.size W w') :
    Calls Tryz.prog 106 #[.slice a xs.length c, .func (.func 107) #[] cap] w fun e w' => ∃ v, e = .returned v ∧ ORow w' w.heap.size v (placesF p xs) ∧ Below w.heap.size w w' := by
  have HT := Lib.hid hT
  have HF := Lib.hid hF
  clear hT hF
  go_enter Tryz.func106, Tryz.ntmps106
  go_wp2_with fail
  go_loopg [5, 10] (xs.length + 1) (fun m oo ii wr => ∃ j : Nat, j ≤ xs.length ∧ m + j = xs.length + 1 ∧ ii = .int .i64 (j : Int) ∧ ORow wr w.heap.size oo (placesF p (xs.take j)) ∧ Below w.heap.size w wr)
  case atStart => exact ⟨0, by omega, by omega, rfl, ORow.nil _ _, Below.refl _ _⟩
  case round =>
    obtain ⟨j, hj, hmj, rfl, hO, hwr⟩ := hrel
    have HO := Lib.hid hO
    have hj0 : (0 : Int) ≤ (j : Int) := Int.natCast_nonneg _
    by_cases hlt : j < xs.length
    · have i0 : decide ((j : Int) < (xs.length : Int)) = true := by simp; omega
      have i6 : (j : Int) < (xs.length : Int) := by omega
      obtain ⟨x, hjx⟩ : ∃ x, xs[j]? = some x := ⟨_, List.getElem?_eq_getElem hlt⟩
      rcases HT.out with h0 | ⟨b, o, rfl, hb, hc⟩
      · rw [h0] at hlt; simp at hlt
      obtain ⟨u0, u1, u2, u3, u4⟩ := hc j x hjx
      replace u0 := (hwr.cell (p := ⟨b, o + j * 5, none⟩) hb).trans u0
      replace u1 := (hwr.cell (p := ⟨b, o + j * 5 + 1, none⟩) hb).trans u1
      replace u2 := (hwr.cell (p := ⟨b, o + j * 5 + 2, none⟩) hb).trans u2
      replace u3 := (hwr.cell (p := ⟨b, o + j * 5 + 3, none⟩) hb).trans u3
      replace u4 := (hwr.cell (p := ⟨b, o + j * 5 + 4, none⟩) hb).trans u4
      have lb := Nat.lt_of_lt_of_le hb hwr.size
      have htk : (xs.take j).length = j := by rw [List.length_take]; omega
      have hts : placesF p (xs.take (j + 1)) = placesF p (xs.take j) ++ (if p x then [(j : Int) + 1] else []) := by
        rw [List.take_add_one, hjx]
        show placesF p (xs.take j ++ [x]) = _
        rw [places_snoc, htk]
      have hpl := places_len p (xs.take j)
      rw [htk] at hpl
      have hw1 : Below w.heap.size w (wr.alloc (.cells #[.int .i64 x.k, .int .i64 x.n, .int .i64 x.s, .string x.t, .bool x.b] 24)) := hwr.alloc hwr.size _
      have CF := Lib.hid (HF.out x _ (List.mem_of_getElem? hjx) hw1)
      have hO1 : ORow (wr.alloc (.cells #[.int .i64 x.k, .int .i64 x.n, .int .i64 x.s, .string x.t, .bool x.b] 24)) w.heap.size _ (placesF p (xs.take j)) := hO.below ((Below.refl wr.heap.size _).alloc (Nat.le_refl _) _) (Nat.le_refl _)
      have HO1 := Lib.hid hO1
      clear hc hjx hO hO1 HO
      cases hp : p x
      · rw [hp] at hts CF
        have HTS := Lib.hid hts
        clear hts
        go_wp2_with (go_at_call 107; with_reducible refine CF.out.mono ?_; rintro e w3 ⟨rfl, hb3⟩)
        go_roundg (gk - 1)
        case measure => omega
        case rel => exact ⟨j + 1, by omega, by omega, by go_num, by rw [HTS.out]; simpa using HO1.out.below hb3 (Nat.le_refl _), hw1.trans (hb3.mono hw1.size)⟩
      · rw [hp] at hts CF
        have HTS := Lib.hid hts
        clear hts
        go_wp2_with (first
          | (go_at_call 107; with_reducible refine CF.out.mono ?_; rintro e w3 ⟨rfl, hb3⟩
             have hw3 := hw1.trans (hb3.mono hw1.size)
             have HO3 := Lib.hid (HO1.out.below hb3 (Nat.le_refl _))
             have hs3 := hw3.size)
          | (at_builtin; refine wpList_app rfl _ _ rfl w.heap.size _ (placesF p (xs.take j)) [(j : Int) + 1] rfl (HO3.out.below ((Below.refl _ _).alloc (Nat.le_refl _) _) (Nat.le_refl _)) _ 1 _ rfl (irow1 _ _ _) (by intro h; cases h) (by omega) (by simp; omega) ?_))
        intro v' w5 hO5 hb5
        have hw5 := (hw3.alloc hs3 (.cells #[.int .i64 ((j : Int) + 1)] 3)).trans hb5
        go_wp2_with fail
        go_roundg (gk - 1)
        case measure => omega
        case rel => exact ⟨j + 1, by omega, by omega, by go_num, by rw [HTS.out]; exact hO5, hw5⟩
    · have i0 : decide ((j : Int) < (xs.length : Int)) = false := by simp; omega
      have hO' := hO
      rw [List.take_of_length_le (by omega)] at hO'
      have HO2 := Lib.hid hO'
      clear hO hO' HO
      go_wp2_with fail
      go_returns
      exact ⟨_, rfl, HO2.out, hwr⟩
end Go.Proofs.YtfagfkfcokmclaaGreatDoor
end
section
set_option linter.unusedSimpArgs false
set_option linter.unusedVariables false
set_option linter.constructorNameAsVariable false
namespace Go.Proofs.YtfagfkfcokmclaaGreatDoor
open Go.RowKit Go.Sort

set_option maxRecDepth 100000 in
set_option maxHeartbeats 1600000 in
theorem crows_index (xs : List At) (y : At) (hxs : ∀ x ∈ xs, RA x) (hy : RA y) (hl : xs.length ≤ 1000000) (ab ao cc : Nat) (w : World) (h0 : ArgR w ab ao 2 0 xs) (h1 : Arg1 w ab ao 2 1 y) :
    Calls Tryz.prog 52 #[.agg #[.pointer none, .slice (some ⟨ab, ao, none⟩) 2 cc], .string ⟨#[105, 110, 100, 101, 120, 45, 111, 102]⟩] w fun e w' => ∃ v, e = .returned v ∧ OwnI w.heap.size w' v ((placesF (eqA y) xs).map ofA) ∧ Below w.heap.size w w' := by
  have hmf : ∀ (fn : Fn) (first cap : Array Value) (w : World), (Instr.makeFunc fn first cap).run Tryz.prog w = .ok (.func fn first cap) w := fun _ _ _ _ => rfl
  have hb0 : Below w.heap.size w (w.alloc (.cells #[.pointer none, .slice (some ⟨ab, ao, none⟩) 2 cc] 51)) := (Below.refl _ _).alloc (Nat.le_refl _) _
  have B0 : Blk (w.alloc (.cells #[.pointer none, .slice (some ⟨ab, ao, none⟩) 2 cc] 51)) w.heap.size #[.pointer none, .slice (some ⟨ab, ao, none⟩) 2 cc] 51 := Blk.new _ _ _
  have g0 := h0.on hb0
  have g1 := h1.on hb0
  obtain ⟨a9, c9, ha9, -⟩ := g0.ex
  replace ha9 : (w.alloc (.cells #[.pointer none, .slice (some ⟨ab, ao, none⟩) 2 cc] 51)).cell? ⟨ab, ao, none⟩ = some (.slice a9 xs.length c9) := ha9
  have kab := g0.al
  have C1 : Hid (Calls Tryz.prog 32 #[.agg #[.pointer none, .slice (some ⟨ab, ao, none⟩) 2 cc], .int .i64 0] (w.alloc (.cells #[.pointer none, .slice (some ⟨ab, ao, none⟩) 2 cc] 51)) fun e w' => ∃ a c, e = .returned (.slice a xs.length c) ∧ VRow w' a xs ∧ (a = none → c = 0) ∧ Below (w.alloc (.cells #[.pointer none, .slice (some ⟨ab, ao, none⟩) 2 cc] 51)).heap.size (w.alloc (.cells #[.pointer none, .slice (some ⟨ab, ao, none⟩) 2 cc] 51)) w') := catoms_row xs ab ao 2 cc 0 _ g0
  have C2 : Hid (∀ W, Arg1 W ab ao 2 1 y → Calls Tryz.prog 70 #[.agg #[.pointer none, .slice (some ⟨ab, ao, none⟩) 2 cc], .int .i64 1] W fun e w' => e = .returned (.tuple #[.agg #[.int .i64 y.k, .int .i64 y.n, .int .i64 y.s, .string y.t, .bool y.b], .bool true]) ∧ Below W.heap.size W w') := fun W hW => cone_one y ab ao 2 cc 1 W hW
  have C3 := Lib.hid (fun (a : Option Addr) (c : Nat) (b : Nat) (W : World) (hV : VRow W a xs) (hB : Blk W b #[.int .i64 y.k, .int .i64 y.n, .int .i64 y.s, .string y.t, .bool y.b] 24) =>
    splaces_any (eqA y) xs a c #[.pointer (some ⟨b, 0, none⟩)] W hV hl (fun x V hx hb => by simpa using rows1_any x y (hxs x hx) hy b V (hB.below hb hB.lt)))
  have hpl := places_len (eqA y) xs
  generalize placesF (eqA y) xs = ps at *
  have hpl2 : ps.length ≤ 1000000 := by omega
  have C4 := Lib.hid whole_row
  clear h0 h1 hxs hy g0
  have HG1 := Lib.hid g1
  clear g1
  go_enter Tryz.func52, Tryz.ntmps52
  go_wp2_with fail
  generalize w.alloc (.cells #[.pointer none, .slice (some ⟨ab, ao, none⟩) 2 cc] 51) = W at *
  have kB := B0.lt
  with_reducible refine C1.out.mono ?_
  rintro e w1 ⟨a1, c1, rfl, hV, -, hb1⟩
  have B1 := B0.below hb1 kB
  have hw1 := hb0.trans (hb1.mono hb0.size)
  have G1 := HG1.out.on hb1
  have HV := Lib.hid hV
  clear B0 kB ha9 kab hb0 HG1 C1 hb1 hV
  have c0 : w1.cell? ⟨w.heap.size, 0, none⟩ = some (.pointer none) := B1.cell 0
  have c1' : w1.cell? ⟨w.heap.size, 1, none⟩ = some (.slice (some ⟨ab, ao, none⟩) 2 cc) := B1.cell 1
  have kB := B1.lt
  have C2' := Lib.hid (C2.out w1 G1)
  clear C2 G1 B1
  go_wp2_with fail
  with_reducible refine C2'.out.mono ?_
  rintro e w2 ⟨rfl, hb2⟩
  have hw2 := hw1.trans (hb2.mono hw1.size)
  have HV2 := Lib.hid (HV.out.on hb2)
  have BY : Blk (w2.alloc (.cells #[.int .i64 y.k, .int .i64 y.n, .int .i64 y.s, .string y.t, .bool y.b] 24)) w2.heap.size #[.int .i64 y.k, .int .i64 y.n, .int .i64 y.s, .string y.t, .bool y.b] 24 := Blk.new _ _ _
  have hw3 := hw2.alloc hw2.size (.cells #[.int .i64 y.k, .int .i64 y.n, .int .i64 y.s, .string y.t, .bool y.b] 24)
  have CP := Lib.hid (C3.out a1 c1 w2.heap.size _ (HV2.out.on ((Below.refl _ _).alloc (Nat.le_refl _) (.cells #[.int .i64 y.k, .int .i64 y.n, .int .i64 y.s, .string y.t, .bool y.b] 24))) BY)
  clear C2' C3 HV HV2 BY c0 c1' kB hw1 hb2 hw2
  go_wp2_with fail
  generalize w2.alloc (.cells #[.int .i64 y.k, .int .i64 y.n, .int .i64 y.s, .string y.t, .bool y.b] 24) = W3 at *
  with_reducible refine CP.out.mono ?_
  rintro e w4 ⟨v, rfl, hO, hb4⟩
  obtain ⟨a5, c5, rfl, hI⟩ := hO.lit (by omega)
  have hw4 := hw3.trans (hb4.mono hw3.size)
  have HI := Lib.hid hI
  clear hI hO CP hw3 hb4
  go_wp2_with fail
  go_loopg [11, 74] (ps.length + 1) (fun m oo ii wr => ∃ j : Nat, j ≤ ps.length ∧ m + j = ps.length + 1 ∧ ii = .int .i64 (j : Int) ∧ OwnI w4.heap.size wr oo ((ps.map ofA).take j) ∧ Below w4.heap.size w4 wr)
  case atStart => exact ⟨0, by omega, by omega, rfl, OwnI.nil _ _, Below.refl _ _⟩
  case round =>
    obtain ⟨j, hj, hmj, rfl, hO, hwr⟩ := hrel
    have HO := Lib.hid hO
    have hj0 : (0 : Int) ≤ (j : Int) := Int.natCast_nonneg _
    by_cases hlt : j < ps.length
    · have i0 : decide ((j : Int) < (ps.length : Int)) = true := by simp; omega
      have i6 : (j : Int) < (ps.length : Int) := by omega
      obtain ⟨x, hjx⟩ : ∃ x, ps[j]? = some x := ⟨_, List.getElem?_eq_getElem hlt⟩
      obtain ⟨b, o, rfl, hb, hc⟩ := HI.out.2.2 (by omega)
      have u0 := (hwr.cell (p := ⟨b, o + j, none⟩) hb).trans (hc j x hjx)
      have lb := Nat.lt_of_lt_of_le hb hwr.size
      have htk : ((ps.map ofA).take j).length = j := by rw [List.length_take, List.length_map]; omega
      have hts : (ps.map ofA).take (j + 1) = (ps.map ofA).take j ++ [ofA x] := by rw [List.take_add_one, List.getElem?_map, hjx]; rfl
      have HTS := Lib.hid hts
      clear hc hjx hO hts
      go_wp2_with (first
        | (go_at_call 28; with_reducible refine (C4.out _ _).mono ?_; rintro e w5 ⟨v5, rfl, hO5, hb5⟩
           obtain ⟨a6, c6, rfl, hI6, -⟩ := hO5.read
           rcases hI6 with h9 | ⟨b6, o6, rfl, hb6, hc6⟩
           · cases h9
           have HI6 : Hid (ItRow w5 (some ⟨b6, o6, none⟩) [ofA x]) := .inr ⟨b6, o6, rfl, hb6, hc6⟩
           have HO5 := Lib.hid (HO.out.on hb5)
           have hw5 := hwr.trans (hb5.mono hwr.size)
           have hs5 := hw5.size
           clear hO5 hc6)
        | (at_builtin; refine wpList_appI2 rfl _ _ rfl w4.heap.size _ ((ps.map ofA).take j) rfl HO5.out b6 o6 _ (ofA x) rfl HI6.out (by omega) hs5 ?_))
      intro v' w7 hO7 hb7
      have hw7 := hw5.trans hb7
      rw [← HTS.out] at hO7
      go_wp2_with fail
      go_roundg (gk - 1)
      case measure => omega
      case rel => exact ⟨j + 1, by omega, by omega, by go_num, hO7, hw7⟩
    · have i0 : decide ((j : Int) < (ps.length : Int)) = false := by simp; omega
      have hO' := hO
      rw [List.take_of_length_le (by rw [List.length_map]; omega)] at hO'
      have HO2 := Lib.hid (OwnI.low hO' hw4.size)
      have hw9 := hw4.trans (hwr.mono hw4.size)
      clear hO hO' HO
      go_wp2_with fail
      go_returns
      exact ⟨_, rfl, HO2.out, hw9⟩
end Go.Proofs.YtfagfkfcokmclaaGreatDoor
end

/- The closures that Order is handed, and Order's own: what they answer. -/
import Derived.Test.YtpnlhkpibgngbaaStD
import Derived.Test.YtpnlhkpibgngbaaSqB
set_option linter.unusedSimpArgs false
set_option linter.unusedVariables false
namespace Go.Proofs.Ytpnlhkpibgngbaa
open Go.RowKit Go.Sort Go.Proofs

theorem wp_worldT {P : Program} {F : FuncId} {args : Array Value} {w : World} {Q : Ending → World → Prop} (h : ∀ W, W = w → Calls P F args W Q) : Calls P F args w Q := h w rfl
theorem tmod_bd (x n : Int) (h : 1 ≤ n) : -n < x.tmod n ∧ x.tmod n < n := ⟨Int.lt_tmod_of_pos x (by omega), Int.tmod_lt_of_pos x (by omega)⟩
/-- The key: the rest; turned round where the order goes down. -/
def key (n : Int) (down : Bool) (x : Int) : Int := if down then - x.tmod n else x.tmod n

set_option maxRecDepth 100000 in
theorem cmp29 (pn : Nat) (n x y : Int) (W : World) (h : W.cell? ⟨pn, 0, none⟩ = some (.int .i64 n)) (h1 : 1 ≤ n) (h7 : n ≤ 7) :
    Calls Try.prog 29 #[.int .i64 x, .int .i64 y, .pointer (some ⟨pn, 0, none⟩)] W fun e w' => e = .returned (.int .i64 (x.tmod n - y.tmod n)) ∧ ∃ q, w' = W.drewN q := by
  obtain ⟨a1, a2⟩ := tmod_bd x n h1
  obtain ⟨b1, b2⟩ := tmod_bd y n h1
  have hn : n ≠ 0 := by omega
  have hn2 : n ≠ -1 := by omega
  go_enter Try.func29, Try.ntmps29
  go_wp2_with fail
  go_quiet (fail)
  go_wp2
  go_ret
  exact ⟨by congr 2; (try omega), nq, rfl⟩

set_option maxRecDepth 100000 in
set_option maxHeartbeats 1000000 in
theorem clo54_29 (p5 p4 pn : Nat) (down : Bool) (n x y : Int) (W : World) (h : W.cell? ⟨pn, 0, none⟩ = some (.int .i64 n)) (h1 : 1 ≤ n) (h7 : n ≤ 7) (h5 : W.cell? ⟨p5, 0, none⟩ = some (.bool down)) (h4 : W.cell? ⟨p4, 0, none⟩ = some (.func (.func 29) #[] #[.pointer (some ⟨pn, 0, none⟩)])) :
    Calls Try.prog 54 #[.int .i64 x, .int .i64 y, .pointer (some ⟨p5, 0, none⟩), .pointer (some ⟨p4, 0, none⟩)] W fun e w' => e = .returned (.int .i64 (key n down x - key n down y)) ∧ ∃ q, w' = W.drewN q := by
  have C1 := Lib.hid (cmp29 pn n x y W h h1 h7)
  have C2 := Lib.hid (cmp29 pn n y x W h h1 h7)
  cases down
  · go_enter Try.func54, Try.ntmps54
    go_wp2_with fail
    refine C1.out.mono ?_
    rintro e w1 ⟨rfl, q, rfl⟩
    go_wp2_with fail
    go_light
    go_ret
    exact ⟨by simp [key], q, rfl⟩
  · go_enter Try.func54, Try.ntmps54
    go_wp2_with fail
    refine C2.out.mono ?_
    rintro e w1 ⟨rfl, q, rfl⟩
    go_wp2_with fail
    go_light
    go_ret
    exact ⟨by simp [key]; omega, q, rfl⟩

set_option maxRecDepth 100000 in
theorem cmp32 (pn : Nat) (n x y : Int) (W : World) (h : W.cell? ⟨pn, 0, none⟩ = some (.int .i64 n)) (h1 : 1 ≤ n) (h7 : n ≤ 7) :
    Calls Try.prog 32 #[.int .i64 x, .int .i64 y, .pointer (some ⟨pn, 0, none⟩)] W fun e w' => e = .returned (.int .i64 (x.tmod n - y.tmod n)) ∧ ∃ q, w' = W.drewN q := by
  obtain ⟨a1, a2⟩ := tmod_bd x n h1
  obtain ⟨b1, b2⟩ := tmod_bd y n h1
  have hn : n ≠ 0 := by omega
  have hn2 : n ≠ -1 := by omega
  go_enter Try.func32, Try.ntmps32
  go_wp2_with fail
  go_quiet (fail)
  go_wp2
  go_ret
  exact ⟨by congr 2; (try omega), nq, rfl⟩

set_option maxRecDepth 100000 in
set_option maxHeartbeats 1000000 in
theorem clo54_32 (p5 p4 pn : Nat) (down : Bool) (n x y : Int) (W : World) (h : W.cell? ⟨pn, 0, none⟩ = some (.int .i64 n)) (h1 : 1 ≤ n) (h7 : n ≤ 7) (h5 : W.cell? ⟨p5, 0, none⟩ = some (.bool down)) (h4 : W.cell? ⟨p4, 0, none⟩ = some (.func (.func 32) #[] #[.pointer (some ⟨pn, 0, none⟩)])) :
    Calls Try.prog 54 #[.int .i64 x, .int .i64 y, .pointer (some ⟨p5, 0, none⟩), .pointer (some ⟨p4, 0, none⟩)] W fun e w' => e = .returned (.int .i64 (key n down x - key n down y)) ∧ ∃ q, w' = W.drewN q := by
  have C1 := Lib.hid (cmp32 pn n x y W h h1 h7)
  have C2 := Lib.hid (cmp32 pn n y x W h h1 h7)
  cases down
  · go_enter Try.func54, Try.ntmps54
    go_wp2_with fail
    refine C1.out.mono ?_
    rintro e w1 ⟨rfl, q, rfl⟩
    go_wp2_with fail
    go_light
    go_ret
    exact ⟨by simp [key], q, rfl⟩
  · go_enter Try.func54, Try.ntmps54
    go_wp2_with fail
    refine C2.out.mono ?_
    rintro e w1 ⟨rfl, q, rfl⟩
    go_wp2_with fail
    go_light
    go_ret
    exact ⟨by simp [key]; omega, q, rfl⟩

theorem sortWorld_cell {w : World} {blk m p : Nat} {dk : Array Int} {os : Array Obj} (hp : p < w.heap.size) (hne : p ≠ blk) : (sortWorld (Value.int .i64) w blk 0 m dk os).cell? ⟨p, 0, none⟩ = w.cell? ⟨p, 0, none⟩ := by
  refine World.cell?_of_block ?_
  show (grow (putRow (Value.int .i64) (Sort.ahead w m) blk 0 dk) os).heap[p]? = w.heap[p]?
  rw [heap_grow_old _ _ (by simpa using hp)]
  simp [putRow, mapBlock, Sort.ahead, Array.getElem?_modify, Ne.symm hne]

theorem ck_29 (p5 p4 pn blk N : Nat) (down : Bool) (n : Int) (w : World) (l5 : p5 < w.heap.size) (l4 : p4 < w.heap.size) (ln : pn < w.heap.size) (n5 : p5 ≠ blk) (n4 : p4 ≠ blk) (nn : pn ≠ blk) (h : w.cell? ⟨pn, 0, none⟩ = some (.int .i64 n)) (h1 : 1 ≤ n) (h7 : n ≤ 7) (h5 : w.cell? ⟨p5, 0, none⟩ = some (.bool down)) (h4 : w.cell? ⟨p4, 0, none⟩ = some (.func (.func 29) #[] #[.pointer (some ⟨pn, 0, none⟩)])) :
    CK (key n down) p5 p4 blk N w := fun m os dk _ x y =>
  clo54_29 p5 p4 pn down n x y _ (by rw [sortWorld_cell ln nn]; exact h) h1 h7 (by rw [sortWorld_cell l5 n5]; exact h5) (by rw [sortWorld_cell l4 n4]; exact h4)

theorem ck_32 (p5 p4 pn blk N : Nat) (down : Bool) (n : Int) (w : World) (l5 : p5 < w.heap.size) (l4 : p4 < w.heap.size) (ln : pn < w.heap.size) (n5 : p5 ≠ blk) (n4 : p4 ≠ blk) (nn : pn ≠ blk) (h : w.cell? ⟨pn, 0, none⟩ = some (.int .i64 n)) (h1 : 1 ≤ n) (h7 : n ≤ 7) (h5 : w.cell? ⟨p5, 0, none⟩ = some (.bool down)) (h4 : w.cell? ⟨p4, 0, none⟩ = some (.func (.func 32) #[] #[.pointer (some ⟨pn, 0, none⟩)])) :
    CK (key n down) p5 p4 blk N w := fun m os dk _ x y =>
  clo54_32 p5 p4 pn down n x y _ (by rw [sortWorld_cell ln nn]; exact h) h1 h7 (by rw [sortWorld_cell l5 n5]; exact h5) (by rw [sortWorld_cell l4 n4]; exact h4)

theorem sortf_any (κ : Int → Int) (p5 p4 blk cap : Nat) (d : Array Int) (w : World) (hH : Holds (Value.int .i64) w blk 0 d) (hC : CK κ p5 p4 blk d.size w) (hsz : d.size ≤ 1000000) :
    Calls Try.prog 53 #[.slice (some ⟨blk, 0, none⟩) d.size cap, .func (.func 54) #[] (cbv p5 p4)] w (Post κ 0 d.size d blk w) := by
  have C := Lib.hid (stable_any κ p5 p4 blk cap d w hH hC hsz)
  unfold cbv at *
  clear hH hC
  go_enter Try.func53, Try.ntmps53
  go_wp2_with fail
  refine C.out.mono ?_
  rintro e w1 ⟨rfl, q, d', hw, h1, h2⟩
  have HW := Lib.hid hw
  have H1 := Lib.hid h1
  have H2 := Lib.hid h2
  clear hw h1 h2
  go_wp2
  go_end0
  exact ⟨rfl, q, d', HW.out, H1.out, H2.out⟩

theorem ins_nil (F : Value) (w : World) : Calls Try.prog 66 #[.slice none 0 0, .int .i64 0, .int .i64 0, F] w fun e w' => e = .returned (.tuple #[]) ∧ w' = w := by
  go_enter Try.func66, Try.ntmps66
  go_wp2
  go_loopg [8] 0 (fun g v wr => v = .int .i64 1 ∧ wr = w)
  case atStart => exact ⟨rfl, rfl⟩
  case round =>
    obtain ⟨rfl, rfl⟩ := hrel
    go_wp2
    go_end0
    exact ⟨rfl, rfl⟩
theorem stable_nil (F : Value) (w : World) : Calls Try.prog 62 #[.slice none 0 0, .int .i64 0, F] w fun e w' => e = .returned (.tuple #[]) ∧ w' = w := by
  go_enter Try.func62, Try.ntmps62
  go_wp2_with fail
  go_loopg [7, 8] 0 (fun g v v' wr => v = .int .i64 0 ∧ v' = .int .i64 20 ∧ wr = w)
  case atStart => exact ⟨rfl, rfl, rfl⟩
  case round =>
    obtain ⟨rfl, rfl, rfl⟩ := hrel
    go_wp2_with fail
    refine (ins_nil F _).mono ?_
    rintro e w1 ⟨rfl, rfl⟩
    go_wp2_with fail
    obtain ⟨wo, hwo⟩ : ∃ wo : World, wo = w1 := ⟨_, rfl⟩
    go_loopg [6, 7, 8, 9] 0 (fun g v6 v7 v8 v9 wr => v6 = .int .i64 20 ∧ wr = wo)
    case atStart => exact ⟨rfl, hwo.symm⟩
    case round =>
      obtain ⟨rfl, rfl⟩ := hrel
      go_wp2
      go_end0
      first | exact ⟨rfl, rfl⟩ | exact ⟨rfl, hwo⟩
theorem sortf_nil (F : Value) (w : World) : Calls Try.prog 53 #[.slice none 0 0, F] w fun e w' => e = .returned (.tuple #[]) ∧ w' = w := by
  go_enter Try.func53, Try.ntmps53
  go_wp2_with fail
  refine (stable_nil F _).mono ?_
  rintro e w1 ⟨rfl, rfl⟩
  go_wp2
  go_end0
  exact ⟨rfl, rfl⟩

/-- What an ordered row is. -/
structure Ordd (κ : Int → Int) (xs ys : List Int) : Prop where
  len : ys.length = xs.length
  fil : ∀ r, filt κ r ys = filt κ r xs
  ord : srt κ 0 ys.length ys.toArray

set_option maxRecDepth 100000 in
set_option maxHeartbeats 2000000 in
theorem order_29 (a : Option Addr) (c pn : Nat) (xs : List Int) (n : Int) (down : Bool) (w : World) (h : IRow w a xs.length xs) (hx : xs.length ≤ 1000) (hn : w.cell? ⟨pn, 0, none⟩ = some (.int .i64 n)) (ln : pn < w.heap.size) (h1 : 1 ≤ n) (h7 : n ≤ 7) :
    Calls Try.prog 28 #[.slice a xs.length c, .func (.func 29) #[] #[.pointer (some ⟨pn, 0, none⟩)], .bool down] w fun e w' => ∃ ys, Own ys w e w' ∧ Ordd (key n down) xs ys := by
  have HI := Lib.hid h
  have HN := Lib.hid hn
  clear h hn
  go_enter Try.func28, Try.ntmps28
  go_wp2_with fail
  refine wp_worldT ?_
  intro w0 hw0
  have b0 : Below w.heap.size w w0 := by rw [hw0]; exact ((Below.refl _ _).alloc (Nat.le_refl _) _).alloc (by simp) _
  have s0 : w0.heap.size = w.heap.size + 2 := by rw [hw0]; simp
  have c4 : w0.cell? ⟨w.heap.size, 0, none⟩ = some (.func (.func 29) #[] #[.pointer (some ⟨pn, 0, none⟩)]) := by rw [hw0]; simp [go_sem]
  have c5 : w0.cell? ⟨w.heap.size + 1, 0, none⟩ = some (.bool down) := by rw [hw0]; simp [go_sem]
  clear hw0
  have HC4 := Lib.hid c4
  have HC5 := Lib.hid c5
  clear c4 c5
  refine (clone_any a xs.length c xs w0 (HI.out.below b0 (Nat.le_refl _)) (by omega)).mono ?_
  rintro e w1 ⟨v, rfl, hO, b1⟩
  have k1 : Below w.heap.size w w1 := b0.trans (b1.mono b0.size)
  have z1 := b1.size
  have D5 : Hid (w1.cell? ⟨w.heap.size + 1, 0, none⟩ = some (.bool down)) := by
    show _ = _
    rw [(bcell b1).1 _ _ (by omega)]; exact HC5.out
  have D4 : Hid (w1.cell? ⟨w.heap.size, 0, none⟩ = some (.func (.func 29) #[] #[.pointer (some ⟨pn, 0, none⟩)])) := by
    show _ = _
    rw [(bcell b1).1 _ _ (by omega)]; exact HC4.out
  have DN : Hid (w1.cell? ⟨pn, 0, none⟩ = some (.int .i64 n)) := by
    show _ = _
    rw [(bcell k1).1 _ _ ln]; exact HN.out
  rcases hO.cases with ⟨rfl, hnil⟩ | ⟨g, cap, cur, rfl, g1, g2, g3, g4, g5, g6⟩
  · subst hnil
    clear HC4 HC5 D5 D4 DN hO
    go_wp2_with fail
    refine (sortf_nil _ _).mono ?_
    rintro e w2 ⟨rfl, rfl⟩
    go_wp2_with fail
    go_light
    go_ret
    exact ⟨[], ⟨_, rfl, ORow.nil _ _, k1⟩, ⟨rfl, fun _ => rfl, fun i j h1 h2 h3 => by simp at h3⟩⟩
  · have hH := holds_of_blockI g2 g6
    have CKh := ck_29 (w.heap.size + 1) w.heap.size pn g xs.toArray.size down n w1 (by omega) (by omega) (by omega) (by omega) (by omega) (by omega) DN.out h1 h7 D5.out D4.out
    have C := Lib.hid (sortf_any (key n down) (w.heap.size + 1) w.heap.size g cap xs.toArray w1 hH CKh (by simp; omega))
    unfold cbv at C
    simp only [List.size_toArray] at C
    have G : Hid (w.heap.size ≤ g ∧ w1.heap[g]? = some (.cells cur 3 (0, 0)) ∧ xs.length ≤ cap ∧ cap ≤ maxLen ∧ cur.size = cap) := ⟨by omega, g2, g3, g4, g5⟩
    clear g1 g2 g3 g4 g5 g6 hH CKh hO HC4 HC5 D5 D4
    go_wp2_with fail
    refine C.out.mono ?_
    rintro e w2 ⟨rfl, q, d', hw2, hs2, hr2⟩
    have HW2 := Lib.hid hw2
    have HS2 := Lib.hid hs2
    have HR2 := Lib.hid hr2
    clear hw2 hs2 hr2
    go_wp2_with fail
    go_light
    go_ret
    obtain ⟨q1, q2, q3, q4, q5⟩ := G.out
    have hl : d'.toList.length = xs.length := by have := HS2.out.size; simpa using this
    have e0 : rw1 w1 g d' q = grow (putRow (Value.int .i64) (Sort.ahead w1 q) g 0 d'.toList.toArray) #[] := by
      rw [grow_nil]
      simp [rw1, Sort.ahead, World.drewN, putRow, mapBlock]
    have kO := ownsRow_sortedI (w := w1) (n := q) (os := #[]) (ss := xs) (ts := d'.toList) hl q1 q2 q3 q4 (by simpa using q5)
    have kG := grownBy_sortedI (w := w1) (g := g) (n := q) (os := #[]) d'.toList.toArray
    rw [← e0, ← HW2.out] at kO kG
    refine ⟨d'.toList, ⟨_, rfl, ?_, k1.grown kG k1.size (fun k hk => by simp at hk; omega)⟩, ⟨hl, fun r => by have := HS2.out.fil r; simpa using this, ?_⟩⟩
    · unfold ORow
      rw [hl]
      exact kO
    · have := HR2.out
      rw [hl]
      simpa using this

set_option maxRecDepth 100000 in
set_option maxHeartbeats 2000000 in
theorem order_32 (a : Option Addr) (c pn : Nat) (xs : List Int) (n : Int) (down : Bool) (w : World) (h : IRow w a xs.length xs) (hx : xs.length ≤ 1000) (hn : w.cell? ⟨pn, 0, none⟩ = some (.int .i64 n)) (ln : pn < w.heap.size) (h1 : 1 ≤ n) (h7 : n ≤ 7) :
    Calls Try.prog 28 #[.slice a xs.length c, .func (.func 32) #[] #[.pointer (some ⟨pn, 0, none⟩)], .bool down] w fun e w' => ∃ ys, Own ys w e w' ∧ Ordd (key n down) xs ys := by
  have HI := Lib.hid h
  have HN := Lib.hid hn
  clear h hn
  go_enter Try.func28, Try.ntmps28
  go_wp2_with fail
  refine wp_worldT ?_
  intro w0 hw0
  have b0 : Below w.heap.size w w0 := by rw [hw0]; exact ((Below.refl _ _).alloc (Nat.le_refl _) _).alloc (by simp) _
  have s0 : w0.heap.size = w.heap.size + 2 := by rw [hw0]; simp
  have c4 : w0.cell? ⟨w.heap.size, 0, none⟩ = some (.func (.func 32) #[] #[.pointer (some ⟨pn, 0, none⟩)]) := by rw [hw0]; simp [go_sem]
  have c5 : w0.cell? ⟨w.heap.size + 1, 0, none⟩ = some (.bool down) := by rw [hw0]; simp [go_sem]
  clear hw0
  have HC4 := Lib.hid c4
  have HC5 := Lib.hid c5
  clear c4 c5
  refine (clone_any a xs.length c xs w0 (HI.out.below b0 (Nat.le_refl _)) (by omega)).mono ?_
  rintro e w1 ⟨v, rfl, hO, b1⟩
  have k1 : Below w.heap.size w w1 := b0.trans (b1.mono b0.size)
  have z1 := b1.size
  have D5 : Hid (w1.cell? ⟨w.heap.size + 1, 0, none⟩ = some (.bool down)) := by
    show _ = _
    rw [(bcell b1).1 _ _ (by omega)]; exact HC5.out
  have D4 : Hid (w1.cell? ⟨w.heap.size, 0, none⟩ = some (.func (.func 32) #[] #[.pointer (some ⟨pn, 0, none⟩)])) := by
    show _ = _
    rw [(bcell b1).1 _ _ (by omega)]; exact HC4.out
  have DN : Hid (w1.cell? ⟨pn, 0, none⟩ = some (.int .i64 n)) := by
    show _ = _
    rw [(bcell k1).1 _ _ ln]; exact HN.out
  rcases hO.cases with ⟨rfl, hnil⟩ | ⟨g, cap, cur, rfl, g1, g2, g3, g4, g5, g6⟩
  · subst hnil
    clear HC4 HC5 D5 D4 DN hO
    go_wp2_with fail
    refine (sortf_nil _ _).mono ?_
    rintro e w2 ⟨rfl, rfl⟩
    go_wp2_with fail
    go_light
    go_ret
    exact ⟨[], ⟨_, rfl, ORow.nil _ _, k1⟩, ⟨rfl, fun _ => rfl, fun i j h1 h2 h3 => by simp at h3⟩⟩
  · have hH := holds_of_blockI g2 g6
    have CKh := ck_32 (w.heap.size + 1) w.heap.size pn g xs.toArray.size down n w1 (by omega) (by omega) (by omega) (by omega) (by omega) (by omega) DN.out h1 h7 D5.out D4.out
    have C := Lib.hid (sortf_any (key n down) (w.heap.size + 1) w.heap.size g cap xs.toArray w1 hH CKh (by simp; omega))
    unfold cbv at C
    simp only [List.size_toArray] at C
    have G : Hid (w.heap.size ≤ g ∧ w1.heap[g]? = some (.cells cur 3 (0, 0)) ∧ xs.length ≤ cap ∧ cap ≤ maxLen ∧ cur.size = cap) := ⟨by omega, g2, g3, g4, g5⟩
    clear g1 g2 g3 g4 g5 g6 hH CKh hO HC4 HC5 D5 D4
    go_wp2_with fail
    refine C.out.mono ?_
    rintro e w2 ⟨rfl, q, d', hw2, hs2, hr2⟩
    have HW2 := Lib.hid hw2
    have HS2 := Lib.hid hs2
    have HR2 := Lib.hid hr2
    clear hw2 hs2 hr2
    go_wp2_with fail
    go_light
    go_ret
    obtain ⟨q1, q2, q3, q4, q5⟩ := G.out
    have hl : d'.toList.length = xs.length := by have := HS2.out.size; simpa using this
    have e0 : rw1 w1 g d' q = grow (putRow (Value.int .i64) (Sort.ahead w1 q) g 0 d'.toList.toArray) #[] := by
      rw [grow_nil]
      simp [rw1, Sort.ahead, World.drewN, putRow, mapBlock]
    have kO := ownsRow_sortedI (w := w1) (n := q) (os := #[]) (ss := xs) (ts := d'.toList) hl q1 q2 q3 q4 (by simpa using q5)
    have kG := grownBy_sortedI (w := w1) (g := g) (n := q) (os := #[]) d'.toList.toArray
    rw [← e0, ← HW2.out] at kO kG
    refine ⟨d'.toList, ⟨_, rfl, ?_, k1.grown kG k1.size (fun k hk => by simp at hk; omega)⟩, ⟨hl, fun r => by have := HS2.out.fil r; simpa using this, ?_⟩⟩
    · unfold ORow
      rw [hl]
      exact kO
    · have := HR2.out
      rw [hl]
      simpa using this
end Go.Proofs.Ytpnlhkpibgngbaa

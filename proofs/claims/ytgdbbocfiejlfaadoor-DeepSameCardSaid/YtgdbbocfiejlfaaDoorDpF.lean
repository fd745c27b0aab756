/- The document's Trees. -/
import Derived.Test.YtgdbbocfiejlfaaDoorDpFa
import Derived.Test.YtgdbbocfiejlfaaDoorDpFb
set_option linter.unusedSimpArgs false
set_option linter.unusedVariables false
set_option linter.constructorNameAsVariable false
namespace Go.Proofs.YtgdbbocfiejlfaaDoor
open Go.RowKit

set_option maxRecDepth 100000 in
set_option maxHeartbeats 8000000 in
theorem rtrees_leaf (h : Nat) (IH0 : ∀ (x y : Tr h) (cx cy : Array Value) (w' : World), TLies All h w' x cx → TLies All h w' y cy → SmallT h x → SmallT h y → Calls Tryd.prog 9 #[.agg cx, .agg cy] w' fun e w'' => e = .returned (.bool (deepF h x y)) ∧ Below w'.heap.size w' w'') (S1 S2 : Nat → Prop) (k : Int) (n v : ByteArray) (ps : List Pr) (ks : List (Tr h)) (k2 : Int) (n2 v2 : ByteArray) (qs : List Pr) (ls : List (Tr h)) (cs ds : Array Value) (w : World)
    (HH : TLies S1 (h + 1) w (⟨k, n, v, ps, ks⟩ : Nd (Tr h)) cs) (HH2 : TLies S2 (h + 1) w (⟨k2, n2, v2, qs, ls⟩ : Nd (Tr h)) ds) (M1 : SmallT (h + 1) (⟨k, n, v, ps, ks⟩ : Nd (Tr h))) (M2 : SmallT (h + 1) (⟨k2, n2, v2, qs, ls⟩ : Nd (Tr h))) (ek : k = k2) (e2 : (k == 2) = false) (e1 : (k == 1) = false) : Calls Tryd.prog 9 #[.agg cs, .agg ds] w fun e w' => e = .returned (.bool (deepF (h + 1) (⟨k, n, v, ps, ks⟩ : Nd (Tr h)) (⟨k2, n2, v2, qs, ls⟩ : Nd (Tr h)))) ∧ Below w.heap.size w w' := by
  obtain ⟨aa, ca, ka, ck, H⟩ := HH
  obtain ⟨ab, cb, kb, cl, H2⟩ := HH2
  have IH := Lib.hid IH0
  clear IH0
  obtain ⟨rfl, -, -, al, kl, hps, hks⟩ := H
  obtain ⟨rfl, -, -, al2, kl2, hqs, hls⟩ := H2
  obtain ⟨m1, m2, m3⟩ := M1
  obtain ⟨m4, m5, m6⟩ := M2
  simp only at al kl hps hks al2 kl2 hqs hls m1 m2 m3 m4 m5 m6 ⊢
  have m3 : ∀ x ∈ ks, SmallT h x := m3
  have m6 : ∀ x ∈ ls, SmallT h x := m6
  have P1 := Lib.hid (fun w' (hb : Below w.heap.size w w') => rplain_any h ka ck ks w' (TRowT.on (hks.on (kept_of (Below.refl _ _)) (fun _ _ _ => trivial) (fun _ _ hx => hx.all)) hb) (Nat.le_trans m2 (by omega)))
  have P2 := Lib.hid (fun w' (hb : Below w.heap.size w w') => rplain_any h kb cl ls w' (TRowT.on (hls.on (kept_of (Below.refl _ _)) (fun _ _ _ => trivial) (fun _ _ hx => hx.all)) hb) (Nat.le_trans m5 (by omega)))
  have C1 := Lib.hid (fun p w' (hb : Below w.heap.size w w') => count_any aa ca ps p S1 w' (hps.on (kept_of hb) fun _ h _ => h) al)
  have C2 := Lib.hid (fun p w' (hb : Below w.heap.size w w') => count_any ab cb qs p S2 w' (hqs.on (kept_of hb) fun _ h _ => h) al2)
  have hsx : ∀ x ∈ plainT h ks, SmallT h x := fun x hx => m3 x (List.mem_filter.1 hx).1
  have hsy : ∀ x ∈ plainT h ls, SmallT h x := fun x hx => m6 x (List.mem_filter.1 hx).1
  have hlx : (plainT h ks).length ≤ 400 := Nat.le_trans (plain_le h ks) m2
  have hly : (plainT h ls).length ≤ 400 := Nat.le_trans (plain_le h ls) m5
  obtain ⟨RES, hR⟩ : ∃ r, nodeF (deepF h) (plainT h) ⟨k, n, v, ps, ks⟩ ⟨k2, n2, v2, qs, ls⟩ = r := ⟨_, rfl⟩
  rw [show deepF (h + 1) (⟨k, n, v, ps, ks⟩ : Nd (Tr h)) (⟨k2, n2, v2, qs, ls⟩ : Nd (Tr h)) = RES from hR]
  unfold nodeF at hR
  simp only at hR
  have HPS := Lib.hid hps
  have SX := Lib.hid hsx
  have SY := Lib.hid hsy
  clear hks hls hps hqs m3 m6 hsx hsy
  obtain ⟨xs, hxs⟩ : ∃ xs, plainT h ks = xs := ⟨_, rfl⟩
  obtain ⟨ys, hys⟩ : ∃ ys, plainT h ls = ys := ⟨_, rfl⟩
  rw [hxs] at P1 hR SX hlx
  rw [hys] at P2 hR SY hly
  obtain ⟨nx, hnx⟩ : ∃ nx, xs.length = nx := ⟨_, rfl⟩
  obtain ⟨ny, hny⟩ : ∃ ny, ys.length = ny := ⟨_, rfl⟩
  obtain ⟨np, hnp⟩ : ∃ np, ps.length = np := ⟨_, rfl⟩
  obtain ⟨nq, hnq⟩ : ∃ nq, qs.length = nq := ⟨_, rfl⟩
  rw [hnx] at P1 hlx
  rw [hny] at P2 hly
  rw [hnp] at C1 al m1
  rw [hnq] at C2 al2 m4
  rw [hnp, hnq]
  have HNX := Lib.hid hnx
  have HNY := Lib.hid hny
  have HNP := Lib.hid hnp
  have HNQ := Lib.hid hnq
  clear hxs hys hnx hny hnp hnq
  have ne : (k != k2) = false := by simpa using ek
  clear ek
  rw [ne] at hR
  simp only [Bool.false_eq_true, if_false] at hR
  cases e3 : (k == 3)
  · cases e4 : (k == 4)
    · cases e5 : (k == 5)
      · rw [e2, e1, e3, e4, e5] at hR
        replace hR : true = RES := hR
        subst hR
        have f2 : (k != 2) = true := by unfold bne; rw [e2]; rfl
        have f1 : (k != 1) = true := by unfold bne; rw [e1]; rfl
        go_enter Tryd.func9, Tryd.ntmps9
        go_wp2_with fail
        go_returns
        exact ⟨rfl, by go_grown⟩
      ·
        have e1 : (k == 1) = false := by simp at e5 ⊢; omega
        rw [e2, e1, e3, e4] at hR
        rw [e5] at hR
        replace hR : (v == v2) = RES := hR
        subst hR
        by_cases ev : v = v2
        · have g1 : (v.toList == v2.toList) = true := by rw [ev]; simp
          have g2 : (v.toList != v2.toList) = false := by rw [ev]; simp
          have g3 : (v == v2) = true := by simpa using ev
          clear ev
          go_enter Tryd.func9, Tryd.ntmps9
          go_wp2_with fail
          go_returns
          exact ⟨by simp only [g1, g3]; rfl, by go_grown⟩
        · obtain ⟨g1, g2⟩ := ne_list ev
          have g3 : (v == v2) = false := by simpa using ev
          clear ev
          go_enter Tryd.func9, Tryd.ntmps9
          go_wp2_with fail
          go_returns
          exact ⟨by simp only [g1, g3]; rfl, by go_grown⟩
    ·
      have e1 : (k == 1) = false := by simp at e4 ⊢; omega
      rw [e2, e1, e3, e4] at hR
      skip
      replace hR : (v == v2) = RES := hR
      subst hR
      by_cases ev : v = v2
      · have g1 : (v.toList == v2.toList) = true := by rw [ev]; simp
        have g2 : (v.toList != v2.toList) = false := by rw [ev]; simp
        have g3 : (v == v2) = true := by simpa using ev
        clear ev
        go_enter Tryd.func9, Tryd.ntmps9
        go_wp2_with fail
        go_returns
        exact ⟨by simp only [g1, g3]; rfl, by go_grown⟩
      · obtain ⟨g1, g2⟩ := ne_list ev
        have g3 : (v == v2) = false := by simpa using ev
        clear ev
        go_enter Tryd.func9, Tryd.ntmps9
        go_wp2_with fail
        go_returns
        exact ⟨by simp only [g1, g3]; rfl, by go_grown⟩
  · have e1 : (k == 1) = false := by simp at e3 ⊢; omega
    rw [e2, e1, e3] at hR
    replace hR : (n == n2 && v == v2) = RES := hR
    subst hR
    by_cases en : n = n2
    · have h1 : (n.toList == n2.toList) = true := by rw [en]; simp
      have h2 : (n.toList != n2.toList) = false := by rw [en]; simp
      have h3 : (n == n2) = true := by simpa using en
      clear en
      rw [h3, Bool.true_and]
      by_cases ev : v = v2
      · have g1 : (v.toList == v2.toList) = true := by rw [ev]; simp
        have g2 : (v.toList != v2.toList) = false := by rw [ev]; simp
        have g3 : (v == v2) = true := by simpa using ev
        clear ev
        go_enter Tryd.func9, Tryd.ntmps9
        go_wp2_with fail
        go_returns
        exact ⟨by simp only [g1, g3]; rfl, by go_grown⟩
      · obtain ⟨g1, g2⟩ := ne_list ev
        have g3 : (v == v2) = false := by simpa using ev
        clear ev
        go_enter Tryd.func9, Tryd.ntmps9
        go_wp2_with fail
        go_returns
        exact ⟨by simp only [g1, g3]; rfl, by go_grown⟩
    · obtain ⟨g1, g2⟩ := ne_list en
      have g3 : (n == n2) = false := by simpa using en
      clear en
      go_enter Tryd.func9, Tryd.ntmps9
      go_wp2_with fail
      go_returns
      exact ⟨by rw [g3]; rfl, by go_grown⟩
set_option maxRecDepth 100000 in
set_option maxHeartbeats 8000000 in
theorem rtrees_any : ∀ (h : Nat) (S1 S2 : Nat → Prop) (a b : Tr h) (cs ds : Array Value) (w : World), TLies S1 h w a cs → TLies S2 h w b ds → SmallT h a → SmallT h b → Calls Tryd.prog 9 #[.agg cs, .agg ds] w fun e w' => e = .returned (.bool (deepF h a b)) ∧ Below w.heap.size w w'
  | 0, _, _, a, _, _, _, _, _, _, _, _ => nomatch a
  | h + 1, S1, S2, (⟨k, n, v, ps, ks⟩ : Nd (Tr h)), (⟨k2, n2, v2, qs, ls⟩ : Nd (Tr h)), cs, ds, w, HH, HH2, M1, M2 => by
    by_cases ek : k = k2
    · cases e2 : (k == 2)
      · cases e1 : (k == 1)
        · exact rtrees_leaf h (fun x y cx cy w' => rtrees_any h All All x y cx cy w') S1 S2 k n v ps ks k2 n2 v2 qs ls cs ds w HH HH2 M1 M2 ek e2 e1
        · exact rtrees_doc h (fun x y cx cy w' => rtrees_any h All All x y cx cy w') S1 S2 k n v ps ks k2 n2 v2 qs ls cs ds w HH HH2 M1 M2 ek e2 e1
      · exact rtrees_elem h (fun x y cx cy w' => rtrees_any h All All x y cx cy w') S1 S2 k n v ps ks k2 n2 v2 qs ls cs ds w HH HH2 M1 M2 ek e2
    · obtain ⟨aa, ca, ka, ck, H⟩ := HH
      obtain ⟨ab, cb, kb, cl, H2⟩ := HH2
      obtain ⟨rfl, -, -, al, kl, hps, hks⟩ := H
      obtain ⟨rfl, -, -, al2, kl2, hqs, hls⟩ := H2
      simp only at al kl hps hks al2 kl2 hqs hls ⊢
      obtain ⟨RES, hR⟩ : ∃ r, nodeF (deepF h) (plainT h) ⟨k, n, v, ps, ks⟩ ⟨k2, n2, v2, qs, ls⟩ = r := ⟨_, rfl⟩
      rw [show deepF (h + 1) (⟨k, n, v, ps, ks⟩ : Nd (Tr h)) (⟨k2, n2, v2, qs, ls⟩ : Nd (Tr h)) = RES from hR]
      unfold nodeF at hR
      simp only at hR
      clear hks hls hps hqs
      have ne : (k != k2) = true := by simpa using ek
      clear ek
      rw [ne] at hR
      replace hR : false = RES := hR
      subst hR
      go_enter Tryd.func9, Tryd.ntmps9
      go_wp2_with fail
      go_returns
      exact ⟨rfl, by go_grown⟩
end Go.Proofs.YtgdbbocfiejlfaaDoor

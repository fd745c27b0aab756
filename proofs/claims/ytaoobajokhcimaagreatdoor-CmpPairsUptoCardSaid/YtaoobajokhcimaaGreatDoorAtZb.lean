/- The document's casts of texts. -/
import Derived.Test.YtaoobajokhcimaaGreatDoorAtZ
import Derived.Test.YtaoobajokhcimaaGreatDoorAtK
set_option linter.unusedSimpArgs false
set_option linter.unusedVariables false
set_option linter.constructorNameAsVariable false
namespace Go.Proofs.YtaoobajokhcimaaGreatDoor
open Go.RowKit

theorem has_drop {p : UInt8 → Bool} {c : UInt8} (hc : p c = false) : ∀ l : List UInt8, (l.dropWhile p).contains c = l.contains c
  | [] => rfl
  | a :: l => by
    rw [List.dropWhile_cons]
    cases e : p a
    · rfl
    · have hne : (c == a) = false := by
        cases h : (c == a)
        · rfl
        · rw [beq_iff_eq] at h
          subst h
          rw [hc] at e
          cases e
      simp only [if_true]
      rw [has_drop hc l, List.contains_cons, hne]
      rfl
theorem trim_has (t : ByteArray) : (trimT t).contains 46 = t.data.toList.contains 46 := by
  unfold trimT Lib.trimS Lib.trimLeftS Lib.trimRightS
  rw [has_drop (by decide)]
  have h : ∀ l : List UInt8, l.reverse.contains 46 = l.contains 46 := fun l => by
    rw [Bool.eq_iff_iff]
    simp
  rw [h, has_drop (by decide), h]
theorem has_snoc (l : List UInt8) (i : Nat) (c x : UInt8) (hc : l[i]? = some c) : (l.take (i + 1)).contains x = ((l.take i).contains x || (c == x)) := by
  rw [List.take_add_one, hc]
  rw [Bool.eq_iff_iff]
  simp
  constructor
  · rintro (h | h)
    · exact .inl h
    · exact .inr h.symm
  · rintro (h | h)
    · exact .inl h
    · exact .inr h.symm
theorem c46 (c : UInt8) : (((c.toNat : Nat) : Int) == 46) = (c == 46) := by
  rw [Bool.eq_iff_iff]
  simp only [beq_iff_eq]
  constructor
  · intro h
    exact UInt8.toNat_inj.1 (show c.toNat = (46 : UInt8).toNat by have : (46 : UInt8).toNat = 46 := rfl; omega)
  · intro h
    subst h
    rfl
theorem parse_in (l : List UInt8) : -9223372036854775808 ≤ (parseF l).2.2 ∧ (parseF l).2.2 ≤ 9223372036854775807 := by
  unfold parseF
  split
  · exact ⟨by decide, by decide⟩
  · rcases fitW_cases (signF l).1 _ _ with h | ⟨n, k, h, hR, -, h2⟩
    · rw [h]; exact ⟨by decide, by decide⟩
    · rw [h]; exact ⟨by simp, by simp⟩
set_option maxRecDepth 100000 in
set_option maxHeartbeats 1000000 in
theorem rcast1_text (k n s : Int) (t : ByteArray) (b : Bool) (hk : k = 3 ∨ k = 5) (ht : t.size ≤ 2000000) (w : World) : Calls Tryz.prog 27 #[.agg #[.int .i64 k, .int .i64 n, .int .i64 s, .string t, .bool b], .int .i64 1] w fun e w' =>
    e = .returned (.tuple #[AV (toIntF ⟨k, n, s, t, b⟩).1, .int .i64 (toIntF ⟨k, n, s, t, b⟩).2]) ∧ Below w.heap.size w w' := by
  have CT := Lib.hid (fun w => rtrim_any t (by omega) w)
  have hXl := trimT_len t
  rw [bs_size] at hXl
  have CP := Lib.hid (show ∀ w, Calls Tryz.prog 56 #[.string (bs (trimT t))] w fun e w' => e = .returned (.tuple #[.int .i64 (parseF (trimT t)).1, .int .i64 (parseF (trimT t)).2.1, .int .i64 (parseF (trimT t)).2.2]) ∧ Below w.heap.size w w' from fun w => rparse_any (trimT t) (by omega) w)
  have hF : toIntF ⟨k, n, s, t, b⟩ = if (trimT t).contains 46 then (zeroA, 50) else if castE (parseF (trimT t)).2.2 == 0 then (ofA (parseF (trimT t)).1, 0) else (zeroA, castE (parseF (trimT t)).2.2) := by
    rw [trim_has]
    rcases hk with rfl | rfl <;> rfl
  have hS : (trimT t).contains 46 = false → (parseF (trimT t)).2.1 = 0 := parse_scale _
  have hr := parse_in (trimT t)
  rw [hF]
  clear hF
  generalize trimT t = X at *
  obtain ⟨p, q, r, hpq⟩ : ∃ p q r, parseF X = (p, q, r) := ⟨_, _, _, rfl⟩
  rw [hpq] at CP hS hr ⊢
  clear hpq
  simp only at CP hS hr ⊢
  obtain ⟨RV, RR, hR⟩ : ∃ RV RR, (if X.contains 46 then (zeroA, (50 : Int)) else if castE r == 0 then (ofA p, 0) else (zeroA, castE r)) = (RV, RR) := ⟨_, _, rfl⟩
  rw [hR]
  have HR := Lib.hid hR
  clear hR
  simp only
  have HS := Lib.hid hS
  clear hS
  obtain ⟨T, hT⟩ : ∃ T, T = bs X := ⟨_, rfl⟩
  have hz : T.size = X.length := by rw [hT, bs_size]
  have HAT := Lib.hid (show ∀ i (h : i < T.size), X[i]? = some (T[i]'h) from fun i h => by subst hT; exact t_at (bs X) i h)
  rw [← hT] at CT CP
  clear hT
  have ek1 : (k == 1) = false := by rcases hk with rfl | rfl <;> rfl
  have ek4 : (k == 4) = false := by rcases hk with rfl | rfl <;> rfl
  rcases hk with rfl | rfl
  all_goals
    go_enter Tryz.func27, Tryz.ntmps27
    go_wp2_with (first
      | (go_at_call 55; with_reducible refine (CT.out _).mono ?_; rintro e w1 ⟨rfl, rfl⟩)
      | (go_at_call 56; with_reducible refine (CP.out _).mono ?_; rintro e w1 ⟨rfl, hb⟩
         have B0 : Blk w1 w.heap.size #[.int .i64 _, .int .i64 n, .int .i64 s, .string t, .bool b] 24 := (Blk.alloc (Blk.here rfl rfl) _).below hb (by simp; omega)
         have B1 : Blk w1 (w.heap.size + 1) #[.int .i64 0, .int .i64 0, .int .i64 0, .string ⟨#[]⟩, .bool false] 24 := (Blk.here rfl (by simp)).below hb (by simp)
         have hw1 : Below w.heap.size w w1 := Below.trans (by go_grown) (hb.mono (by simp; omega))
         have k1 : w.heap.size + 1 < w1.heap.size := B1.lt
         have j1 : w.heap.size < w1.heap.size := B0.lt
         obtain ⟨⟨a0, a1, a2, a3, a4⟩, g0, g1, g2, g3, g4⟩ := B0.five
         obtain ⟨⟨c0, c1, c2, c3, c4⟩, f0, f1, f2, f3, f4⟩ := B1.five
         clear hb))
    go_loopg [9, 10] X.length (fun m ev iv wr => ∃ (i : Nat) (E : Int), m + i = X.length ∧ ev = .int .i64 E ∧ iv = .int .i64 (i : Int) ∧ Hid (E = if (X.take i).contains 46 then (12 : Int) else r) ∧ w1 = wr)
    case atStart => exact ⟨0, r, by omega, rfl, rfl, rfl, rfl⟩
    case round =>
      obtain ⟨i, E, hm, rfl, rfl, HV, rfl⟩ := hrel
      have hi0 : (0 : Int) ≤ (i : Int) := Int.natCast_nonneg _
      by_cases hlt : i < X.length
      · have hltT : i < T.size := by omega
        have d0 : decide ((i : Int) < (T.size : Int)) = true := by simp; omega
        have hat := HAT.out i hltT
        have hsn := has_snoc X i _ 46 hat
        have j3 : IntKind.i64.wrap ((i : Int) + 1) = (i : Int) + 1 := IntWalk.i64_in _ (by omega)
        rw [← c46] at hsn
        obtain ⟨c, hcT⟩ : ∃ c, T[i]'hltT = c := ⟨_, rfl⟩
        rw [hcT] at hsn
        obtain ⟨z, hzz⟩ : ∃ z : Int, (c.toNat : Int) = z := ⟨_, rfl⟩
        rw [hzz] at hsn
        clear hat
        cases e46 : (z == 46)
        · rw [e46] at hsn
          go_wp2_with fail
          go_roundg (gk - 1)
          case measure => omega
          case rel => exact ⟨i + 1, E, by omega, rfl, by go_num, by unfold Hid; rw [hsn, Bool.or_false]; exact HV.out, rfl⟩
        · rw [e46] at hsn
          go_wp2_with fail
          go_roundg (gk - 1)
          case measure => omega
          case rel => exact ⟨i + 1, 12, by omega, rfl, by go_num, by unfold Hid; rw [hsn, Bool.or_true]; rfl, rfl⟩

      · have d0 : decide ((i : Int) < (T.size : Int)) = false := by simp; omega
        have hiX : i = X.length := by omega
        clear HAT
        have hi : X.take i = X := List.take_of_length_le (by omega)
        have hv := HV.out
        rw [hi] at hv
        clear hi HV
        cases eX : X.contains 46
        · rw [eX] at hv
          have hv2 : r = E := hv.symm
          clear hv
          subst hv2
          have hq0 := HS.out eX
          subst hq0
          cases e12 : (r == 12)
          · have hE : castE r = r := by unfold castE; rw [e12]; rfl
            cases e0 : (r == 0)
            · have en : (r != 0) = true := by unfold bne; rw [e0]; rfl
              have hfin : (zeroA, (r : Int)) = (RV, RR) := by
                have h := HR.out
                rw [eX, hE, e0] at h
                exact h
              obtain ⟨hRV, hRR⟩ := Prod.mk.inj hfin
              subst hRV hRR
              clear hfin HR
              clear hE
              go_wp2_with fail
              refine bodyPost_ret (v := .tuple #[AV zeroA, .int .i64 r]) (by simp [c0, c1, c2, c3, c4, f0, f1, f2, f3, f4, k1, j1, results, Tryz.results27, go_sem] <;> first | done | rfl | exact ⟨rfl, rfl, rfl, rfl, rfl⟩ | exact ⟨rfl, rfl, rfl, rfl⟩ | exact ⟨rfl, rfl, rfl⟩ | exact ⟨rfl, rfl⟩) rfl ⟨rfl, ?_⟩
              go_grown
              all_goals first | exact hw1 | exact hw1.size
            · have en : (r != 0) = false := by unfold bne; rw [e0]; rfl
              have hfin : ((ofA p), (0 : Int)) = (RV, RR) := by
                have h := HR.out
                rw [eX, hE, e0] at h
                exact h
              obtain ⟨hRV, hRR⟩ := Prod.mk.inj hfin
              subst hRV hRR
              clear hfin HR
              clear hE
              go_wp2_with fail
              go_loop [6, 7] (fun u v => u = .int .i64 p ∧ v = .int .i64 0) (fun _ _ => 0)
              case atStart => exact ⟨rfl, rfl⟩
              case round =>
                obtain ⟨rfl, rfl⟩ := hrel
                go_wp2_with fail
                refine bodyPost_ret (v := .tuple #[AV (ofA p), .int .i64 0]) (by simp [c0, c1, c2, c3, c4, f0, f1, f2, f3, f4, k1, j1, results, Tryz.results27, go_sem] <;> first | done | rfl | exact ⟨rfl, rfl, rfl, rfl, rfl⟩ | exact ⟨rfl, rfl, rfl, rfl⟩ | exact ⟨rfl, rfl, rfl⟩ | exact ⟨rfl, rfl⟩) rfl ⟨rfl, ?_⟩
                go_grown
                all_goals first | exact hw1 | exact hw1.size
          · have hE : castE r = 50 := by unfold castE; rw [e12]; rfl
            have hfin : (zeroA, (50 : Int)) = (RV, RR) := by
              have h := HR.out
              rw [eX, hE] at h
              exact h
            obtain ⟨hRV, hRR⟩ := Prod.mk.inj hfin
            subst hRV hRR
            clear hfin HR
            clear hE
            go_wp2_with fail
            refine bodyPost_ret (v := .tuple #[AV zeroA, .int .i64 50]) (by simp [c0, c1, c2, c3, c4, f0, f1, f2, f3, f4, k1, j1, results, Tryz.results27, go_sem] <;> first | done | rfl | exact ⟨rfl, rfl, rfl, rfl, rfl⟩ | exact ⟨rfl, rfl, rfl, rfl⟩ | exact ⟨rfl, rfl, rfl⟩ | exact ⟨rfl, rfl⟩) rfl ⟨rfl, ?_⟩
            go_grown
            all_goals first | exact hw1 | exact hw1.size
        · rw [eX] at hv
          have hv2 : 12 = E := hv.symm
          clear hv
          subst hv2
          have hfin : (zeroA, (50 : Int)) = (RV, RR) := by
            have h := HR.out
            rw [eX] at h
            exact h
          obtain ⟨hRV, hRR⟩ := Prod.mk.inj hfin
          subst hRV hRR
          clear hfin HR
          go_wp2_with fail
          refine bodyPost_ret (v := .tuple #[AV zeroA, .int .i64 50]) (by simp [c0, c1, c2, c3, c4, f0, f1, f2, f3, f4, k1, j1, results, Tryz.results27, go_sem] <;> first | done | rfl | exact ⟨rfl, rfl, rfl, rfl, rfl⟩ | exact ⟨rfl, rfl, rfl, rfl⟩ | exact ⟨rfl, rfl, rfl⟩ | exact ⟨rfl, rfl⟩) rfl ⟨rfl, ?_⟩
          go_grown
          all_goals first | exact hw1 | exact hw1.size

set_option maxRecDepth 100000 in
set_option maxHeartbeats 1000000 in
theorem rcast2_text (k n s : Int) (t : ByteArray) (b : Bool) (hk : k = 3 ∨ k = 5) (ht : t.size ≤ 2000000) (w : World) : Calls Tryz.prog 27 #[.agg #[.int .i64 k, .int .i64 n, .int .i64 s, .string t, .bool b], .int .i64 2] w fun e w' =>
    e = .returned (.tuple #[AV (toDecF ⟨k, n, s, t, b⟩).1, .int .i64 (toDecF ⟨k, n, s, t, b⟩).2]) ∧ Below w.heap.size w w' := by
  have CT := Lib.hid (fun w => rtrim_any t (by omega) w)
  have hXl := trimT_len t
  rw [bs_size] at hXl
  have CP := Lib.hid (show ∀ w, Calls Tryz.prog 56 #[.string (bs (trimT t))] w fun e w' => e = .returned (.tuple #[.int .i64 (parseF (trimT t)).1, .int .i64 (parseF (trimT t)).2.1, .int .i64 (parseF (trimT t)).2.2]) ∧ Below w.heap.size w w' from fun w => rparse_any (trimT t) (by omega) w)
  have hF : toDecF ⟨k, n, s, t, b⟩ = if castE (parseF (trimT t)).2.2 == 0 then (numA (parseF (trimT t)).1 (parseF (trimT t)).2.1, 0) else (zeroA, castE (parseF (trimT t)).2.2) := by
    rcases hk with rfl | rfl <;> rfl
  have hr := parse_in (trimT t)
  rw [hF]
  clear hF
  generalize trimT t = X at *
  obtain ⟨p, q, r, hpq⟩ : ∃ p q r, parseF X = (p, q, r) := ⟨_, _, _, rfl⟩
  rw [hpq] at CP hr ⊢
  clear hpq
  simp only at CP hr ⊢
  obtain ⟨RV, RR, hR⟩ : ∃ RV RR, (if castE r == 0 then (numA p q, 0) else (zeroA, castE r)) = (RV, RR) := ⟨_, _, rfl⟩
  rw [hR]
  have HR := Lib.hid hR
  clear hR
  simp only
  skip
  skip
  obtain ⟨T, hT⟩ : ∃ T, T = bs X := ⟨_, rfl⟩
  have hz : T.size = X.length := by rw [hT, bs_size]
  have HAT := Lib.hid (show ∀ i (h : i < T.size), X[i]? = some (T[i]'h) from fun i h => by subst hT; exact t_at (bs X) i h)
  rw [← hT] at CT CP
  clear hT
  have ek2 : (k == 2) = false := by rcases hk with rfl | rfl <;> rfl
  have ek4 : (k == 4) = false := by rcases hk with rfl | rfl <;> rfl
  rcases hk with rfl | rfl
  all_goals
    go_enter Tryz.func27, Tryz.ntmps27
    go_wp2_with (first
      | (go_at_call 55; with_reducible refine (CT.out _).mono ?_; rintro e w1 ⟨rfl, rfl⟩)
      | (go_at_call 56; with_reducible refine (CP.out _).mono ?_; rintro e w1 ⟨rfl, hb⟩
         have B0 : Blk w1 w.heap.size #[.int .i64 _, .int .i64 n, .int .i64 s, .string t, .bool b] 24 := (Blk.alloc (Blk.here rfl rfl) _).below hb (by simp; omega)
         have B1 : Blk w1 (w.heap.size + 1) #[.int .i64 0, .int .i64 0, .int .i64 0, .string ⟨#[]⟩, .bool false] 24 := (Blk.here rfl (by simp)).below hb (by simp)
         have hw1 : Below w.heap.size w w1 := Below.trans (by go_grown) (hb.mono (by simp; omega))
         have k1 : w.heap.size + 1 < w1.heap.size := B1.lt
         have j1 : w.heap.size < w1.heap.size := B0.lt
         obtain ⟨⟨a0, a1, a2, a3, a4⟩, g0, g1, g2, g3, g4⟩ := B0.five
         obtain ⟨⟨c0, c1, c2, c3, c4⟩, f0, f1, f2, f3, f4⟩ := B1.five
         clear hb))
    go_loopg [9, 10] X.length (fun m ev iv wr => ∃ (i : Nat), m + i = X.length ∧ ev = .int .i64 r ∧ iv = .int .i64 (i : Int) ∧ w1 = wr)
    case atStart => exact ⟨0, by omega, rfl, rfl, rfl⟩
    case round =>
      obtain ⟨i, hm, rfl, rfl, rfl⟩ := hrel
      have hi0 : (0 : Int) ≤ (i : Int) := Int.natCast_nonneg _
      by_cases hlt : i < X.length
      · have hltT : i < T.size := by omega
        have d0 : decide ((i : Int) < (T.size : Int)) = true := by simp; omega
        have hat := HAT.out i hltT
        have hsn := has_snoc X i _ 46 hat
        have j3 : IntKind.i64.wrap ((i : Int) + 1) = (i : Int) + 1 := IntWalk.i64_in _ (by omega)
        rw [← c46] at hsn
        obtain ⟨c, hcT⟩ : ∃ c, T[i]'hltT = c := ⟨_, rfl⟩
        rw [hcT] at hsn
        obtain ⟨z, hzz⟩ : ∃ z : Int, (c.toNat : Int) = z := ⟨_, rfl⟩
        rw [hzz] at hsn
        clear hat
        cases e46 : (z == 46)
        all_goals
          go_wp2_with fail
          go_roundg (gk - 1)
          case measure => omega
          case rel => exact ⟨i + 1, by omega, rfl, by go_num, rfl⟩

      · have d0 : decide ((i : Int) < (T.size : Int)) = false := by simp; omega
        have hiX : i = X.length := by omega
        clear HAT
        cases e12 : (r == 12)
        · have hE : castE r = r := by unfold castE; rw [e12]; rfl
          cases e0 : (r == 0)
          · have en : (r != 0) = true := by unfold bne; rw [e0]; rfl
            have hfin : (zeroA, (r : Int)) = (RV, RR) := by
              have h := HR.out
              rw [hE, e0] at h
              exact h
            obtain ⟨hRV, hRR⟩ := Prod.mk.inj hfin
            subst hRV hRR
            clear hfin HR
            clear hE
            go_wp2_with fail
            refine bodyPost_ret (v := .tuple #[AV zeroA, .int .i64 r]) (by simp [c0, c1, c2, c3, c4, f0, f1, f2, f3, f4, k1, j1, results, Tryz.results27, go_sem] <;> first | done | rfl | exact ⟨rfl, rfl, rfl, rfl, rfl⟩ | exact ⟨rfl, rfl, rfl, rfl⟩ | exact ⟨rfl, rfl, rfl⟩ | exact ⟨rfl, rfl⟩) rfl ⟨rfl, ?_⟩
            go_grown
            all_goals first | exact hw1 | exact hw1.size
          · have en : (r != 0) = false := by unfold bne; rw [e0]; rfl
            have hfin : ((numA p q), (0 : Int)) = (RV, RR) := by
              have h := HR.out
              rw [hE, e0] at h
              exact h
            obtain ⟨hRV, hRR⟩ := Prod.mk.inj hfin
            subst hRV hRR
            clear hfin HR
            clear hE
            go_wp2_with fail
            refine bodyPost_ret (v := .tuple #[AV (numA p q), .int .i64 0]) (by simp [c0, c1, c2, c3, c4, f0, f1, f2, f3, f4, k1, j1, results, Tryz.results27, go_sem] <;> first | done | rfl | exact ⟨rfl, rfl, rfl, rfl, rfl⟩ | exact ⟨rfl, rfl, rfl, rfl⟩ | exact ⟨rfl, rfl, rfl⟩ | exact ⟨rfl, rfl⟩) rfl ⟨rfl, ?_⟩
            go_grown
            all_goals first | exact hw1 | exact hw1.size
        · have hE : castE r = 50 := by unfold castE; rw [e12]; rfl
          have hfin : (zeroA, (50 : Int)) = (RV, RR) := by
            have h := HR.out
            rw [hE] at h
            exact h
          obtain ⟨hRV, hRR⟩ := Prod.mk.inj hfin
          subst hRV hRR
          clear hfin HR
          clear hE
          go_wp2_with fail
          refine bodyPost_ret (v := .tuple #[AV zeroA, .int .i64 50]) (by simp [c0, c1, c2, c3, c4, f0, f1, f2, f3, f4, k1, j1, results, Tryz.results27, go_sem] <;> first | done | rfl | exact ⟨rfl, rfl, rfl, rfl, rfl⟩ | exact ⟨rfl, rfl, rfl, rfl⟩ | exact ⟨rfl, rfl, rfl⟩ | exact ⟨rfl, rfl⟩) rfl ⟨rfl, ?_⟩
          go_grown
          all_goals first | exact hw1 | exact hw1.size

end Go.Proofs.YtaoobajokhcimaaGreatDoor

import Derived.Test.YtecaahcmebdglaaQuoC
namespace Go.Proofs.Ytecaahcmebdglaa
open Go.RowKit
theorem enough5 (w : World) : Calls Try.prog 16 #[.int .i64 5] w fun e w' => e = .returned (.int .i64 3) ∧ w = w' := enough_any 5 w
theorem primary34 (w : World) : Calls Try.prog 18 #[.int .i64 3, .int .i64 4] w fun e w' => e = .returned (.int .i64 2) ∧ w = w' := primary_any 3 4 w (by decide)
theorem with13 (w : World) : Calls Try.prog 20 #[.int .i64 1, .int .i64 3] w fun e w' => e = .returned (.int .i64 5) ∧ w = w' := with_any 1 3 w (by decide) (by decide)
theorem size5 (w : World) : Calls Try.prog 24 #[.int .i64 5] w fun e w' => e = .returned (.int .i64 2) ∧ w = w' := size_any 5 w (by decide)
theorem awake16_any (w : World) : Calls Try.prog 14 #[] w fun e w' => e = .returned (.bool true) ∧ w = w' := by
  go_enter Try.func14, Try.ntmps14
  go_wp2_with fail
  refine (enough5 _).mono ?_
  rintro e w1 ⟨rfl, rfl⟩
  go_wp2_with fail
  refine (primary34 _).mono ?_
  rintro e w1 ⟨rfl, rfl⟩
  go_wp2_with fail
  refine (with13 _).mono ?_
  rintro e w1 ⟨rfl, rfl⟩
  go_wp2_with fail
  refine (size5 _).mono ?_
  rintro e w1 ⟨rfl, rfl⟩
  go_wp2_with fail
  go_ret
  exact ⟨rfl, rfl⟩
set_option maxHeartbeats 400000 in
theorem walkQuorumCounts (a0 : Int) (a1 : Int) (_b0 : -9223372036854775808 ≤ a0 ∧ a0 ≤ 9223372036854775807) (b1 : -9223372036854775808 ≤ a1 ∧ a1 ≤ 9223372036854775807) (w : World) :
    Calls Try.prog 3 #[.int .i64 a0, .int .i64 a1] w fun e w' => e = .returned (.bool true) ∧ Below w.heap.size w w' := by
  rcases cases_count a0 with rfl | rfl | ⟨h3, h5, n3, n5⟩
  · go_enter Try.func3, Try.ntmps3
    go_wp2_with fail
    refine (awake16_any _).mono ?_
    rintro e w1 ⟨rfl, rfl⟩
    go_wp2_with fail
    refine (may_yes _ _ (.inl rfl)).mono ?_
    rintro e w1 ⟨rfl, rfl⟩
    go_wp2_with fail
    refine (enough_any _ _).mono ?_
    rintro e w1 ⟨rfl, rfl⟩
    go_wp2_with fail
    refine (refenough_any _ _).mono ?_
    rintro e w1 ⟨rfl, rfl⟩
    go_wp2_with fail
    refine (primary_any _ _ _ b1).mono ?_
    rintro e w1 ⟨rfl, rfl⟩
    go_wp2_with fail
    refine (refprimary_any _ _ _ b1).mono ?_
    rintro e w1 ⟨rfl, rfl⟩
    go_wp2_with fail
    go_ret
    exact ⟨ret_bool (by simp), Below.refl _ _⟩
  · go_enter Try.func3, Try.ntmps3
    go_wp2_with fail
    refine (awake16_any _).mono ?_
    rintro e w1 ⟨rfl, rfl⟩
    go_wp2_with fail
    refine (may_yes _ _ (.inr rfl)).mono ?_
    rintro e w1 ⟨rfl, rfl⟩
    go_wp2_with fail
    refine (enough_any _ _).mono ?_
    rintro e w1 ⟨rfl, rfl⟩
    go_wp2_with fail
    refine (refenough_any _ _).mono ?_
    rintro e w1 ⟨rfl, rfl⟩
    go_wp2_with fail
    refine (primary_any _ _ _ b1).mono ?_
    rintro e w1 ⟨rfl, rfl⟩
    go_wp2_with fail
    refine (refprimary_any _ _ _ b1).mono ?_
    rintro e w1 ⟨rfl, rfl⟩
    go_wp2_with fail
    go_ret
    exact ⟨ret_bool (by simp), Below.refl _ _⟩
  · clear n3 n5
    go_enter Try.func3, Try.ntmps3
    go_wp2_with fail
    refine (awake16_any _).mono ?_
    rintro e w1 ⟨rfl, rfl⟩
    go_wp2_with fail
    refine (may_no _ _ h3 h5).mono ?_
    rintro e w1 ⟨rfl, rfl⟩
    go_wp2_with fail
    refine (enough_any _ _).mono ?_
    rintro e w1 ⟨rfl, rfl⟩
    go_wp2_with fail
    refine (refenough_any _ _).mono ?_
    rintro e w1 ⟨rfl, rfl⟩
    go_wp2_with fail
    refine (primary_any _ _ _ b1).mono ?_
    rintro e w1 ⟨rfl, rfl⟩
    go_wp2_with fail
    refine (refprimary_any _ _ _ b1).mono ?_
    rintro e w1 ⟨rfl, rfl⟩
    go_wp2_with fail
    go_ret
    exact ⟨ret_bool (by simp), Below.refl _ _⟩
theorem qs_id (n : Nat) (h : n < 32) : qs (n : Int) = n := by unfold qs; omega
set_option maxHeartbeats 800000 in
theorem walkQuorumSets (a0 : Int) (a1 : Int) (b0 : -9223372036854775808 ≤ a0 ∧ a0 ≤ 9223372036854775807) (b1 : -9223372036854775808 ≤ a1 ∧ a1 ≤ 9223372036854775807) (w : World) :
    Calls Try.prog 4 #[.int .i64 a0, .int .i64 a1] w fun e w' => e = .returned (.bool true) ∧ Below w.heap.size w w' := by
  have hx := Quo.has_wth (qs a0) a1
  have hwl := Quo.wth_lt (qs a0) a1 (qs_lt a0)
  rw [← qs_id (Quo.wth (qs a0) a1) hwl] at hx
  obtain ⟨x, hxx⟩ : ∃ x, x = Quo.wth (qs a0) a1 := ⟨_, rfl⟩
  have c1 := fun w => with_any a0 a1 w b0 b1
  have c2 := fun w => refwith_any a0 a1 w b0 b1
  have c3 := fun w => has_any a0 a1 w b0 b1
  have c4 := fun w => refhas_any a0 a1 w b0 b1
  have c5 := fun w => size_any a0 w b0
  have c6 := fun w => refsize_any a0 w b0
  rw [← hxx] at hx hwl c1 c2
  have c7 := fun w => has_any (x : Int) a1 w (by omega) b1
  rw [hx] at c7
  generalize Quo.has (qs a0) a1 = ha at c3 c4
  generalize Quo.size (qs a0) = hs at c5 c6
  have C1 := Lib.hid c1
  have C2 := Lib.hid c2
  have C3 := Lib.hid c3
  have C4 := Lib.hid c4
  have C5 := Lib.hid c5
  have C6 := Lib.hid c6
  have C7 := Lib.hid c7
  clear c1 c2 c3 c4 c5 c6 c7 hx hxx
  go_enter Try.func4, Try.ntmps4
  go_wp2_with fail
  refine (awake16_any _).mono ?_
  rintro e w1 ⟨rfl, rfl⟩
  go_wp2_with fail
  refine (C1.out _).mono ?_
  rintro e w1 ⟨rfl, rfl⟩
  go_wp2_with fail
  refine (C2.out _).mono ?_
  rintro e w1 ⟨rfl, hb1⟩
  go_wp2_with fail
  refine (C3.out _).mono ?_
  rintro e w2 ⟨rfl, rfl⟩
  go_wp2_with fail
  refine (C4.out _).mono ?_
  rintro e w2 ⟨rfl, hb2⟩
  go_wp2_with fail
  refine (C5.out _).mono ?_
  rintro e w3 ⟨rfl, rfl⟩
  go_wp2_with fail
  refine (C6.out _).mono ?_
  rintro e w3 ⟨rfl, hb3⟩
  go_wp2_with fail
  refine (C7.out _).mono ?_
  rintro e w4 ⟨rfl, rfl⟩
  go_wp2_with fail
  all_goals go_ret
  all_goals exact ⟨ret_bool (by simp), (hb1.trans (hb2.mono hb1.size)).trans (hb3.mono (Nat.le_trans hb1.size hb2.size))⟩
theorem may_at (c : Nat) (w : World) (h : c = 3 ∨ c = 5) : Calls Try.prog 15 #[.int .i64 c] w fun e w' => e = .returned (.bool true) ∧ w = w' := may_yes c w (by omega)
/-- The leader of a view, as a place in a set. -/
theorem turns_primary (c v k r : Nat) (hc : c = 3 ∨ c = 5) (hr : r = v % c) : Quo.primary (c : Int) ((v : Int) + (k : Int)) = (((r + k) % c : Nat) : Int) + 1 := by
  rw [prim_yes _ _ (by omega) (by omega)]
  subst hr
  have : ((v : Int) + k) % (c : Int) = (((v % c + k) % c : Nat) : Int) := by
    rw [Nat.mod_add_mod, Int.natCast_emod, Int.natCast_add]
  rw [this]
theorem turns_has (s p c : Nat) (hp : p < c) (hc : c = 3 ∨ c = 5) : Quo.has s ((p : Int) + 1) = s.testBit p := by
  unfold Quo.has
  have e : ((p : Int) + 1 - 1).toNat = p := by omega
  rw [e, decide_eq_true (by omega : (1 : Int) ≤ (p : Int) + 1), decide_eq_true (by omega : (p : Int) + 1 ≤ 5)]
  simp
theorem turns_wth (s p c : Nat) (hp : p < c) (hc : c = 3 ∨ c = 5) : Quo.wth s ((p : Int) + 1) = s ||| 2 ^ p := by
  unfold Quo.wth
  rw [if_pos (by omega), show ((p : Int) + 1 - 1).toNat = p from by omega]
set_option maxHeartbeats 800000 in
theorem turns_in (c v : Nat) (hc : c = 3 ∨ c = 5) (hv : v ≤ 1152921504606846976) (w : World) :
    Calls Try.prog 6 #[.int .i64 c, .int .i64 v] w fun e w' => e = .returned (.bool true) ∧ Below w.heap.size w w' := by
  have hc5 : c ≤ 5 := by omega
  have hc3 : 3 ≤ c := by omega
  have HC := Lib.hid hc
  obtain ⟨r, hr⟩ : ∃ r, r = v % c := ⟨_, rfl⟩
  have hrc : r < c := by rw [hr]; exact Nat.mod_lt _ (by omega)
  have HR := Lib.hid hr
  clear hc hr
  go_enter Try.func6, Try.ntmps6
  go_wp2_with fail
  refine (awake16_any _).mono ?_
  rintro e w1 ⟨rfl, rfl⟩
  go_wp2_with fail
  refine (may_at _ _ HC.out).mono ?_
  rintro e w1 ⟨rfl, rfl⟩
  go_wp2_with fail
  go_loop [5, 6] (fun s i => ∃ k : Nat, k ≤ c ∧ i = .int .i64 k ∧ s = .int .i64 (Quo.turns c r k)) (fun _ i => c - (intOf i).toNat)
  case atStart => exact ⟨0, by omega, rfl, rfl⟩
  case round =>
    obtain ⟨k, hk, rfl, rfl⟩ := hrel
    by_cases hlt : k < c
    · obtain ⟨hnew, h32⟩ := Quo.turns_new c r k HC.out hrc hlt
      have hp : (r + k) % c < c := Nat.mod_lt _ (by omega)
      have c1 := fun w => primary_any (c : Int) ((v : Int) + (k : Int)) w (by omega)
      rw [turns_primary c v k r HC.out HR.out] at c1
      have hs : Quo.turns c r (k + 1) = Quo.turns c r k ||| 2 ^ ((r + k) % c) := rfl
      obtain ⟨p, hpp⟩ : ∃ p, p = (r + k) % c := ⟨_, rfl⟩
      obtain ⟨t, htt⟩ : ∃ t, t = Quo.turns c r k := ⟨_, rfl⟩
      rw [← hpp] at c1 hp hnew hs
      rw [← htt] at hnew h32 hs ⊢
      have c2 := fun w => has_any (t : Int) ((p : Int) + 1) w (by omega) (by omega)
      have c3 := fun w => with_any (t : Int) ((p : Int) + 1) w (by omega) (by omega)
      rw [qs_id t h32, turns_has t p c hp HC.out, hnew] at c2
      rw [qs_id t h32, turns_wth t p c hp HC.out, ← hs] at c3
      have C1 := Lib.hid c1
      have C2 := Lib.hid c2
      have C3 := Lib.hid c3
      clear c1 c2 c3 hs hnew hpp htt
      go_wp2_with fail
      refine (C1.out _).mono ?_
      rintro e w1 ⟨rfl, rfl⟩
      go_wp2_with fail
      refine (C2.out _).mono ?_
      rintro e w1 ⟨rfl, rfl⟩
      go_wp2_with fail
      refine (C3.out _).mono ?_
      rintro e w1 ⟨rfl, rfl⟩
      go_wp2_with fail
      go_round
      case rel => exact ⟨k + 1, by omega, by go_num, rfl⟩
      case measure => simp [intOf]; omega
    · obtain rfl : k = c := by omega
      obtain ⟨hall, h32⟩ := Quo.turns_all k r HC.out hrc
      have c4 := fun w => size_any (Quo.turns k r k : Int) w (by omega)
      rw [qs_id _ h32, hall] at c4
      have C4 := Lib.hid c4
      clear c4 hall
      go_wp2_with fail
      refine (C4.out _).mono ?_
      rintro e w1 ⟨rfl, rfl⟩
      go_wp2_with fail
      go_ret
      exact ⟨rfl, Below.refl _ _⟩
set_option maxHeartbeats 800000 in
theorem walkQuorumTurns (a0 : Int) (a1 : Int) (_b0 : -9223372036854775808 ≤ a0 ∧ a0 ≤ 9223372036854775807) (_b1 : -9223372036854775808 ≤ a1 ∧ a1 ≤ 9223372036854775807) (w : World) :
    Calls Try.prog 6 #[.int .i64 a0, .int .i64 a1] w fun e w' => e = .returned (.bool true) ∧ Below w.heap.size w w' := by
  rcases cases_count a0 with h | h | ⟨h3, h5, _, _⟩
  case inr.inr =>
    go_enter Try.func6, Try.ntmps6
    go_wp2_with fail
    refine (awake16_any _).mono ?_
    rintro e w1 ⟨rfl, rfl⟩
    go_wp2_with fail
    refine (may_no _ _ h3 h5).mono ?_
    rintro e w1 ⟨rfl, rfl⟩
    go_wp2_with fail
    go_ret
    exact ⟨rfl, Below.refl _ _⟩
  all_goals
    have hm : a0 = 3 ∨ a0 = 5 := by omega
    by_cases hin : 0 ≤ a1 ∧ a1 ≤ 1152921504606846976
    · obtain ⟨v, rfl⟩ := Int.eq_ofNat_of_zero_le hin.1
      obtain ⟨c, rfl⟩ := Int.eq_ofNat_of_zero_le (show 0 ≤ a0 from by omega)
      exact turns_in c v (by omega) (by omega) w
    · have HM := Lib.hid hm
      clear hm h
      by_cases h0 : a1 < 0
      · go_enter Try.func6, Try.ntmps6
        go_wp2_with fail
        refine (awake16_any _).mono ?_
        rintro e w1 ⟨rfl, rfl⟩
        go_wp2_with fail
        refine (may_yes _ _ HM.out).mono ?_
        rintro e w1 ⟨rfl, rfl⟩
        go_wp2_with fail
        go_ret
        exact ⟨rfl, Below.refl _ _⟩
      · have hgt : 1152921504606846976 < a1 := by omega
        go_enter Try.func6, Try.ntmps6
        go_wp2_with fail
        refine (awake16_any _).mono ?_
        rintro e w1 ⟨rfl, rfl⟩
        go_wp2_with fail
        refine (may_yes _ _ HM.out).mono ?_
        rintro e w1 ⟨rfl, rfl⟩
        go_wp2_with fail
        go_ret
        exact ⟨rfl, Below.refl _ _⟩
end Go.Proofs.Ytecaahcmebdglaa

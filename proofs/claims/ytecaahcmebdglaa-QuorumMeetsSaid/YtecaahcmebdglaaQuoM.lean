import Derived.Test.YtecaahcmebdglaaQuoW
namespace Go.Proofs.Ytecaahcmebdglaa
open Go.RowKit
theorem low_lt (a c : Nat) (hc : c ≤ 5) : a % 2 ^ c < 32 := Nat.lt_of_lt_of_le (Nat.mod_lt _ (Nat.two_pow_pos c)) (Nat.pow_le_pow_right (n := 2) (j := 5) (by decide) hc)
theorem low_bit (a c i : Nat) (h : i < c) : (a % 2 ^ c).testBit i = a.testBit i := by rw [Nat.testBit_mod_two_pow]; simp [h]
theorem meet_all (c : Nat) (n : Int) (x y : Nat) (hc : c = 3 ∨ c = 5) (hn : n = Quo.enough c) (hx : n ≤ (Quo.size (x % 2 ^ c) : Nat)) (hy : n ≤ (Quo.size (y % 2 ^ c) : Nat)) : ∃ k, k < c ∧ (x % 2 ^ c).testBit k = true ∧ (y % 2 ^ c).testBit k = true := by
  subst hn
  rcases hc with rfl | rfl
  · have e : Quo.enough ((3 : Nat) : Int) = 2 := rfl
    rw [e] at hx hy
    exact Quo.meets3 _ _ (Nat.mod_lt _ (by decide)) (Nat.mod_lt _ (by decide)) (by omega) (by omega)
  · have e : Quo.enough ((5 : Nat) : Int) = 3 := rfl
    rw [e] at hx hy
    exact Quo.meets _ _ (Nat.mod_lt _ (by decide)) (Nat.mod_lt _ (by decide)) (by omega) (by omega)
/-- One more replica taken over into the part of a set. -/
theorem low_with (a k : Nat) (hk : k < 5) (w : World) : Calls Try.prog 20 #[.int .i64 ((a % 2 ^ k : Nat) : Int), .int .i64 ((k : Int) + 1)] w fun e w' => e = .returned (.int .i64 (((a % 2 ^ k) ||| 2 ^ k : Nat) : Int)) ∧ w = w' := by
  have h32 := low_lt a k (by omega)
  have c := with_any ((a % 2 ^ k : Nat) : Int) ((k : Int) + 1) w (by omega) (by omega)
  rw [qs_id _ h32, turns_wth _ k 5 hk (.inr rfl)] at c
  exact c
theorem bit_has (a : Int) (k : Nat) (hk : k < 5) (ha : -9223372036854775808 ≤ a ∧ a ≤ 9223372036854775807) (w : World) : Calls Try.prog 22 #[.int .i64 a, .int .i64 ((k : Int) + 1)] w fun e w' => e = .returned (.bool ((qs a).testBit k)) ∧ w = w' := by
  have c := has_any a ((k : Int) + 1) w ha (by omega)
  rw [turns_has _ k 5 hk (.inr rfl)] at c
  exact c
theorem bit_low (a c k : Nat) (hk : k < c) (hc : c ≤ 5) (w : World) : Calls Try.prog 22 #[.int .i64 ((a % 2 ^ c : Nat) : Int), .int .i64 ((k : Int) + 1)] w fun e w' => e = .returned (.bool ((a % 2 ^ c).testBit k)) ∧ w = w' := by
  have h32 := low_lt a c hc
  have := bit_has ((a % 2 ^ c : Nat) : Int) k (by omega) (by omega) w
  rw [qs_id _ h32] at this
  exact this
theorem size_low (a c : Nat) (hc : c ≤ 5) (w : World) : Calls Try.prog 24 #[.int .i64 ((a % 2 ^ c : Nat) : Int)] w fun e w' => e = .returned (.int .i64 (Quo.size (a % 2 ^ c))) ∧ w = w' := by
  have h32 := low_lt a c hc
  have := size_any ((a % 2 ^ c : Nat) : Int) w (by omega)
  rw [qs_id _ h32] at this
  exact this
theorem enough_at (c : Nat) (n : Int) (w : World) (hn : n = Quo.enough c) : Calls Try.prog 16 #[.int .i64 c] w fun e w' => e = .returned (.int .i64 n) ∧ w = w' := by
  rw [hn]; exact enough_any c w
set_option maxHeartbeats 1600000 in
theorem meets_in (c : Nat) (a b : Int) (hc : c = 3 ∨ c = 5) (ha : -9223372036854775808 ≤ a ∧ a ≤ 9223372036854775807) (hb : -9223372036854775808 ≤ b ∧ b ≤ 9223372036854775807) (w : World) :
    Calls Try.prog 5 #[.int .i64 c, .int .i64 a, .int .i64 b] w fun e w' => e = .returned (.bool true) ∧ Below w.heap.size w w' := by
  have hc5 : c ≤ 5 := by omega
  have hc3 : 3 ≤ c := by omega
  obtain ⟨n, hn⟩ : ∃ n, n = Quo.enough c := ⟨_, rfl⟩
  have hn1 : (n == 0) = false := by
    rcases hc with rfl | rfl
    · subst hn; decide
    · subst hn; decide
  have HC := Lib.hid hc
  have HN := Lib.hid hn
  clear hc hn
  go_enter Try.func5, Try.ntmps5
  go_wp2_with fail
  refine (awake16_any _).mono ?_
  rintro e w1 ⟨rfl, rfl⟩
  go_wp2_with fail
  refine (enough_at _ _ _ HN.out).mono ?_
  rintro e w1 ⟨rfl, rfl⟩
  go_wp2_with fail
  go_loop [8, 9, 10] (fun x y i => ∃ k : Nat, k ≤ c ∧ i = .int .i64 ((k : Int) + 1) ∧ x = .int .i64 ((qs a % 2 ^ k : Nat) : Int) ∧ y = .int .i64 ((qs b % 2 ^ k : Nat) : Int)) (fun _ _ i => c + 1 - (intOf i).toNat)
  case atStart => exact ⟨0, by omega, rfl, by simp [Nat.mod_one], by simp [Nat.mod_one]⟩
  case round =>
    obtain ⟨k, hk, rfl, rfl, rfl⟩ := hrel
    by_cases hlt : k < c
    · have sa := Quo.low_succ (qs a) k
      have sb := Quo.low_succ (qs b) k
      have ca := fun w => bit_has a k (by omega) ha w
      have cb := fun w => bit_has b k (by omega) hb w
      have wa := fun w => low_with (qs a) k (by omega) w
      have wb := fun w => low_with (qs b) k (by omega) w
      generalize (qs a).testBit k = ta at sa ca
      generalize (qs b).testBit k = tb at sb cb
      have CA := Lib.hid ca
      have CB := Lib.hid cb
      have WA := Lib.hid wa
      have WB := Lib.hid wb
      clear ca cb wa wb
      cases ta <;> cases tb
      · have SA := Lib.hid sa
        have SB := Lib.hid sb
        clear sa sb
        go_wp2_with fail
        refine (CA.out _).mono ?_
        rintro e w1 ⟨rfl, rfl⟩
        go_wp2_with fail
        refine (CB.out _).mono ?_
        rintro e w1 ⟨rfl, rfl⟩
        go_wp2_with fail
        go_round
        case rel => exact ⟨k + 1, by omega, by go_num, by rw [SA.out]; rfl, by rw [SB.out]; rfl⟩
        case measure => simp [intOf]; omega
      · have SA := Lib.hid sa
        have SB := Lib.hid sb
        clear sa sb
        go_wp2_with fail
        refine (CA.out _).mono ?_
        rintro e w1 ⟨rfl, rfl⟩
        go_wp2_with fail
        refine (CB.out _).mono ?_
        rintro e w1 ⟨rfl, rfl⟩
        go_wp2_with fail
        refine (WB.out _).mono ?_
        rintro e w1 ⟨rfl, rfl⟩
        go_wp2_with fail
        go_round
        case rel => exact ⟨k + 1, by omega, by go_num, by rw [SA.out]; rfl, by rw [SB.out]; rfl⟩
        case measure => simp [intOf]; omega
      · have SA := Lib.hid sa
        have SB := Lib.hid sb
        clear sa sb
        go_wp2_with fail
        refine (CA.out _).mono ?_
        rintro e w1 ⟨rfl, rfl⟩
        go_wp2_with fail
        refine (WA.out _).mono ?_
        rintro e w1 ⟨rfl, rfl⟩
        go_wp2_with fail
        refine (CB.out _).mono ?_
        rintro e w1 ⟨rfl, rfl⟩
        go_wp2_with fail
        go_round
        case rel => exact ⟨k + 1, by omega, by go_num, by rw [SA.out]; rfl, by rw [SB.out]; rfl⟩
        case measure => simp [intOf]; omega
      · have SA := Lib.hid sa
        have SB := Lib.hid sb
        clear sa sb
        go_wp2_with fail
        refine (CA.out _).mono ?_
        rintro e w1 ⟨rfl, rfl⟩
        go_wp2_with fail
        refine (WA.out _).mono ?_
        rintro e w1 ⟨rfl, rfl⟩
        go_wp2_with fail
        refine (CB.out _).mono ?_
        rintro e w1 ⟨rfl, rfl⟩
        go_wp2_with fail
        refine (WB.out _).mono ?_
        rintro e w1 ⟨rfl, rfl⟩
        go_wp2_with fail
        go_round
        case rel => exact ⟨k + 1, by omega, by go_num, by rw [SA.out]; rfl, by rw [SB.out]; rfl⟩
        case measure => simp [intOf]; omega
    · obtain rfl : k = c := by omega
      have sx := fun w => size_low (qs a) k hc5 w
      have sy := fun w => size_low (qs b) k hc5 w
      have hm := meet_all k n (qs a) (qs b) HC.out HN.out
      have bx := fun j hj w => bit_low (qs a) k j hj hc5 w
      have by_ := fun j hj w => bit_low (qs b) k j hj hc5 w
      generalize qs a % 2 ^ k = X at sx hm bx ⊢
      generalize qs b % 2 ^ k = Y at sy hm by_ ⊢
      generalize Quo.size X = SX at sx hm
      generalize Quo.size Y = SY at sy hm
      have C1 := Lib.hid sx
      have C2 := Lib.hid sy
      have BX := Lib.hid bx
      have BY := Lib.hid by_
      clear sx sy bx by_
      by_cases h1 : (SX : Int) < n
      · clear hm
        go_wp2_with fail
        refine (C1.out _).mono ?_
        rintro e w1 ⟨rfl, rfl⟩
        go_wp2_with fail
        go_ret
        exact ⟨rfl, Below.refl _ _⟩
      · by_cases h2 : (SY : Int) < n
        · clear hm
          go_wp2_with fail
          refine (C1.out _).mono ?_
          rintro e w1 ⟨rfl, rfl⟩
          go_wp2_with fail
          refine (C2.out _).mono ?_
          rintro e w1 ⟨rfl, rfl⟩
          go_wp2_with fail
          go_ret
          exact ⟨rfl, Below.refl _ _⟩
        · have HM := Lib.hid (hm (by omega) (by omega))
          clear hm
          go_wp2_with fail
          refine (C1.out _).mono ?_
          rintro e w1 ⟨rfl, rfl⟩
          go_wp2_with fail
          refine (C2.out _).mono ?_
          rintro e w1 ⟨rfl, rfl⟩
          go_wp2_with fail
          go_loop [11] (fun i => ∃ j : Nat, j ≤ k ∧ i = .int .i64 ((j : Int) + 1) ∧ Hid (∀ t, t < j → ¬ (X.testBit t = true ∧ Y.testBit t = true))) (fun i => k + 1 - (intOf i).toNat)
          case atStart => exact ⟨0, by omega, rfl, fun t ht => absurd ht (by omega)⟩
          case round =>
            obtain ⟨j, hj, rfl, HJ⟩ := hrel
            by_cases hjk : j < k
            · have x1 := fun w => BX.out j hjk w
              have y1 := fun w => BY.out j hjk w
              have hnx : ∀ hxy : ¬ (X.testBit j = true ∧ Y.testBit j = true), Hid (∀ t, t < j + 1 → ¬ (X.testBit t = true ∧ Y.testBit t = true)) := by
                intro hxy t ht
                by_cases htj : t = j
                · subst htj; exact hxy
                · exact HJ.out t (by omega)
              generalize X.testBit j = tx at x1 hnx
              generalize Y.testBit j = ty at y1 hnx
              have X1 := Lib.hid x1
              have Y1 := Lib.hid y1
              clear x1 y1
              cases tx
              · have HNX := Lib.hid (hnx (by simp))
                clear hnx
                go_wp2_with fail
                refine (X1.out _).mono ?_
                rintro e w1 ⟨rfl, rfl⟩
                go_wp2_with fail
                go_round
                case rel => exact ⟨j + 1, by omega, by go_num, HNX.out⟩
                case measure => simp [intOf]; omega
              · cases ty
                · have HNX := Lib.hid (hnx (by simp))
                  clear hnx
                  go_wp2_with fail
                  refine (X1.out _).mono ?_
                  rintro e w1 ⟨rfl, rfl⟩
                  go_wp2_with fail
                  refine (Y1.out _).mono ?_
                  rintro e w1 ⟨rfl, rfl⟩
                  go_wp2_with fail
                  go_round
                  case rel => exact ⟨j + 1, by omega, by go_num, HNX.out⟩
                  case measure => simp [intOf]; omega
                · clear hnx
                  go_wp2_with fail
                  refine (X1.out _).mono ?_
                  rintro e w1 ⟨rfl, rfl⟩
                  go_wp2_with fail
                  refine (Y1.out _).mono ?_
                  rintro e w1 ⟨rfl, rfl⟩
                  go_wp2_with fail
                  go_ret
                  exact ⟨rfl, Below.refl _ _⟩
            · obtain rfl : j = k := by omega
              exfalso
              obtain ⟨t, ht, h⟩ := HM.out
              exact HJ.out t ht h
set_option maxHeartbeats 400000 in
theorem walkQuorumMeets (a0 : Int) (a1 : Int) (a2 : Int) (_b0 : -9223372036854775808 ≤ a0 ∧ a0 ≤ 9223372036854775807) (b1 : -9223372036854775808 ≤ a1 ∧ a1 ≤ 9223372036854775807) (b2 : -9223372036854775808 ≤ a2 ∧ a2 ≤ 9223372036854775807) (w : World) :
    Calls Try.prog 5 #[.int .i64 a0, .int .i64 a1, .int .i64 a2] w fun e w' => e = .returned (.bool true) ∧ Below w.heap.size w w' := by
  rcases cases_count a0 with h | h | ⟨h3, h5, n3, n5⟩
  · subst h; exact meets_in 3 a1 a2 (.inl rfl) b1 b2 w
  · subst h; exact meets_in 5 a1 a2 (.inr rfl) b1 b2 w
  · have hz := enough_any a0
    rw [enough_zero a0 n3 n5] at hz
    have HZ := Lib.hid hz
    clear hz n3 n5
    go_enter Try.func5, Try.ntmps5
    go_wp2_with fail
    refine (awake16_any _).mono ?_
    rintro e w1 ⟨rfl, rfl⟩
    go_wp2_with fail
    refine (HZ.out _).mono ?_
    rintro e w1 ⟨rfl, rfl⟩
    go_wp2_with fail
    refine (may_no _ _ h3 h5).mono ?_
    rintro e w1 ⟨rfl, rfl⟩
    go_wp2_with fail
    go_ret
    exact ⟨rfl, Below.refl _ _⟩
end Go.Proofs.Ytecaahcmebdglaa

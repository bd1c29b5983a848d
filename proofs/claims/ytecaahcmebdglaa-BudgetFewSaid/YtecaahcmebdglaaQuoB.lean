import Derived.Test.YtecaahcmebdglaaQuoA
namespace Go.Proofs.Ytecaahcmebdglaa
open Go.RowKit
theorem ofInt64 (x : Int) : (BitVec.ofInt 64 x).toNat = (x % 18446744073709551616).toNat := by
  rw [BitVec.toNat_ofInt]; rfl
theorem and_i64 (x : Int) (k m : Nat) (hk : k < 63) (hm : m = 2 ^ k - 1) : bits BinOp.and IntKind.i64 x (m : Int) = x % (2 ^ k : Nat) := by
  have h1 : 2 ^ k ≤ 2 ^ 62 := Nat.pow_le_pow_right (by decide) (by omega)
  have h0 : 0 < 2 ^ k := Nat.two_pow_pos k
  have e62 : (2 : Nat) ^ 62 = 4611686018427387904 := by decide
  rw [e62] at h1
  show IntKind.i64.wrap ((BitVec.ofInt 64 x &&& BitVec.ofInt 64 (m : Int)).toNat : Int) = _
  rw [BitVec.toNat_and, ofInt64, ofInt64]
  have hm2 : ((m : Int) % 18446744073709551616).toNat = 2 ^ k - 1 := by omega
  rw [hm2, Nat.and_two_pow_sub_one_eq_mod]
  have hlt := Nat.mod_lt (x % 18446744073709551616).toNat h0
  have hdvd : (2 : Nat) ^ 64 = 2 ^ k * 2 ^ (64 - k) := by rw [← Nat.pow_add]; congr 1; omega
  have e64 : ((18446744073709551616 : Int)) = ((2 ^ k : Nat) : Int) * ((2 ^ (64 - k) : Nat) : Int) := by
    rw [← Int.natCast_mul, ← hdvd]; decide
  rw [IntWalk.i64_in _ (by omega), Int.natCast_emod, Int.toNat_of_nonneg (by omega), e64]
  exact Int.emod_emod_of_dvd _ (Int.dvd_mul_right _ _)
theorem and1_i64 (x : Int) : bits BinOp.and IntKind.i64 x 1 = x % 2 := and_i64 x 1 1 (by decide) (by decide)
theorem and31_i64 (x : Int) : bits BinOp.and IntKind.i64 x 31 = x % 32 := and_i64 x 5 31 (by decide) (by decide)
theorem or_i64 (x : Int) (b : Nat) (hb : b < 32) : bits BinOp.or IntKind.i64 x (b : Int) % 32 = ((qs x ||| b : Nat) : Int) := by
  show IntKind.i64.wrap ((BitVec.ofInt 64 x ||| BitVec.ofInt 64 (b : Int)).toNat : Int) % 32 = _
  rw [BitVec.toNat_or, ofInt64, ofInt64, show ((b : Int) % 18446744073709551616).toNat = b from by omega]
  have hw : ∀ z : Int, IntKind.i64.wrap z % 32 = z % 32 := by intro z; rw [IntKind.wrap_i64]; omega
  have h2 := Nat.or_mod_two_pow (a := (x % 18446744073709551616).toNat) (b := b) (n := 5)
  rw [hw]
  have e : (((x % 18446744073709551616).toNat ||| b : Nat) : Int) % 32 = ((((x % 18446744073709551616).toNat ||| b) % 2 ^ 5 : Nat) : Int) := by omega
  rw [e, h2]
  have e1 : (x % 18446744073709551616).toNat % 2 ^ 5 = qs x := by unfold qs; omega
  have e2 : b % 2 ^ 5 = b := by omega
  rw [e1, e2]
theorem has_eq (s who d : Int) (hw : 1 ≤ who ∧ who ≤ 5) (hd : d = Quo.worth who) : (bits BinOp.and IntKind.i64 (s / d) 1 == 1) = Quo.has (qs s) who := by
  rw [and1_i64, Quo.has_ref (qs s) who (qs_lt s) hw, ← hd]
  have e : ((qs s : Nat) : Int) = s % 32 := by unfold qs; omega
  rw [e]
  have hc : d = 1 ∨ d = 2 ∨ d = 4 ∨ d = 8 ∨ d = 16 := by
    subst hd
    rcases Quo.who_cases hw with rfl | rfl | rfl | rfl | rfl <;> simp [Quo.worth]
  rw [Bool.eq_iff_iff, beq_iff_eq, decide_eq_true_iff]
  rcases hc with rfl | rfl | rfl | rfl | rfl <;> omega
theorem has_out (s : Nat) (who : Int) (hw : ¬ (1 ≤ who ∧ who ≤ 5)) : Quo.has s who = false := by
  unfold Quo.has
  by_cases h1 : 1 ≤ who
  · have : ¬ who ≤ 5 := fun h2 => hw ⟨h1, h2⟩
    simp [this]
  · simp [h1]
theorem wth_out (s : Nat) (who : Int) (hw : ¬ (1 ≤ who ∧ who ≤ 5)) : Quo.wth s who = s := by unfold Quo.wth; rw [if_neg hw]
set_option maxHeartbeats 800000 in
theorem has_any (s who : Int) (w : World) (_hv : -9223372036854775808 ≤ s ∧ s ≤ 9223372036854775807) (hk : -9223372036854775808 ≤ who ∧ who ≤ 9223372036854775807) : Calls Try.prog 22 #[.int .i64 s, .int .i64 who] w fun e w' => e = .returned (.bool (Quo.has (qs s) who)) ∧ w = w' := by
  by_cases hw : 1 ≤ who ∧ who ≤ 5
  · rcases Quo.who_cases hw with rfl | rfl | rfl | rfl | rfl
    · have HF := Lib.hid (has_eq s 1 1 (by decide) rfl)
      go_enter Try.func22, Try.ntmps22
      go_wp2
      go_ret
      exact ⟨ret_bool (by rw [← HF.out]; simp), rfl⟩
    · have HF := Lib.hid (has_eq s 2 2 (by decide) rfl)
      go_enter Try.func22, Try.ntmps22
      go_wp2
      go_ret
      exact ⟨ret_bool HF.out, rfl⟩
    · have HF := Lib.hid (has_eq s 3 4 (by decide) rfl)
      go_enter Try.func22, Try.ntmps22
      go_wp2
      go_ret
      exact ⟨ret_bool HF.out, rfl⟩
    · have HF := Lib.hid (has_eq s 4 8 (by decide) rfl)
      go_enter Try.func22, Try.ntmps22
      go_wp2
      go_ret
      exact ⟨ret_bool HF.out, rfl⟩
    · have HF := Lib.hid (has_eq s 5 16 (by decide) rfl)
      go_enter Try.func22, Try.ntmps22
      go_wp2
      go_ret
      exact ⟨ret_bool HF.out, rfl⟩
  · have HF := Lib.hid (has_out (qs s) who hw)
    by_cases h1 : 1 ≤ who
    · have h5 : 5 < who := by omega
      go_enter Try.func22, Try.ntmps22
      go_wp2
      go_ret
      exact ⟨ret_bool HF.out.symm, rfl⟩
    · go_enter Try.func22, Try.ntmps22
      go_wp2
      go_ret
      exact ⟨ret_bool HF.out.symm, rfl⟩
theorem with_eq (s who : Int) (b : Nat) (hw : 1 ≤ who ∧ who ≤ 5) (hb : b = 2 ^ (who - 1).toNat) : bits BinOp.and IntKind.i64 (bits BinOp.or IntKind.i64 s (b : Int)) 31 = ((Quo.wth (qs s) who : Nat) : Int) := by
  have hlt : b < 32 := by rw [hb]; exact Nat.lt_of_lt_of_le (Nat.pow_lt_pow_right (a := 2) (n := 5) (by decide) (by omega)) (by decide)
  rw [and31_i64, or_i64 s b hlt]
  unfold Quo.wth
  rw [if_pos hw, hb]
theorem with_none (s : Int) : bits BinOp.and IntKind.i64 s 31 = ((qs s : Nat) : Int) := by rw [and31_i64]; unfold qs; omega
set_option maxHeartbeats 800000 in
theorem with_any (s who : Int) (w : World) (_hv : -9223372036854775808 ≤ s ∧ s ≤ 9223372036854775807) (hk : -9223372036854775808 ≤ who ∧ who ≤ 9223372036854775807) : Calls Try.prog 20 #[.int .i64 s, .int .i64 who] w fun e w' => e = .returned (.int .i64 (Quo.wth (qs s) who)) ∧ w = w' := by
  by_cases hw : 1 ≤ who ∧ who ≤ 5
  · rcases Quo.who_cases hw with rfl | rfl | rfl | rfl | rfl
    · have HF := Lib.hid (with_eq s 1 1 (by decide) rfl)
      go_enter Try.func20, Try.ntmps20
      go_wp2
      go_ret
      exact ⟨ret_int HF.out, rfl⟩
    · have HF := Lib.hid (with_eq s 2 2 (by decide) rfl)
      go_enter Try.func20, Try.ntmps20
      go_wp2
      go_ret
      exact ⟨ret_int HF.out, rfl⟩
    · have HF := Lib.hid (with_eq s 3 4 (by decide) rfl)
      go_enter Try.func20, Try.ntmps20
      go_wp2
      go_ret
      exact ⟨ret_int HF.out, rfl⟩
    · have HF := Lib.hid (with_eq s 4 8 (by decide) rfl)
      go_enter Try.func20, Try.ntmps20
      go_wp2
      go_ret
      exact ⟨ret_int HF.out, rfl⟩
    · have HF := Lib.hid (with_eq s 5 16 (by decide) rfl)
      go_enter Try.func20, Try.ntmps20
      go_wp2
      go_ret
      exact ⟨ret_int HF.out, rfl⟩
  · have HF := Lib.hid (wth_out (qs s) who hw)
    have HN := Lib.hid (with_none s)
    by_cases h1 : 1 ≤ who
    · have h5 : 5 < who := by omega
      go_enter Try.func20, Try.ntmps20
      go_wp2
      go_ret
      exact ⟨ret_int (by rw [HF.out, ← HN.out]), rfl⟩
    · go_enter Try.func20, Try.ntmps20
      go_wp2
      go_ret
      exact ⟨ret_int (by rw [HF.out, ← HN.out]), rfl⟩
set_option maxHeartbeats 800000 in
theorem ones_any (s : Nat) (w : World) (hs : s < 32) : Calls Try.prog 49 #[.int .u64 s] w fun e w' => e = .returned (.int .i64 (Quo.size s)) ∧ w = w' := by
  go_enter Try.func49, Try.ntmps49
  go_wp2
  go_ret
  refine ⟨ret_int ?_, rfl⟩
  rcases (show s = 0 ∨ s = 1 ∨ s = 2 ∨ s = 3 ∨ s = 4 ∨ s = 5 ∨ s = 6 ∨ s = 7 ∨ s = 8 ∨ s = 9 ∨ s = 10 ∨ s = 11 ∨ s = 12 ∨ s = 13 ∨ s = 14 ∨ s = 15 ∨ s = 16 ∨ s = 17 ∨ s = 18 ∨ s = 19 ∨ s = 20 ∨ s = 21 ∨ s = 22 ∨ s = 23 ∨ s = 24 ∨ s = 25 ∨ s = 26 ∨ s = 27 ∨ s = 28 ∨ s = 29 ∨ s = 30 ∨ s = 31 from by omega) with rfl | rfl | rfl | rfl | rfl | rfl | rfl | rfl | rfl | rfl | rfl | rfl | rfl | rfl | rfl | rfl | rfl | rfl | rfl | rfl | rfl | rfl | rfl | rfl | rfl | rfl | rfl | rfl | rfl | rfl | rfl | rfl <;> decide +kernel
theorem size_any (s : Int) (w : World) (_hv : -9223372036854775808 ≤ s ∧ s ≤ 9223372036854775807) : Calls Try.prog 24 #[.int .i64 s] w fun e w' => e = .returned (.int .i64 (Quo.size (qs s))) ∧ w = w' := by
  have hn := with_none s
  have hl := qs_lt s
  have h2 := Lib.hid (rfl : qs s = qs s)
  obtain ⟨n, hnn⟩ : ∃ n, n = qs s := ⟨_, rfl⟩
  rw [← hnn] at hn hl ⊢
  clear hnn h2
  go_enter Try.func24, Try.ntmps24
  go_wp2_with (go_at_call 49; refine (ones_any n _ hl).mono ?_; rintro e w' ⟨rfl, rfl⟩)
  go_ret
  exact ⟨rfl, rfl⟩
end Go.Proofs.Ytecaahcmebdglaa

import Derived.Test.YtmebodjofcomlaaCrcC
namespace Go.Proofs.Ytmebodjofcomlaa
open Go.RowKit
theorem step_int (h : Nat) (c : Int) (w : World) (hh : h < 18446744073709551616) (h0 : 0 ≤ c) (hc : c < 256) :
    Calls Try.prog 49 #[.int .u64 h, .int .u8 c] w fun e w' => e = .returned (.int .u64 (Chain.step h c.toNat)) ∧ w = w' := by
  obtain ⟨n, rfl⟩ := Int.eq_ofNat_of_zero_le h0
  exact step_any h n w hh (by omega)
theorem lens_succ : ∀ (k n : Nat), Chain.lens (k + 1) n = Chain.lens k n ++ [n / 256 ^ k % 256]
  | 0, n => by simp [Chain.lens]
  | k + 1, n => by
    show n % 256 :: Chain.lens (k + 1) (n / 256) = (n % 256 :: Chain.lens k (n / 256)) ++ _
    rw [lens_succ k (n / 256), Nat.div_div_eq_div_mul, Nat.pow_succ, Nat.mul_comm (256 ^ k)]; rfl
/-- A chain's state behind k bytes of a text; behind the text and k bytes of its length. -/
def chA (h : Nat) (l : List Nat) (k : Nat) : Nat := (l.take k).foldl Chain.step (Chain.start h)
def chB (h : Nat) (l : List Nat) (k : Nat) : Nat := (l ++ Chain.lens k l.length).foldl Chain.step (Chain.start h)
theorem chA_lt (h : Nat) (l : List Nat) (k : Nat) (hh : h < 18446744073709551616) : chA h l k < 18446744073709551616 := Chain.fold_lt _ _ (Chain.start_lt hh)
theorem chB_lt (h : Nat) (l : List Nat) (k : Nat) (hh : h < 18446744073709551616) : chB h l k < 18446744073709551616 := Chain.fold_lt _ _ (Chain.start_lt hh)
theorem chA_succ (h : Nat) (s : ByteArray) (k : Nat) (hk : k < s.size) : chA h (nats s) (k + 1) = Chain.step (chA h (nats s) k) (s[k]).toNat := by
  unfold chA; rw [nats_take s k hk, List.foldl_append, List.foldl_cons, List.foldl_nil]
theorem chA_end (h : Nat) (l : List Nat) (n : Nat) (hn : n = l.length) : chA h l n = chB h l 0 := by
  unfold chA chB; rw [List.take_of_length_le (by omega)]; simp [Chain.lens]
theorem chB_succ (h : Nat) (l : List Nat) (k : Nat) : chB h l (k + 1) = Chain.step (chB h l k) (l.length / 256 ^ k % 256) := by
  unfold chB; rw [lens_succ, ← List.append_assoc, List.foldl_append, List.foldl_cons, List.foldl_nil]
theorem chB_end (h : Nat) (l : List Nat) : chB h l 8 = Chain.chain h l := rfl
theorem start_eq (h : Nat) (hh : h < 18446744073709551616) : bits BinOp.xor IntKind.u64 (h : Int) 14695981039346656037 = ((Chain.start h : Nat) : Int) :=
  u64_xor_nat h 14695981039346656037 hh (by decide)
set_option maxHeartbeats 400000 in
theorem chain_any (h : Nat) (s : ByteArray) (w : World) (hh : h < 18446744073709551616) (hl : s.size ≤ maxLen) :
    Calls Try.prog 41 #[.int .u64 h, .string s] w fun e w' => e = .returned (.int .u64 (Chain.chain h (nats s))) ∧ w = w' := by
  unfold maxLen at hl
  have hst := Lib.hid (start_eq h hh)
  go_enter Try.func41, Try.ntmps41
  go_wp2
  go_loop [0, 12] (fun r i => ∃ k : Nat, k ≤ s.size ∧ i = .int .i64 k ∧ r = .int .u64 (chA h (nats s) k)) (fun _ i => s.size - (intOf i).toNat)
  case atStart => exact ⟨0, by omega, rfl, by rw [hst.out]; rfl⟩
  case round =>
    obtain ⟨k, hk, rfl, rfl⟩ := hrel
    have hq := chA_lt h (nats s) k hh
    by_cases hlt : k < s.size
    · have HS := Lib.hid (chA_succ h s k hlt)
      have hb := (s[k]).toNat_lt
      go_wp2_with (go_at_call 49; refine (step_any _ _ _ hq hb).mono ?_; rintro e w1 ⟨rfl, rfl⟩)
      go_round
      case rel => exact ⟨k + 1, by omega, by go_num, by rw [HS.out]⟩
      case measure => simp [intOf]; omega
    · obtain rfl : k = s.size := by omega
      have HE := Lib.hid (chA_end h (nats s) s.size (nats_length s).symm)
      go_wp2
      go_loop [0, 6, 7] (fun r n j => ∃ m : Nat, m ≤ 8 ∧ j = .int .i64 m ∧ n = .int .i64 ((s.size / 256 ^ m : Nat) : Int) ∧ r = .int .u64 (chB h (nats s) m)) (fun _ _ j => 8 - (intOf j).toNat)
      case atStart => exact ⟨0, by omega, rfl, by simp, by rw [HE.out]⟩
      case round =>
        obtain ⟨m, hm, rfl, rfl, rfl⟩ := hrel
        have hq := chB_lt h (nats s) m hh
        by_cases hm8 : m < 8
        · have hsl := nats_length s
          have HS := Lib.hid (chB_succ h (nats s) m)
          have HL := Lib.hid hsl
          clear hsl
          have hn : s.size / 256 ^ m ≤ s.size := Nat.div_le_self _ _
          have HD := Lib.hid (show s.size / 256 ^ (m + 1) = s.size / 256 ^ m / 256 from by rw [Nat.pow_succ, Nat.div_div_eq_div_mul])
          obtain ⟨n, hnn⟩ : ∃ n, n = s.size / 256 ^ m := ⟨_, rfl⟩
          rw [← hnn] at hn ⊢
          have HN := Lib.hid hnn
          clear hnn
          go_wp2_with (go_at_call 49; refine (step_int _ _ _ hq (by omega) (by omega)).mono ?_; rintro e w1 ⟨rfl, rfl⟩)
          go_round
          case rel => exact ⟨m + 1, by omega, by go_num, by rw [HD.out, ← HN.out]; go_num, by rw [HS.out, HL.out, ← HN.out, show ((n : Int) % 256).toNat = n % 256 from by omega]⟩
          case measure => simp [intOf]; omega
        · obtain rfl : m = 8 := by omega
          go_wp2
          go_ret
          exact ⟨rfl, rfl⟩
end Go.Proofs.Ytmebodjofcomlaa

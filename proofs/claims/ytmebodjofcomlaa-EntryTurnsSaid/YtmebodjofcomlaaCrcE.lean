import Derived.Test.YtmebodjofcomlaaCrcD
namespace Go.Proofs.Ytmebodjofcomlaa
open Go.RowKit
theorem steps_int (r : Int) (w : World) (h0 : 0 ≤ r) (hh : r < 4294967296) :
    Calls Try.prog 54 #[.int .u32 r, .int .i64 8] w fun e w' => e = .returned (.int .u32 (Crc.bits 8 r.toNat)) ∧ w = w' := by
  obtain ⟨n, rfl⟩ := Int.eq_ofNat_of_zero_le h0
  exact steps_any n w (by omega)
theorem xor_bd (a b : Nat) (ha : a < 4294967296) (hb : b < 4294967296) : 0 ≤ bits BinOp.xor IntKind.u32 (a : Int) (b : Int) ∧ bits BinOp.xor IntKind.u32 (a : Int) (b : Int) < 4294967296 ∧ (bits BinOp.xor IntKind.u32 (a : Int) (b : Int)).toNat = a ^^^ b := by
  rw [u32_xor_nat a b ha hb]
  have : a ^^^ b < 4294967296 := Nat.xor_lt_two_pow (n := 32) ha hb
  omega
set_option maxHeartbeats 400000 in
theorem refadd_any (sum : Nat) (s : ByteArray) (w : World) (hs : sum < 4294967296) (hl : s.size ≤ maxLen) :
    Calls Try.prog 48 #[.int .u32 sum, .string s] w fun e w' => e = .returned (.int .u32 (Crc.add sum (nats s))) ∧ w = w' := by
  unfold maxLen at hl
  have e0 : (4294967295 : Int) - sum = ((4294967295 - sum : Nat) : Int) := by omega
  have E0 := Lib.hid e0
  clear e0
  go_enter Try.func48, Try.ntmps48
  go_wp2
  go_loop [5, 6] (fun r i => ∃ k : Nat, k ≤ s.size ∧ i = .int .i64 k ∧ r = .int .u32 (Crc.fold (4294967295 - sum) ((nats s).take k))) (fun _ i => s.size - (intOf i).toNat)
  case atStart => exact ⟨0, by omega, rfl, by rw [E0.out]; rfl⟩
  case round =>
    obtain ⟨k, hk, rfl, rfl⟩ := hrel
    have hq := Crc.fold_lt ((nats s).take k) (4294967295 - sum) (by omega) (fun b hb => nats_bytes s b (List.mem_of_mem_take hb))
    by_cases hlt : k < s.size
    · have HF := Lib.hid (fold_take s (4294967295 - sum) k hlt)
      obtain ⟨q, hqq⟩ : ∃ q, q = Crc.fold (4294967295 - sum) ((nats s).take k) := ⟨_, rfl⟩
      rw [← hqq] at hq ⊢
      have HQ := Lib.hid hqq
      clear hqq
      have hbt := (s[k]).toNat_lt
      have hx := xor_bd q (s[k]).toNat hq (by omega)
      obtain ⟨x1, x2, x3⟩ := hx
      have X3 := Lib.hid x3
      clear x3
      go_wp2_with (go_at_call 54; refine (steps_int _ _ x1 x2).mono ?_; rintro e w1 ⟨rfl, rfl⟩)
      go_round
      case rel => exact ⟨k + 1, by omega, by go_num, by rw [HF.out, ← HQ.out, X3.out]; rfl⟩
      case measure => simp [intOf]; omega
    · obtain rfl : k = s.size := by omega
      have hfin : (nats s).take s.size = nats s := List.take_of_length_le (by rw [nats_length]; omega)
      have HX := Lib.hid hfin
      clear hfin
      go_wp2
      go_ret
      refine ⟨ret_int ?_, rfl⟩
      rw [HX.out] at hq ⊢
      unfold Crc.add
      omega
theorem refsum_all (s : ByteArray) (w : World) (hl : s.size ≤ maxLen) :
    Calls Try.prog 36 #[.string s] w fun e w' => e = .returned (.int .u32 (Crc.add 0 (nats s))) ∧ w = w' := by
  go_enter Try.func36, Try.ntmps36
  go_wp2_with (go_at_call 48; refine (refadd_any 0 s _ (by omega) hl).mono ?_; rintro e w1 ⟨rfl, rfl⟩)
  go_ret
  exact ⟨rfl, rfl⟩
/-- The reference's chain: one loop over the text and the length's bytes. -/
def chR (h : Nat) (l : List Nat) (k : Nat) : Nat := if k ≤ l.length then chA h l k else chB h l (k - l.length)
theorem step_bd (q c : Nat) (hq : q < 18446744073709551616) (hc : c < 256) : bits BinOp.xor IntKind.u64 (IntKind.u64.wrap (bits BinOp.xor IntKind.u64 (q : Int) (c : Int) * 1099511628211)) (IntKind.u64.wrap ((IntKind.u64.wrap (bits BinOp.xor IntKind.u64 (q : Int) (c : Int) * 1099511628211)).tdiv 536870912)) = ((Chain.step q c : Nat) : Int) := by
  rw [← step_eq q c hq hc]
  congr 1
  have hx : ∀ z : Int, 0 ≤ IntKind.u64.wrap z ∧ IntKind.u64.wrap z ≤ 18446744073709551615 := by
    intro z
    have e : IntKind.u64.wrap z = z % 18446744073709551616 := by simp [IntKind.wrap, IntKind.bits, IntKind.signed]
    rw [e]; omega
  have h1 := hx (bits BinOp.xor IntKind.u64 (q : Int) (c : Int) * 1099511628211)
  exact IntWalk.u64_quo _ _ ⟨h1.1, h1.2, by decide⟩
set_option maxHeartbeats 400000 in
theorem refchain_any (h : Nat) (s : ByteArray) (w : World) (hh : h < 18446744073709551616) (hl : s.size < 9223372036854775800) :
    Calls Try.prog 42 #[.int .u64 h, .string s] w fun e w' => e = .returned (.int .u64 (Chain.chain h (nats s))) ∧ w = w' := by
  have hst := Lib.hid (start_eq h hh)
  have hsl := Lib.hid (nats_length s)
  go_enter Try.func42, Try.ntmps42
  go_wp2
  go_loop [0, 5, 6] (fun r n i => ∃ k : Nat, k ≤ s.size + 8 ∧ i = .int .i64 k ∧ n = .int .u64 ((s.size / 256 ^ (k - s.size) : Nat) : Int) ∧ r = .int .u64 (chR h (nats s) k)) (fun _ _ i => s.size + 8 - (intOf i).toNat)
  case atStart => exact ⟨0, by omega, rfl, by simp, by rw [hst.out]; rfl⟩
  case round =>
    obtain ⟨k, hk, rfl, rfl, rfl⟩ := hrel
    have hq : chR h (nats s) k < 18446744073709551616 := by unfold chR; split; exact chA_lt _ _ _ hh; exact chB_lt _ _ _ hh
    by_cases hlt : k < s.size
    · have hb := (s[k]).toNat_lt
      have HS := Lib.hid (show chR h (nats s) (k + 1) = Chain.step (chR h (nats s) k) (s[k]).toNat from by
        unfold chR; rw [hsl.out, if_pos (by omega), if_pos (by omega)]; exact chA_succ h s k hlt)
      have HN := Lib.hid (show s.size / 256 ^ (k - s.size) = s.size / 256 ^ (k + 1 - s.size) from by rw [show k - s.size = 0 from by omega, show k + 1 - s.size = 0 from by omega])
      obtain ⟨n, hnn⟩ : ∃ n, n = s.size / 256 ^ (k - s.size) := ⟨_, rfl⟩
      obtain ⟨q, hqq⟩ : ∃ q, q = chR h (nats s) k := ⟨_, rfl⟩
      rw [← hnn] at HN ⊢
      rw [← hqq] at hq HS ⊢
      clear hnn hqq
      have HX := Lib.hid (step_bd q (s[k]).toNat hq (by omega))
      go_wp2
      go_round
      case rel => exact ⟨k + 1, by omega, by go_num, by rw [HN.out], by rw [HS.out, ← HX.out]⟩
      case measure => simp [intOf]; omega
    · by_cases hlt8 : k < s.size + 8
      · have hb : s.size / 256 ^ (k - s.size) % 256 < 256 := Nat.mod_lt _ (by decide)
        have HS := Lib.hid (show chR h (nats s) (k + 1) = Chain.step (chR h (nats s) k) (s.size / 256 ^ (k - s.size) % 256) from by
          have e : chR h (nats s) k = chB h (nats s) (k - s.size) := by
            unfold chR; rw [hsl.out]
            split
            · obtain rfl : k = s.size := by omega
              rw [Nat.sub_self]; exact chA_end _ _ _ hsl.out.symm
            · rfl
          rw [e]
          unfold chR; rw [hsl.out, if_neg (by omega), show k + 1 - s.size = (k - s.size) + 1 from by omega, chB_succ, hsl.out])
        have HN := Lib.hid (show s.size / 256 ^ (k + 1 - s.size) = s.size / 256 ^ (k - s.size) / 256 from by
          rw [show k + 1 - s.size = (k - s.size) + 1 from by omega, Nat.pow_succ, Nat.div_div_eq_div_mul])
        have hn : s.size / 256 ^ (k - s.size) ≤ s.size := Nat.div_le_self _ _
        obtain ⟨n, hnn⟩ : ∃ n, n = s.size / 256 ^ (k - s.size) := ⟨_, rfl⟩
        obtain ⟨q, hqq⟩ : ∃ q, q = chR h (nats s) k := ⟨_, rfl⟩
        rw [← hnn] at HN HS hb hn ⊢
        rw [← hqq] at hq HS ⊢
        clear hnn hqq
        have hx := step_bd q (n % 256) hq hb
        rw [show ((n % 256 : Nat) : Int) = (n : Int) % 256 from by omega] at hx
        have HX := Lib.hid hx
        clear hx
        go_wp2
        go_round
        case rel => exact ⟨k + 1, by omega, by go_num, by rw [HN.out]; go_num, by rw [HS.out, ← HX.out]⟩
        case measure => simp [intOf]; omega
      · obtain rfl : k = s.size + 8 := by omega
        have HF := Lib.hid (show chR h (nats s) (s.size + 8) = Chain.chain h (nats s) from by
          unfold chR; rw [hsl.out, if_neg (by omega), show s.size + 8 - s.size = 8 from by omega, chB_end])
        go_wp2
        go_ret
        exact ⟨ret_int (by rw [HF.out]), rfl⟩
end Go.Proofs.Ytmebodjofcomlaa

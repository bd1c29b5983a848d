import Derived.Test.YtmebodjofcomlaaCrcB
import Derived.Test.YtmebodjofcomlaaBytes
import Derived.Deep.QuietTactic
import Derived.BigQuiet
namespace Go.Proofs.Ytmebodjofcomlaa
open Go.RowKit
theorem nats_bytes (s : ByteArray) : Crc.Bytes (nats s) := nats_lt s
theorem fold_take (s : ByteArray) (r k : Nat) (h : k < s.size) : Crc.fold r ((nats s).take (k + 1)) = Crc.byte (Crc.fold r ((nats s).take k)) (s[k]).toNat := by
  rw [nats_take s k h, Crc.fold_append]; rfl
theorem not_nat (n : Nat) (h : n < 4294967296) : 4294967295 ^^^ n = 4294967295 - n := by
  apply Nat.eq_of_testBit_eq
  intro i
  have h1 := Nat.testBit_two_pow_sub_succ (n := 32) (x := n) (by omega) i
  have h2 : (4294967295 : Nat).testBit i = decide (i < 32) := Nat.testBit_two_pow_sub_one 32 i
  rw [Nat.testBit_xor, h2, show 4294967295 - n = 2 ^ 32 - (n + 1) from by omega, h1]
  by_cases hi : i < 32
  · simp [hi]
  · have : n.testBit i = false := Nat.testBit_lt_two_pow (Nat.lt_of_lt_of_le h (by
      have := Nat.pow_le_pow_right (n := 2) (by decide) (show 32 ≤ i from by omega)
      simpa using this))
    simp [hi, this]
theorem not_u32 (n : Nat) (h : n < 4294967296) : bits BinOp.xor IntKind.u32 IntKind.u32.max (n : Int) = ((4294967295 - n : Nat) : Int) := by
  have e : IntKind.u32.max = ((4294967295 : Nat) : Int) := by decide
  rw [e, u32_xor_nat _ _ (by omega) h, not_nat n h]
theorem idx_u8 (r b : Nat) (hb : b < 256) : bits BinOp.xor IntKind.u8 ((r : Int) % 256) (b : Int) = (((r % 256) ^^^ b : Nat) : Int) := by
  rw [show ((r : Int) % 256) = ((r % 256 : Nat) : Int) from by omega, u8_xor_nat _ _ (by omega) hb]
theorem idx_lt (r b : Nat) (hb : b < 256) : (r % 256) ^^^ b < 256 := Nat.xor_lt_two_pow (n := 8) (Nat.mod_lt _ (by decide)) hb
theorem tab_lt (i : Nat) (h : i < 4294967296) : Crc.tab i < 4294967296 := Crc.bits_lt 8 i h
theorem byte_eq (q b : Nat) (hq : q < 4294967296) (hb : b < 256) : bits BinOp.xor IntKind.u32 ((q : Int) / 256) ((Crc.tab ((q % 256) ^^^ b) : Nat) : Int) = ((Crc.byte q b : Nat) : Int) := by
  have := idx_lt q b hb
  rw [show ((q : Int) / 256) = ((q / 256 : Nat) : Int) from by omega, u32_xor_nat _ _ (by omega) (tab_lt _ (by omega)), Crc.byte_tab]
set_option maxHeartbeats 400000 in
theorem add_any (sum : Nat) (s : ByteArray) (w : World) (hs : sum < 4294967296) (hl : s.size ≤ maxLen) (hne : s.toList.isEmpty = false) :
    Calls Try.prog 46 #[.int .u32 sum, .string s] w fun e w' => e = .returned (.int .u32 (Crc.add sum (nats s))) ∧ Below w.heap.size w w' := by
  unfold maxLen at hl
  go_enter Try.func46, Try.ntmps46
  go_wp2_with (go_at_call 52; refine (made_any _).mono ?_; rintro e w1 ⟨rfl, ht, hb⟩)
  go_loopw [6, 16] (fun r i wr => ∃ k n : Nat, k ≤ s.size ∧ wr = w1.drewN n ∧ i = .int .i64 k ∧ r = .int .u32 (Crc.fold (4294967295 - sum) ((nats s).take k))) (fun _ i _ => s.size - (intOf i).toNat)
  case atStart => exact ⟨0, 0, by omega, rfl, rfl, by rw [not_u32 sum hs]; rfl⟩
  case round =>
    obtain ⟨k, n, hk, rfl, rfl, rfl⟩ := hrel
    by_cases hlt : k < s.size
    · have hq := Crc.fold_lt ((nats s).take k) (4294967295 - sum) (by omega) (fun b hb => nats_bytes s b (List.mem_of_mem_take hb))
      have HF := Lib.hid (fold_take s (4294967295 - sum) k hlt)
      obtain ⟨q, hqq⟩ : ∃ q, q = Crc.fold (4294967295 - sum) ((nats s).take k) := ⟨_, rfl⟩
      rw [← hqq] at hq ⊢
      have HQ := Lib.hid hqq
      clear hqq
      have hbt := (s[k]).toNat_lt
      have hix := idx_u8 q (s[k]).toNat hbt
      have hil := idx_lt q (s[k]).toNat hbt
      have hcl := ht.cell _ hil
      have HB := Lib.hid (byte_eq q (s[k]).toNat hq hbt)
      go_wp2
      go_quiet (fail)
      clear hix hcl
      go_wp2
      go_roundw
      case rel => exact ⟨k + 1, n + nq, by omega, rfl, by go_num, by rw [HF.out, ← HQ.out, ← HB.out]⟩
      case measure => simp [intOf]; omega
    · obtain rfl : k = s.size := by omega
      have hfin : (nats s).take s.size = nats s := List.take_of_length_le (by rw [nats_length]; omega)
      have HX := Lib.hid hfin
      clear hfin
      have hq := Crc.fold_lt (nats s) (4294967295 - sum) (by omega) (nats_bytes s)
      have HN := Lib.hid (not_u32 _ hq)
      go_wp2
      go_ret
      exact ⟨ret_int (by rw [HX.out, HN.out]; rfl), below_drewN hb n⟩
theorem add_nil (sum : Nat) (s : ByteArray) (w : World) (hne : s.toList.isEmpty = true) :
    Calls Try.prog 46 #[.int .u32 sum, .string s] w fun e w' => e = .returned (.int .u32 sum) ∧ w = w' := by
  go_enter Try.func46, Try.ntmps46
  go_wp2
  go_ret
  exact ⟨rfl, rfl⟩
theorem toList_data (s : ByteArray) : s.toList = s.data.toList := Go.ByteArray.toList_eq s
/-- A sum goes on over a text. -/
theorem add_all (sum : Nat) (s : ByteArray) (w : World) (hs : sum < 4294967296) (hl : s.size ≤ maxLen) :
    Calls Try.prog 46 #[.int .u32 sum, .string s] w fun e w' => e = .returned (.int .u32 (Crc.add sum (nats s))) ∧ Below w.heap.size w w' := by
  by_cases hne : s.toList.isEmpty = true
  · refine (add_nil sum s w hne).mono ?_
    rintro e w' ⟨rfl, rfl⟩
    refine ⟨ret_int ?_, Below.refl _ _⟩
    have : nats s = [] := by
      unfold nats
      rw [← toList_data, List.isEmpty_iff.1 hne]; rfl
    rw [this]
    unfold Crc.add
    show (sum : Int) = ((4294967295 - (4294967295 - sum) : Nat) : Int)
    omega
  · exact add_any sum s w hs hl (by simpa using hne)
theorem add_lt (sum : Nat) (l : List Nat) : Crc.add sum l < 4294967296 := by unfold Crc.add; omega
/-- The sum of a text. -/
theorem sum_all (s : ByteArray) (w : World) (hl : s.size ≤ maxLen) :
    Calls Try.prog 33 #[.string s] w fun e w' => e = .returned (.int .u32 (Crc.add 0 (nats s))) ∧ Below w.heap.size w w' := by
  go_enter Try.func33, Try.ntmps33
  go_wp2_with (go_at_call 46; refine (add_all 0 s _ (by omega) hl).mono ?_; rintro e w1 ⟨rfl, hb⟩)
  go_ret
  exact ⟨rfl, hb⟩
end Go.Proofs.Ytmebodjofcomlaa

import Derived.Test.YtmebodjofcomlaaProg
import Derived.Test.YtmebodjofcomlaaCrcLaw
import Derived.WalkKit
import Derived.WalkSpells
import Derived.WalkLawsBesides
import Derived.Lib.Hide
namespace Go.Proofs.Ytmebodjofcomlaa
open Go.RowKit

theorem ret_int {k : IntKind} {a b : Int} (h : a = b) : Ending.returned (.int k a) = .returned (.int k b) := by rw [h]
theorem wrap_u64_nat (n : Nat) : IntKind.u64.wrap (n : Int) = ((n % 18446744073709551616 : Nat) : Int) := by
  simp [IntKind.wrap, IntKind.bits, IntKind.signed]
theorem wrap_u32_nat (n : Nat) : IntKind.u32.wrap (n : Int) = ((n % 4294967296 : Nat) : Int) := by
  simp [IntKind.wrap, IntKind.bits, IntKind.signed]
theorem step_eq (h c : Nat) (hh : h < 18446744073709551616) (hc : c < 256) :
    bits BinOp.xor IntKind.u64 (IntKind.u64.wrap (bits BinOp.xor IntKind.u64 ↑h ↑c * 1099511628211)) (IntKind.u64.wrap (bits BinOp.xor IntKind.u64 ↑h ↑c * 1099511628211) / 536870912) = ((Chain.step h c : Nat) : Int) := by
  rw [u64_xor_nat h c hh (by omega)]
  have e : (((h ^^^ c : Nat) : Int) * 1099511628211) = (((h ^^^ c) * 1099511628211 : Nat) : Int) := by omega
  rw [e, wrap_u64_nat]
  have e2 : (((h ^^^ c) * 1099511628211 % 18446744073709551616 : Nat) : Int) / 536870912 = (((h ^^^ c) * 1099511628211 % 18446744073709551616 / 536870912 : Nat) : Int) := by omega
  rw [e2, u64_xor_nat _ _ (by omega) (by omega)]
  rfl
set_option maxHeartbeats 400000 in
theorem step_any (h c : Nat) (w : World) (hh : h < 18446744073709551616) (hc : c < 256) :
    Calls Try.prog 49 #[.int .u64 h, .int .u8 c] w fun e w' => e = .returned (.int .u64 (Chain.step h c)) ∧ w = w' := by
  have HS := Lib.hid (step_eq h c hh hc)
  go_enter Try.func49, Try.ntmps49
  go_wp2
  go_ret
  exact ⟨ret_int HS.out, rfl⟩

theorem bit_ref0 (q : Nat) (h : q % 2 = 0) : Crc.bit q = q / 2 := by rw [Crc.bit_ref, if_neg (by omega)]
theorem bit_ref1 (q : Nat) (h : q % 2 = 1) : Crc.bit q = (q / 2) ^^^ 2197175160 := by rw [Crc.bit_ref, if_pos h]
set_option maxHeartbeats 400000 in
theorem steps_any (r : Nat) (w : World) (hh : r < 4294967296)  :
    Calls Try.prog 54 #[.int .u32 r, .int .i64 8] w fun e w' => e = .returned (.int .u32 (Crc.bits 8 r)) ∧ w = w' := by
  go_enter Try.func54, Try.ntmps54
  go_wp2
  go_loop [0, 5, 6] (fun r' i _ => ∃ k : Nat, k ≤ 8 ∧ i = .int .i64 k ∧ r' = .int .u32 (Crc.bits k r)) (fun _ i _ => 8 - (intOf i).toNat)
  case atStart => exact ⟨0, by omega, rfl, rfl⟩
  case round =>
    obtain ⟨k, hk, rfl, rfl⟩ := hrel
    have hq := Crc.bits_lt k r hh
    have hs := Crc.bits_succ k r
    have HS := Lib.hid hs
    clear hs
    by_cases hlt : k < 8
    · obtain ⟨q, hqq⟩ : ∃ q, q = Crc.bits k r := ⟨_, rfl⟩
      rw [← hqq] at hq ⊢
      have HQ := Lib.hid hqq
      clear hqq
      rcases (show q % 2 = 0 ∨ q % 2 = 1 from by omega) with h2 | h2
      · have hb : ((q : Int) % 2 == 1) = false := by rw [beq_eq_false_iff_ne]; omega
        have H2 := Lib.hid h2
        clear h2
        go_wp2
        go_round
        case rel => exact ⟨k + 1, by omega, by go_num, by rw [HS.out, ← HQ.out, bit_ref0 q H2.out]; go_num⟩
        case measure => simp [intOf]; omega
      · have hb : ((q : Int) % 2 == 1) = true := by rw [beq_iff_eq]; omega
        have hx := u32_xor_nat (q / 2) 2197175160 (by omega) (by omega)
        have HX := Lib.hid hx
        have H2 := Lib.hid h2
        clear h2 hx
        go_wp2
        go_round
        case rel => exact ⟨k + 1, by omega, by go_num, by rw [HS.out, ← HQ.out, bit_ref1 q H2.out, ← HX.out]; rfl⟩
        case measure => simp [intOf]; omega
    · obtain rfl : k = 8 := by omega
      go_wp2
      go_ret
      exact ⟨rfl, rfl⟩
end Go.Proofs.Ytmebodjofcomlaa

import Derived.Test.YtnpipiamojmbhaaCrcE
namespace Go.Proofs.Ytnpipiamojmbhaa
open Go.RowKit
theorem val_u32 {a b : Nat} (h : a = b) : Ending.returned (.int .u32 (a : Int)) = .returned (.int .u32 (b : Int)) := by rw [h]
theorem sum_ex (w : World) : Calls Try.prog 16 #[.string ⟨#[49, 50, 51, 52, 53, 54, 55, 56, 57]⟩] w fun e w' => e = .returned (.int .u32 3808858755) ∧ Below w.heap.size w w' :=
  (sum_all _ w (by decide)).mono fun e w' ⟨he, hb⟩ => ⟨by rw [he, show Crc.add 0 (nats ⟨#[49, 50, 51, 52, 53, 54, 55, 56, 57]⟩) = 3808858755 from by decide +kernel]; rfl, hb⟩
theorem sum_nil (w : World) : Calls Try.prog 16 #[.string ⟨#[]⟩] w fun e w' => e = .returned (.int .u32 0) ∧ Below w.heap.size w w' :=
  (sum_all _ w (by decide)).mono fun e w' ⟨he, hb⟩ => ⟨by rw [he, show Crc.add 0 (nats ⟨#[]⟩) = 0 from by decide +kernel]; rfl, hb⟩
theorem chain_nil (w : World) : Calls Try.prog 18 #[.int .u64 0, .string ⟨#[]⟩] w fun e w' => ∃ n : Int, 1 ≤ n ∧ e = .returned (.int .u64 n) ∧ w = w' :=
  (chain_any 0 _ w (by decide) (by decide)).mono fun e w' ⟨he, hb⟩ => ⟨(Chain.chain 0 (nats ⟨#[]⟩) : Nat), by
    have : 1 ≤ Chain.chain 0 (nats ⟨#[]⟩) := by decide +kernel
    omega, he, hb⟩
set_option maxHeartbeats 400000 in
theorem awake02_any (w : World) : Calls Try.prog 13 #[] w fun e w' => e = .returned (.bool true) ∧ Below w.heap.size w w' := by
  go_enter Try.func13, Try.ntmps13
  go_wp2_with fail
  refine (sum_ex _).mono ?_
  rintro e w1 ⟨rfl, hb1⟩
  go_wp2_with fail
  refine (sum_nil _).mono ?_
  rintro e w2 ⟨rfl, hb2⟩
  go_wp2_with fail
  refine (chain_nil _).mono ?_
  rintro e w3 ⟨n, hn, rfl, rfl⟩
  have hne : ((n : Int) != 0) = true := by rw [bne_iff_ne]; omega
  go_wp2_with fail
  go_ret
  exact ⟨rfl, hb1.trans (hb2.mono hb1.size)⟩
set_option maxHeartbeats 400000 in
theorem walkCrcSums (a0 : Int) (a1 : ByteArray) (b0 : 0 ≤ a0 ∧ a0 ≤ 4294967295) (b1 : a1.size ≤ 140737488351232) (w : World) :
    Calls Try.prog 3 #[.int .u32 a0, .string a1] w fun e w' => e = .returned (.bool true) ∧ Below w.heap.size w w' := by
  obtain ⟨n, rfl⟩ := Int.eq_ofNat_of_zero_le b0.1
  have hn : n < 4294967296 := by omega
  have hl : a1.size ≤ maxLen := by unfold maxLen; omega
  clear b0
  go_enter Try.func3, Try.ntmps3
  go_wp2_with fail
  refine (awake02_any _).mono ?_
  rintro e w1 ⟨rfl, hb1⟩
  go_wp2_with fail
  refine (add_all n a1 _ hn hl).mono ?_
  rintro e w2 ⟨rfl, hb2⟩
  go_wp2_with fail
  refine (refadd_any n a1 _ hn hl).mono ?_
  rintro e w3 ⟨rfl, rfl⟩
  go_wp2_with fail
  refine (sum_all a1 _ hl).mono ?_
  rintro e w4 ⟨rfl, hb4⟩
  go_wp2_with fail
  refine (refsum_all a1 _ hl).mono ?_
  rintro e w5 ⟨rfl, rfl⟩
  go_wp2_with fail
  go_ret
  exact ⟨by simp, (hb1.trans (hb2.mono hb1.size)).trans (hb4.mono (Nat.le_trans hb1.size hb2.size))⟩
set_option maxHeartbeats 400000 in
theorem walkCrcJoins (a0 : ByteArray) (a1 : ByteArray) (b0 : a0.size ≤ 140737488351232) (b1 : a1.size ≤ 140737488351232) (w : World) :
    Calls Try.prog 4 #[.string a0, .string a1] w fun e w' => e = .returned (.bool true) ∧ Below w.heap.size w w' := by
  have h0 : a0.size ≤ maxLen := by unfold maxLen; omega
  have h1 : a1.size ≤ maxLen := by unfold maxLen; omega
  go_enter Try.func4, Try.ntmps4
  go_wp2_with fail
  refine (awake02_any _).mono ?_
  rintro e w1 ⟨rfl, hb1⟩
  go_wp2_with fail
  refine (sum_all a0 _ h0).mono ?_
  rintro e w2 ⟨rfl, hb2⟩
  go_wp2_with fail
  refine (add_all _ a1 _ (add_lt _ _) h1).mono ?_
  rintro e w3 ⟨rfl, hb3⟩
  go_wp2_with fail
  refine (sum_all (a0 ++ a1) _ (by rw [ByteArray.size_append]; unfold maxLen; omega)).mono ?_
  rintro e w4 ⟨rfl, hb4⟩
  have hj := Crc.add_append (nats a0) (nats a1) (nats_bytes a0)
  have hn : nats (a0 ++ a1) = nats a0 ++ nats a1 := by simp [nats]
  rw [← hn] at hj
  have HJ := Lib.hid hj
  clear hj hn
  go_wp2_with fail
  go_ret
  exact ⟨by rw [HJ.out]; simp, (hb1.trans (hb2.mono hb1.size)).trans ((hb3.mono (Nat.le_trans hb1.size hb2.size)).trans (hb4.mono (Nat.le_trans hb1.size (Nat.le_trans hb2.size hb3.size))))⟩
set_option maxHeartbeats 400000 in
theorem walkCrcChains (a0 : Int) (a1 : ByteArray) (b0 : 0 ≤ a0 ∧ a0 ≤ 18446744073709551615) (b1 : a1.size ≤ 140737488351232) (w : World) :
    Calls Try.prog 6 #[.int .u64 a0, .string a1] w fun e w' => e = .returned (.bool true) ∧ Below w.heap.size w w' := by
  obtain ⟨n, rfl⟩ := Int.eq_ofNat_of_zero_le b0.1
  have hn : n < 18446744073709551616 := by omega
  have hl : a1.size ≤ maxLen := by unfold maxLen; omega
  clear b0
  go_enter Try.func6, Try.ntmps6
  go_wp2_with fail
  refine (awake02_any _).mono ?_
  rintro e w1 ⟨rfl, hb1⟩
  go_wp2_with fail
  refine (chain_any n a1 _ hn hl).mono ?_
  rintro e w2 ⟨rfl, rfl⟩
  go_wp2_with fail
  refine (refchain_any n a1 _ hn (by omega)).mono ?_
  rintro e w3 ⟨rfl, rfl⟩
  go_wp2_with fail
  go_ret
  exact ⟨by simp, hb1⟩
end Go.Proofs.Ytnpipiamojmbhaa

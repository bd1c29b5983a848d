import Derived.Test.YtnpipiamojmbhaaCrcX
namespace Go.Proofs.Ytnpipiamojmbhaa
open Go.RowKit
set_option maxHeartbeats 400000 in
theorem walkCrcTells (a0 : ByteArray) (a1 : Int) (a2 : Int) (b0 : a0.size ≤ 140737488351232) (b1 : -9223372036854775808 ≤ a1 ∧ a1 ≤ 9223372036854775807) (b2 : 0 ≤ a2 ∧ a2 ≤ 4294967295) (w : World) :
    Calls Try.prog 5 #[.string a0, .int .i64 a1, .int .u32 a2] w fun e w' => e = .returned (.bool true) ∧ Below w.heap.size w w' := by
  by_cases hin : 0 ≤ a1 ∧ a1 + 4 ≤ a0.size
  · obtain ⟨n, rfl⟩ := Int.eq_ofNat_of_zero_le hin.1
    obtain ⟨d, rfl⟩ := Int.eq_ofNat_of_zero_le b2.1
    exact walkCrcTells_in a0 n d b0 (by omega) (by omega) w
  · by_cases h4 : (a0.size : Int) < 4
    · go_enter Try.func5, Try.ntmps5
      go_wp2_with fail
      refine (awake02_any _).mono ?_
      rintro e w1 ⟨rfl, hb1⟩
      go_wp2_with fail
      go_ret
      exact ⟨rfl, hb1⟩
    · by_cases hneg : a1 < 0
      · go_enter Try.func5, Try.ntmps5
        go_wp2_with fail
        refine (awake02_any _).mono ?_
        rintro e w1 ⟨rfl, hb1⟩
        go_wp2_with fail
        go_ret
        exact ⟨rfl, hb1⟩
      · have hgt : (a0.size : Int) - 4 < a1 := by omega
        go_enter Try.func5, Try.ntmps5
        go_wp2_with fail
        refine (awake02_any _).mono ?_
        rintro e w1 ⟨rfl, hb1⟩
        go_wp2_with fail
        go_ret
        exact ⟨rfl, hb1⟩
theorem link_any (h : Nat) (c : Nat) (w : World) (hh : h < 18446744073709551616) (hc : c < 256) :
    Calls Try.prog 18 #[.int .u64 h, .string (text [c])] w fun e w' => e = .returned (.int .u64 (Chain.chain h [c])) ∧ w = w' := by
  have := chain_any h (text [c]) w hh (by rw [text_size]; show 1 ≤ maxLen; decide)
  rw [nats_text [c] (fun b hb => by simp at hb; omega)] at this
  exact this
theorem run_one (W : World) (c : Nat) (hc : c < 256) :
    (convert 28 9 (.slice (some ⟨W.heap.size, 0, none⟩) 1 1)).run Try.prog (W.alloc (.cells #[.int .u8 c] 5)) = .ok (.string (text [c])) (W.alloc (.cells #[.int .u8 c] 5)) := by
  refine run_back Try.prog _ _ _ _ _ _ 1 [c] Try.underlying28 Try.underlying5 Try.underlying9 (fun b hb => by simp at hb; omega) rfl ?_
  intro j x hx
  have hb := heap_alloc_new W (.cells #[.int .u8 c] 5)
  match j, hx with
  | 0, hx =>
    simp at hx; subst hx
    refine ⟨by rw [cell_of_row _ _ _ _ _ _ hb]; rfl, ?_⟩
    unfold World.frozen?
    rw [hb]
    simp
set_option maxHeartbeats 400000 in
theorem walkCrcLinks_nat (h g c d : Nat) (hh : h < 18446744073709551616) (hg : g < 18446744073709551616) (hc : c < 256) (hd : d < 256) (w : World) :
    Calls Try.prog 7 #[.int .u64 h, .int .u64 g, .int .u8 c, .int .u8 d] w fun e w' => e = .returned (.bool true) ∧ Below w.heap.size w w' := by
  have F1 : (((Chain.chain h [c] : Nat) : Int) == ((Chain.chain g [c] : Nat) : Int)) = ((h : Int) == (g : Int)) := by
    have := Chain.link_heads h g c hh hg hc
    rw [Bool.eq_iff_iff, beq_iff_eq, beq_iff_eq]; omega
  have F2 : (((Chain.chain h [c] : Nat) : Int) == ((Chain.chain h [d] : Nat) : Int)) = ((c : Int) == (d : Int)) := by
    have := Chain.link_bytes h c d hh hc hd
    rw [Bool.eq_iff_iff, beq_iff_eq, beq_iff_eq]; omega
  obtain ⟨A, hA⟩ : ∃ A, A = Chain.chain h [c] := ⟨_, rfl⟩
  obtain ⟨B, hB⟩ : ∃ B, B = Chain.chain g [c] := ⟨_, rfl⟩
  obtain ⟨C, hC⟩ : ∃ C, C = Chain.chain h [d] := ⟨_, rfl⟩
  have c1 := fun w => link_any h c w hh hc
  have c2 := fun w => link_any g c w hg hc
  have c3 := fun w => link_any h d w hh hd
  rw [← hA, ← hB] at F1
  rw [← hA, ← hC] at F2
  rw [← hA] at c1
  rw [← hB] at c2
  rw [← hC] at c3
  have C1 := Lib.hid c1
  have C2 := Lib.hid c2
  have C3 := Lib.hid c3
  clear hA hB hC c1 c2 c3
  have F1' := Lib.hid F1
  have F2' := Lib.hid F2
  clear F1 F2
  go_enter Try.func7, Try.ntmps7
  go_wp2_with fail
  refine (awake02_any _).mono ?_
  rintro e w1 ⟨rfl, hb1⟩
  have r1 := run_one w1 c hc
  have r2 := run_one (w1.alloc (.cells #[.int .u8 c] 5)) d hd
  simp only [World.size_alloc] at r2
  go_wp2_with fail
  clear r1 r2
  refine (C1.out _).mono ?_
  rintro e w2 ⟨rfl, rfl⟩
  go_wp2_with fail
  refine (C2.out _).mono ?_
  rintro e w2 ⟨rfl, rfl⟩
  have F1 := F1'.out
  have F2 := F2'.out
  go_wp2_with fail
  clear F1 F2
  refine (C1.out _).mono ?_
  rintro e w2 ⟨rfl, rfl⟩
  have F1 := F1'.out
  have F2 := F2'.out
  go_wp2_with fail
  clear F1 F2
  refine (C3.out _).mono ?_
  rintro e w2 ⟨rfl, rfl⟩
  have F1 := F1'.out
  have F2 := F2'.out
  go_wp2_with fail
  go_ret
  exact ⟨rfl, (hb1.alloc hb1.size _).alloc (by have := hb1.size; simp; omega) _⟩
theorem walkCrcLinks (a0 : Int) (a1 : Int) (a2 : Int) (a3 : Int) (b0 : 0 ≤ a0 ∧ a0 ≤ 18446744073709551615) (b1 : 0 ≤ a1 ∧ a1 ≤ 18446744073709551615) (b2 : 0 ≤ a2 ∧ a2 ≤ 255) (b3 : 0 ≤ a3 ∧ a3 ≤ 255) (w : World) :
    Calls Try.prog 7 #[.int .u64 a0, .int .u64 a1, .int .u8 a2, .int .u8 a3] w fun e w' => e = .returned (.bool true) ∧ Below w.heap.size w w' := by
  obtain ⟨h, rfl⟩ := Int.eq_ofNat_of_zero_le b0.1
  obtain ⟨g, rfl⟩ := Int.eq_ofNat_of_zero_le b1.1
  obtain ⟨c, rfl⟩ := Int.eq_ofNat_of_zero_le b2.1
  obtain ⟨d, rfl⟩ := Int.eq_ofNat_of_zero_le b3.1
  exact walkCrcLinks_nat h g c d (by omega) (by omega) (by omega) (by omega) w
end Go.Proofs.Ytnpipiamojmbhaa

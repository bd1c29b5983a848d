import Derived.Test.YtmebodjofcomlaaEntD
namespace Go.Proofs.Ytmebodjofcomlaa
open Go.RowKit
set_option linter.unusedVariables false in
set_option maxHeartbeats 2000000 in
theorem walkEntryNext (a0_0 : Int) (a0_1 : Int) (a0_2 : Int) (a1_0 : Int) (a1_1 : Int) (a1_2 : Int) (a2_0 : Int) (a2_1 : Int) (a2_2 : Int) (a2_3 : Int) (a2_4 : Int) (a2_5 : Int) (a2_6 : Int) (a2_7 : Int) (a2_8 : ByteArray) (b0_0 : -9223372036854775808 ≤ a0_0 ∧ a0_0 ≤ 9223372036854775807) (b0_1 : -9223372036854775808 ≤ a0_1 ∧ a0_1 ≤ 9223372036854775807) (b0_2 : 0 ≤ a0_2 ∧ a0_2 ≤ 18446744073709551615) (b1_0 : -9223372036854775808 ≤ a1_0 ∧ a1_0 ≤ 9223372036854775807) (b1_1 : -9223372036854775808 ≤ a1_1 ∧ a1_1 ≤ 9223372036854775807) (b1_2 : 0 ≤ a1_2 ∧ a1_2 ≤ 18446744073709551615) (b2_0 : -9223372036854775808 ≤ a2_0 ∧ a2_0 ≤ 9223372036854775807) (b2_1 : -9223372036854775808 ≤ a2_1 ∧ a2_1 ≤ 9223372036854775807) (b2_2 : -9223372036854775808 ≤ a2_2 ∧ a2_2 ≤ 9223372036854775807) (b2_3 : 0 ≤ a2_3 ∧ a2_3 ≤ 18446744073709551615) (b2_4 : -9223372036854775808 ≤ a2_4 ∧ a2_4 ≤ 9223372036854775807) (b2_5 : -9223372036854775808 ≤ a2_5 ∧ a2_5 ≤ 9223372036854775807) (b2_6 : -9223372036854775808 ≤ a2_6 ∧ a2_6 ≤ 9223372036854775807) (b2_7 : -9223372036854775808 ≤ a2_7 ∧ a2_7 ≤ 9223372036854775807) (w : World) :
    Calls Try.prog 3 #[.agg #[.int .i64 a0_0, .int .i64 a0_1, .int .u64 a0_2], .agg #[.int .i64 a1_0, .int .i64 a1_1, .int .u64 a1_2], .agg #[.int .i64 a2_0, .int .i64 a2_1, .int .i64 a2_2, .int .u64 a2_3, .int .i64 a2_4, .int .i64 a2_5, .int .i64 a2_6, .int .i64 a2_7, .string a2_8]] w fun e w' => e = .returned (.bool true) ∧ Below w.heap.size w w' := by
  by_cases hlong : 5000 < a2_8.size
  · have hM : Row (((w.alloc (.cells #[.int .i64 a0_0, .int .i64 a0_1, .int .u64 a0_2] 24)).alloc (.cells #[.int .i64 a1_0, .int .i64 a1_1, .int .u64 a1_2] 24)).alloc (.cells #[.int .i64 a2_0, .int .i64 a2_1, .int .i64 a2_2, .int .u64 a2_3, .int .i64 a2_4, .int .i64 a2_5, .int .i64 a2_6, .int .i64 a2_7, .string a2_8] 26)) (w.heap.size + 1 + 1) #[.int .i64 a2_0, .int .i64 a2_1, .int .i64 a2_2, .int .u64 a2_3, .int .i64 a2_4, .int .i64 a2_5, .int .i64 a2_6, .int .i64 a2_7, .string a2_8] :=
      Row.new _ _ _ _ (by simp)
    have hB0 : Below w.heap.size w (((w.alloc (.cells #[.int .i64 a0_0, .int .i64 a0_1, .int .u64 a0_2] 24)).alloc (.cells #[.int .i64 a1_0, .int .i64 a1_1, .int .u64 a1_2] 24)).alloc (.cells #[.int .i64 a2_0, .int .i64 a2_1, .int .i64 a2_2, .int .u64 a2_3, .int .i64 a2_4, .int .i64 a2_5, .int .i64 a2_6, .int .i64 a2_7, .string a2_8] 26)) :=
      (((Below.refl _ _).alloc (Nat.le_refl _) _).alloc (by simp) _).alloc (by simp; omega) _
    have H0 := Lib.hid (And.intro hM hB0)
    clear hM hB0
    go_enter Try.func3, Try.ntmps3
    go_wp2_with fail
    refine (awake09_any _).mono ?_
    rintro e w1 ⟨rfl, hb1⟩
    have H1 := Lib.hid (And.intro (H0.out.1.below hb1 H0.out.1.1) (H0.out.2.trans (hb1.mono H0.out.2.size)))
    clear hb1
    have c8 := H1.out.1.2 8 _ rfl
    go_wp2_with fail
    refine (long_yes _ _ hlong).mono ?_
    rintro e w2 ⟨rfl, rfl⟩
    go_wp2_with fail
    go_ret
    exact ⟨rfl, H1.out.2⟩
  · have key : ∀ opx : Int, (a0_0 < 0 ∧ opx = a2_1) ∨ (72057594037927935 ≤ a0_0 ∧ opx = a2_1) ∨ (0 ≤ a0_0 ∧ a0_0 < 72057594037927935 ∧ opx = a0_0 + 1) → nextOp a0_0 a2_1 = opx → -9223372036854775808 ≤ opx ∧ opx ≤ 9223372036854775807 →
      Calls Try.prog 3 #[.agg #[.int .i64 a0_0, .int .i64 a0_1, .int .u64 a0_2], .agg #[.int .i64 a1_0, .int .i64 a1_1, .int .u64 a1_2], .agg #[.int .i64 a2_0, .int .i64 a2_1, .int .i64 a2_2, .int .u64 a2_3, .int .i64 a2_4, .int .i64 a2_5, .int .i64 a2_6, .int .i64 a2_7, .string a2_8]] w fun e w' => e = .returned (.bool true) ∧ Below w.heap.size w w' := by
      intro opx hG hx hb
      refine nextCore a0_0 a0_1 a0_2 a1_0 a1_1 a1_2 a2_0 a2_1 a2_2 a2_3 a2_4 a2_5 a2_6 a2_7 opx a2_8
        (entB a2_0 opx a0_1 a2_4 a2_5 a2_6 a2_7 a2_8) (folB a1_0 a1_1 a1_2 a2_0 opx a0_1 a0_2 a2_4 a2_5 a2_6 a2_7 a2_8) (folB a0_0 a0_1 a0_2 a2_0 opx a0_1 a0_2 a2_4 a2_5 a2_6 a2_7 a2_8)
        (by omega) (fun w => by have h := next_any a0_0 a0_1 a0_2 a2_0 a2_1 a2_2 a2_3 a2_4 a2_5 a2_6 a2_7 a2_8 w; rw [hx] at h; exact h)
        (fun w => entright_any _ _ _ _ _ _ _ _ _ w) (fun w => follows_any _ _ _ _ _ _ _ _ _ _ _ _ hb w) (fun w => follows_any _ _ _ _ _ _ _ _ _ _ _ _ hb w) hG ?_ ?_ w
      · intro g0 g1 hR
        exact folB_yes _ _ _ _ _ _ _ _ _ _ _ _ hR ⟨by omega, rfl, rfl⟩
      · intro hne hF
        cases hF2 : folB a0_0 a0_1 a0_2 a2_0 opx a0_1 a0_2 a2_4 a2_5 a2_6 a2_7 a2_8
        · rfl
        · unfold folB at hF hF2
          rw [Bool.and_eq_true] at hF hF2
          have p := of_decide_eq_true hF.2
          have q := of_decide_eq_true hF2.2
          exact absurd ⟨by omega, by omega, by omega⟩ hne
    by_cases g0 : 0 ≤ a0_0
    · by_cases g1 : a0_0 < 72057594037927935
      · exact key (a0_0 + 1) (by omega) (nextOp_in _ _ ⟨g0, g1⟩) (by omega)
      · exact key a2_1 (by omega) (nextOp_out _ _ (fun h => g1 h.2)) b2_1
    · exact key a2_1 (by omega) (nextOp_out _ _ (fun h => g0 h.1)) b2_1
end Go.Proofs.Ytmebodjofcomlaa

import Derived.Test.YtnldjddmchfcoaaMailG
namespace Go.Proofs.Ytnldjddmchfcoaa
open Go.RowKit
set_option linter.unusedVariables false in
theorem walkMailNil (a0_0 : Int) (a0_1 : Int) (a0_2 : ByteArray) (b0_0 : -9223372036854775808 ≤ a0_0 ∧ a0_0 ≤ 9223372036854775807) (b0_1 : -9223372036854775808 ≤ a0_1 ∧ a0_1 ≤ 9223372036854775807) (w : World) :
    Calls Try.prog 6 #[.agg #[.int .i64 a0_0, .int .i64 a0_1, .string a0_2]] w fun e w' => e = .returned (.bool true) ∧ Below w.heap.size w w' := by
  go_enter Try.func6, Try.ntmps6
  have HR := Lib.hid (show Row (w.alloc (.cells #[.int .i64 a0_0, .int .i64 a0_1, .string a0_2] 40)) w.heap.size #[.int .i64 a0_0, .int .i64 a0_1, .string a0_2] ∧ Below w.heap.size w (w.alloc (.cells #[.int .i64 a0_0, .int .i64 a0_1, .string a0_2] 40)) from ⟨Row.new w _ _ _ rfl, (Below.refl _ _).alloc (Nat.le_refl _) _⟩)
  go_wp2_with fail
  refine (awake20_any _).mono ?_
  rintro e w1 ⟨rfl, hb1⟩
  have HR1 := Lib.hid (show Row w1 w.heap.size #[.int .i64 a0_0, .int .i64 a0_1, .string a0_2] ∧ Below w.heap.size w w1 from ⟨HR.out.1.below hb1 HR.out.1.1, HR.out.2.trans (hb1.mono HR.out.2.size)⟩)
  clear HR hb1
  go_wp2_with fail
  refine (take_nil _).mono ?_
  rintro e w2 ⟨rfl, hb2⟩
  have HR2 := Lib.hid (show Row w2 w.heap.size #[.int .i64 a0_0, .int .i64 a0_1, .string a0_2] ∧ Below w.heap.size w w2 from ⟨HR1.out.1.below hb2 HR1.out.1.1, HR1.out.2.trans (hb2.mono HR1.out.2.size)⟩)
  clear HR1 hb2
  have HR3 := HR2.out.1.alloc (.cells #[.int .i64 0, .int .i64 0, .string ⟨#[]⟩] 40)
  have HZ := Lib.hid (Row.new w2 #[.int .i64 0, .int .i64 0, .string ⟨#[]⟩] 40 w2.heap.size rfl)
  have HB3 := Lib.hid (HR2.out.2.alloc HR2.out.2.size (.cells #[.int .i64 0, .int .i64 0, .string ⟨#[]⟩] 40))
  have r0 := HR3.2 0 _ rfl
  have r1 := HR3.2 1 _ rfl
  have r2 := HR3.2 2 _ rfl
  have hlt := HR3.1
  go_wp2_with fail
  generalize w2.alloc (.cells #[.int .i64 0, .int .i64 0, .string ⟨#[]⟩] 40) = w3 at *
  refine (show Calls Try.prog 19 #[.pointer none, .agg #[.int .i64 a0_0, .int .i64 a0_1, .string a0_2]] w3 _ from put_nil w3 _ ⟨⟨a0_0, a0_1, a0_2⟩, rfl⟩).mono ?_
  rintro e w4 ⟨rfl, hb4⟩
  have HZ4 := HZ.out.below hb4 HZ.out.1
  have HB4 := Lib.hid (HB3.out.trans (hb4.mono HB3.out.size))
  have z0 := HZ4.2 0 _ rfl
  have z1 := HZ4.2 1 _ rfl
  have z2 := HZ4.2 2 _ rfl
  clear r0 r1 r2 hb4
  go_wp2_with (first | (go_at_call 24; refine (all_nil _).mono ?_; rintro e w' ⟨rfl, rfl⟩) | (go_at_call 25; refine (len_nil _).mono ?_; rintro e w' ⟨rfl, rfl⟩))
  go_ret
  exact ⟨rfl, HB4.out⟩
end Go.Proofs.Ytnldjddmchfcoaa

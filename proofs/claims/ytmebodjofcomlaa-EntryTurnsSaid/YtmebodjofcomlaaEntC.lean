import Derived.Test.YtmebodjofcomlaaEntB
namespace Go.Proofs.Ytmebodjofcomlaa
open Go.RowKit
theorem long_no (s : ByteArray) (w : World) (h : s.size ≤ 5000) : Calls Try.prog 12 #[.string s] w fun e w' => e = .returned (.bool false) ∧ w = w' := by
  have h' : ¬ (5000 : Int) < s.size := by omega
  go_enter Try.func12, Try.ntmps12
  go_wp2
  go_ret
  exact ⟨ret_bool (by first | rfl | (simp; omega)), rfl⟩
theorem long_yes (s : ByteArray) (w : World) (h : 5000 < s.size) : Calls Try.prog 12 #[.string s] w fun e w' => e = .returned (.bool true) ∧ w = w' := by
  have h' : (5000 : Int) < s.size := by omega
  go_enter Try.func12, Try.ntmps12
  go_wp2
  go_ret
  exact ⟨ret_bool (by first | rfl | (simp; omega)), rfl⟩
theorem awk_next (w : World) : Calls Try.prog 13 #[.agg #[.int .i64 0, .int .i64 0, .int .u64 0], .agg #[.int .i64 0, .int .i64 0, .int .i64 0, .int .u64 0, .int .i64 7, .int .i64 0, .int .i64 0, .int .i64 1, .string ⟨#[]⟩]] w fun e w' =>
      e = .returned (.agg #[.int .i64 0, .int .i64 1, .int .i64 0, .int .u64 0, .int .i64 7, .int .i64 0, .int .i64 0, .int .i64 1, .string ⟨#[]⟩]) ∧ Below w.heap.size w w' := next_any 0 0 0 0 0 0 0 7 0 0 1 ⟨#[]⟩ w
theorem awk_fol (w : World) : Calls Try.prog 15 #[.agg #[.int .i64 0, .int .i64 0, .int .u64 0], .agg #[.int .i64 0, .int .i64 1, .int .i64 0, .int .u64 0, .int .i64 7, .int .i64 0, .int .i64 0, .int .i64 1, .string ⟨#[]⟩]] w fun e w' => e = .returned (.bool true) ∧ Below w.heap.size w w' :=
  (follows_any 0 0 0 0 1 0 0 7 0 0 1 ⟨#[]⟩ (by decide) w).mono fun e w' ⟨he, hb⟩ => ⟨by rw [he, show folB 0 0 0 0 1 0 0 7 0 0 1 ⟨#[]⟩ = true from by decide], hb⟩
theorem awk_right (w : World) : Calls Try.prog 14 #[.agg #[.int .i64 0, .int .i64 1, .int .i64 0, .int .u64 0, .int .i64 0, .int .i64 0, .int .i64 0, .int .i64 1, .string ⟨#[]⟩]] w fun e w' => e = .returned (.bool false) ∧ Below w.heap.size w w' :=
  (entright_any 0 1 0 0 0 0 0 1 ⟨#[]⟩ w).mono fun e w' ⟨he, hb⟩ => ⟨by rw [he, show entB 0 1 0 0 0 0 1 ⟨#[]⟩ = false from by decide], hb⟩
set_option maxHeartbeats 2000000 in
theorem awake09_any (w : World) : Calls Try.prog 11 #[] w fun e w' => e = .returned (.bool true) ∧ Below w.heap.size w w' := by
  go_enter Try.func11, Try.ntmps11
  go_wp2_with fail
  refine (awk_next _).mono ?_
  rintro e w1 ⟨rfl, hb1⟩
  go_wp2_with fail
  refine (awk_fol _).mono ?_
  rintro e w2 ⟨rfl, hb2⟩
  have HB := Lib.hid ((hb1.alloc hb1.size _).trans (hb2.mono (by simp; have := hb1.size; omega)))
  clear hb2
  go_wp2_with fail
  refine (awk_right _).mono ?_
  rintro e w3 ⟨rfl, hb3⟩
  go_wp2_with fail
  go_ret
  exact ⟨rfl, HB.out.trans (hb3.mono HB.out.size)⟩
end Go.Proofs.Ytmebodjofcomlaa

import Derived.Test.YtmebodjofcomlaaPackC
import Derived.Test.YtmebodjofcomlaaRow
namespace Go.Proofs.Ytmebodjofcomlaa
open Go.RowKit
theorem long05_no (s : ByteArray) (w : World) (h : s.size ≤ 5000) : Calls Try.prog 17 #[.string s] w fun e w' => e = .returned (.bool false) ∧ w = w' := by
  have h' : ¬ (5000 : Int) < s.size := by omega
  go_enter Try.func17, Try.ntmps17
  go_wp2
  go_ret
  exact ⟨ret_bool (by first | rfl | (simp; omega)), rfl⟩
theorem long05_yes (s : ByteArray) (w : World) (h : 5000 < s.size) : Calls Try.prog 17 #[.string s] w fun e w' => e = .returned (.bool true) ∧ w = w' := by
  have h' : (5000 : Int) < s.size := by omega
  go_enter Try.func17, Try.ntmps17
  go_wp2
  go_ret
  exact ⟨ret_bool (by first | rfl | (simp; omega)), rfl⟩
theorem add_none : Crc.add 0 [] = 0 := by decide +kernel
def awkL : List Nat := packL 0 0 0 [0, 0, 0, 0, 0, 0, 0, 0] 0 []
theorem awk_size : (text awkL).size = 128 := by rw [text_size]; unfold awkL; rw [packL_length]; rfl
theorem awk_cut : (text awkL).extract 4 8 = ⟨#[0, 0, 0, 0]⟩ := by
  have e : ∀ q : List Nat, q.length = 4 → ∀ r : List Nat, (text (q ++ ([0, 0, 0, 0] ++ r))).extract 4 8 = ⟨#[0, 0, 0, 0]⟩ := by
    intro q hq r
    match q, hq with
    | [q0, q1, q2, q3], _ =>
      apply ByteArray.ext
      rw [ByteArray.data_extract]
      apply Array.toList_inj.1
      simp [text]
  have h : awkL = leN (Crc.add 0 (packIn 0 0 0 [0, 0, 0, 0, 0, 0, 0, 0] 0 [])) 4 ++ ([0, 0, 0, 0] ++ ([0, 0, 0, 0] ++ leN 0 4 ++ leN 0 8 ++ [0, 0, 0, 0, 0, 0, 0, 0].flatMap (leN · 8) ++ List.replicate 40 0)) := by
    unfold awkL packL
    rw [List.append_nil]
    conv => lhs; rhs; unfold packIn; rw [add_none]
    rfl
  rw [h]
  exact e _ (leN_length _ _) _
theorem awk_yes (w : World) : Calls Try.prog 18 #[.agg #[.int .i64 0, .int .i64 0, .int .i64 0, .int .i64 0, .int .i64 0, .int .i64 0, .int .i64 0, .int .i64 0, .int .i64 0, .int .i64 0, .int .i64 0, .int .u64 0], .string ⟨#[]⟩] w fun e w' =>
      e = .returned (.tuple #[.string (text awkL), .int .i64 0]) ∧ Below w.heap.size w w' :=
  pack_ok 0 0 0 0 0 0 0 0 0 0 0 0 ⟨#[]⟩ w (by decide) (by decide) (by decide)
theorem awk_not (w : World) : Calls Try.prog 18 #[.agg #[.int .i64 0, .int .i64 0, .int .i64 0, .int .i64 (-1), .int .i64 0, .int .i64 0, .int .i64 0, .int .i64 0, .int .i64 0, .int .i64 0, .int .i64 0, .int .u64 0], .string ⟨#[]⟩] w fun e w' =>
      e = .returned (.tuple #[.string ⟨#[]⟩, .int .i64 4]) ∧ Below w.heap.size w w' :=
  pack_form 0 0 0 (-1) 0 0 0 0 0 0 0 0 ⟨#[]⟩ w (by decide)
set_option maxHeartbeats 2000000 in
theorem awake05_any (w : World) : Calls Try.prog 16 #[] w fun e w' => e = .returned (.bool true) ∧ Below w.heap.size w w' := by
  have hs := awk_size
  have hc := awk_cut
  go_enter Try.func16, Try.ntmps16
  go_wp2_with fail
  refine (awk_yes _).mono ?_
  rintro e w1 ⟨rfl, hb1⟩
  generalize text awkL = s at hs hc ⊢
  go_wp2_with fail
  refine (awk_not _).mono ?_
  rintro e w2 ⟨rfl, hb2⟩
  have HB := Lib.hid (hb1.trans (hb2.mono hb1.size))
  clear hb1 hb2
  go_wp2_with fail
  go_ret
  exact ⟨rfl, HB.out⟩
end Go.Proofs.Ytmebodjofcomlaa

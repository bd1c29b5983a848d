import Derived.Test.YtecaahcmebdglaaProg
import Derived.Test.YtecaahcmebdglaaQuoLaw
import Derived.WalkKit
import Derived.WalkSpells
import Derived.WalkLawsBesides
import Derived.Lib.Hide
namespace Go.Proofs.Ytecaahcmebdglaa
open Go.RowKit
theorem ret_int {k : IntKind} {a b : Int} (h : a = b) : Ending.returned (.int k a) = .returned (.int k b) := by rw [h]
theorem ret_bool {a b : Bool} (h : a = b) : Ending.returned (.bool a) = .returned (.bool b) := by rw [h]
def qs (s : Int) : Nat := (s % 32).toNat
theorem qs_lt (s : Int) : qs s < 32 := by unfold qs; omega
theorem may_yes (c : Int) (w : World) (h : c = 3 ∨ c = 5) : Calls Try.prog 15 #[.int .i64 c] w fun e w' => e = .returned (.bool true) ∧ w = w' := by
  rcases h with rfl | rfl
  all_goals
    go_enter Try.func15, Try.ntmps15
    go_wp2
    go_ret
    exact ⟨rfl, rfl⟩
theorem may_no (c : Int) (w : World) (h3 : (c == 3) = false) (h5 : (c == 5) = false) : Calls Try.prog 15 #[.int .i64 c] w fun e w' => e = .returned (.bool false) ∧ w = w' := by
  go_enter Try.func15, Try.ntmps15
  go_wp2
  go_ret
  exact ⟨rfl, rfl⟩
theorem cases_count (c : Int) : c = 3 ∨ c = 5 ∨ ((c == 3) = false ∧ (c == 5) = false ∧ c ≠ 3 ∧ c ≠ 5) := by
  by_cases h3 : c = 3
  · exact .inl h3
  · by_cases h5 : c = 5
    · exact .inr (.inl h5)
    · exact .inr (.inr ⟨by simpa using h3, by simpa using h5, h3, h5⟩)
theorem enough_any (c : Int) (w : World) : Calls Try.prog 16 #[.int .i64 c] w fun e w' => e = .returned (.int .i64 (Quo.enough c)) ∧ w = w' := by
  rcases cases_count c with rfl | rfl | ⟨h3, h5, n3, n5⟩
  · go_enter Try.func16, Try.ntmps16
    go_wp2_with (go_at_call 15; refine (may_yes _ _ (.inl rfl)).mono ?_; rintro e w' ⟨rfl, rfl⟩)
    go_ret
    exact ⟨rfl, rfl⟩
  · go_enter Try.func16, Try.ntmps16
    go_wp2_with (go_at_call 15; refine (may_yes _ _ (.inr rfl)).mono ?_; rintro e w' ⟨rfl, rfl⟩)
    go_ret
    exact ⟨rfl, rfl⟩
  · have hf : Quo.enough c = 0 := by unfold Quo.enough; rw [if_neg n3, if_neg n5]
    have HF := Lib.hid hf
    clear hf n3 n5
    go_enter Try.func16, Try.ntmps16
    go_wp2_with (go_at_call 15; refine (may_no _ _ h3 h5).mono ?_; rintro e w' ⟨rfl, rfl⟩)
    go_ret
    exact ⟨ret_int HF.out.symm, rfl⟩
theorem refenough_any (c : Int) (w : World) : Calls Try.prog 17 #[.int .i64 c] w fun e w' => e = .returned (.int .i64 (Quo.enough c)) ∧ w = w' := by
  rcases cases_count c with rfl | rfl | ⟨h3, h5, n3, n5⟩
  · go_enter Try.func17, Try.ntmps17
    go_wp2
    go_ret
    exact ⟨rfl, rfl⟩
  · go_enter Try.func17, Try.ntmps17
    go_wp2
    go_ret
    exact ⟨rfl, rfl⟩
  · have hf : Quo.enough c = 0 := by unfold Quo.enough; rw [if_neg n3, if_neg n5]
    have HF := Lib.hid hf
    clear hf n3 n5
    go_enter Try.func17, Try.ntmps17
    go_wp2
    go_ret
    exact ⟨ret_int HF.out.symm, rfl⟩
theorem prim_yes (c v : Int) (h : c = 3 ∨ c = 5) (h0 : 0 ≤ v) : Quo.primary c v = v % c + 1 := by unfold Quo.primary; rw [if_pos ⟨h, h0⟩]
theorem prim_no (c v : Int) (h : ¬ ((c = 3 ∨ c = 5) ∧ 0 ≤ v)) : Quo.primary c v = 0 := by unfold Quo.primary; rw [if_neg h]
theorem primary_any (c v : Int) (w : World) (_hv : -9223372036854775808 ≤ v ∧ v ≤ 9223372036854775807) : Calls Try.prog 18 #[.int .i64 c, .int .i64 v] w fun e w' => e = .returned (.int .i64 (Quo.primary c v)) ∧ w = w' := by
  rcases cases_count c with rfl | rfl | ⟨h3, h5, n3, n5⟩
  · by_cases h0 : 0 ≤ v
    · have HF := Lib.hid (prim_yes 3 v (.inl rfl) h0)
      go_enter Try.func18, Try.ntmps18
      go_wp2_with (go_at_call 15; refine (may_yes _ _ (.inl rfl)).mono ?_; rintro e w' ⟨rfl, rfl⟩)
      go_ret
      exact ⟨ret_int HF.out.symm, rfl⟩
    · have HF := Lib.hid (prim_no 3 v (fun h => h0 h.2))
      go_enter Try.func18, Try.ntmps18
      go_wp2_with (go_at_call 15; refine (may_yes _ _ (.inl rfl)).mono ?_; rintro e w' ⟨rfl, rfl⟩)
      go_ret
      exact ⟨ret_int HF.out.symm, rfl⟩
  · by_cases h0 : 0 ≤ v
    · have HF := Lib.hid (prim_yes 5 v (.inr rfl) h0)
      go_enter Try.func18, Try.ntmps18
      go_wp2_with (go_at_call 15; refine (may_yes _ _ (.inr rfl)).mono ?_; rintro e w' ⟨rfl, rfl⟩)
      go_ret
      exact ⟨ret_int HF.out.symm, rfl⟩
    · have HF := Lib.hid (prim_no 5 v (fun h => h0 h.2))
      go_enter Try.func18, Try.ntmps18
      go_wp2_with (go_at_call 15; refine (may_yes _ _ (.inr rfl)).mono ?_; rintro e w' ⟨rfl, rfl⟩)
      go_ret
      exact ⟨ret_int HF.out.symm, rfl⟩
  · have HF := Lib.hid (prim_no c v (fun h => by rcases h.1 with h | h; exact n3 h; exact n5 h))
    clear n3 n5
    go_enter Try.func18, Try.ntmps18
    go_wp2_with (go_at_call 15; refine (may_no _ _ h3 h5).mono ?_; rintro e w' ⟨rfl, rfl⟩)
    go_ret
    exact ⟨ret_int HF.out.symm, rfl⟩
theorem enough_zero (c : Int) (h3 : c ≠ 3) (h5 : c ≠ 5) : Quo.enough c = 0 := by unfold Quo.enough; rw [if_neg h3, if_neg h5]
theorem refprimary_any (c v : Int) (w : World) (_hv : -9223372036854775808 ≤ v ∧ v ≤ 9223372036854775807) : Calls Try.prog 19 #[.int .i64 c, .int .i64 v] w fun e w' => e = .returned (.int .i64 (Quo.primary c v)) ∧ w = w' := by
  rcases cases_count c with rfl | rfl | ⟨h3, h5, n3, n5⟩
  · by_cases h0 : 0 ≤ v
    · have HF := Lib.hid (prim_yes 3 v (.inl rfl) h0)
      have e3 : Quo.enough 3 = 2 := rfl
      go_enter Try.func19, Try.ntmps19
      go_wp2_with (go_at_call 17; refine (refenough_any _ _).mono ?_; rintro e w' ⟨rfl, rfl⟩)
      go_ret
      exact ⟨ret_int (by rw [HF.out]; omega), rfl⟩
    · have HF := Lib.hid (prim_no 3 v (fun h => h0 h.2))
      go_enter Try.func19, Try.ntmps19
      go_wp2_with (go_at_call 17; refine (refenough_any _ _).mono ?_; rintro e w' ⟨rfl, rfl⟩)
      go_ret
      exact ⟨ret_int HF.out.symm, rfl⟩
  · by_cases h0 : 0 ≤ v
    · have HF := Lib.hid (prim_yes 5 v (.inr rfl) h0)
      have e5 : Quo.enough 5 = 3 := rfl
      go_enter Try.func19, Try.ntmps19
      go_wp2_with (go_at_call 17; refine (refenough_any _ _).mono ?_; rintro e w' ⟨rfl, rfl⟩)
      go_ret
      exact ⟨ret_int (by rw [HF.out]; omega), rfl⟩
    · have HF := Lib.hid (prim_no 5 v (fun h => h0 h.2))
      go_enter Try.func19, Try.ntmps19
      go_wp2_with (go_at_call 17; refine (refenough_any _ _).mono ?_; rintro e w' ⟨rfl, rfl⟩)
      go_ret
      exact ⟨ret_int HF.out.symm, rfl⟩
  · have HF := Lib.hid (prim_no c v (fun h => by rcases h.1 with h | h; exact n3 h; exact n5 h))
    have hz := enough_zero c n3 n5
    clear n3 n5
    go_enter Try.func19, Try.ntmps19
    go_wp2_with (go_at_call 17; refine (refenough_any _ _).mono ?_; rintro e w' ⟨rfl, rfl⟩)
    go_ret
    exact ⟨ret_int HF.out.symm, rfl⟩
end Go.Proofs.Ytecaahcmebdglaa

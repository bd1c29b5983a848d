/- May a step let rot; may the group be. -/
import Derived.Test.YtecaahcmebdglaaBudLaw
import Derived.Test.YtecaahcmebdglaaQuoB
import Derived.Below
namespace Go.Proofs.Ytecaahcmebdglaa
open Go.RowKit
set_option linter.unusedVariables false
set_option maxHeartbeats 8000000 in
theorem brot_any (r c k wh p n a m o : Int) (b : ByteArray) (q : Option Addr) (u v : Nat) (w : World) : Calls Try.prog 60 #[.agg #[.int .i64 r, .int .i64 c], .agg #[.int .i64 k, .int .i64 wh, .int .i64 p, .int .i64 n, .int .i64 a, .int .i64 m, .int .i64 o, .string b, .slice q u v]] w fun e w' => e = .returned (.bool (Bud.rot r ⟨k, wh, p, n, a, m, o, b, q, u, v⟩)) ∧ Below w.heap.size w w' := by
  by_cases h0 : k = 11
  rotate_left
  · have HF : Hid (false = Bud.rot r ⟨k, wh, p, n, a, m, o, b, q, u, v⟩) := Lib.hid (by
      unfold Bud.rot
      symm
      rw [decide_eq_false_iff_not]
      intro h
      simp only at h
      omega)
    have h0' : (k == 11) = false := by simp [h0]
    clear h0
    go_enter Try.func60, Try.ntmps60
    go_wp2_with fail
    go_ret
    exact ⟨ret_bool (by rw [← HF.out] <;> simp <;> omega), ((Below.refl _ _).alloc (Nat.le_refl _) _).alloc (by simp) _⟩
  by_cases h1 : 1 ≤ wh
  rotate_left
  · have HF : Hid (false = Bud.rot r ⟨k, wh, p, n, a, m, o, b, q, u, v⟩) := Lib.hid (by
      unfold Bud.rot
      symm
      rw [decide_eq_false_iff_not]
      intro h
      simp only at h
      omega)
    have h1' : wh < 1 := by omega
    clear h1
    obtain rfl := h0
    go_enter Try.func60, Try.ntmps60
    go_wp2_with fail
    go_ret
    exact ⟨ret_bool (by rw [← HF.out] <;> simp <;> omega), ((Below.refl _ _).alloc (Nat.le_refl _) _).alloc (by simp) _⟩
  by_cases h2 : wh ≤ r
  rotate_left
  · have HF : Hid (false = Bud.rot r ⟨k, wh, p, n, a, m, o, b, q, u, v⟩) := Lib.hid (by
      unfold Bud.rot
      symm
      rw [decide_eq_false_iff_not]
      intro h
      simp only at h
      omega)
    have h2' : r < wh := by omega
    clear h2
    obtain rfl := h0
    go_enter Try.func60, Try.ntmps60
    go_wp2_with fail
    go_ret
    exact ⟨ret_bool (by rw [← HF.out] <;> simp <;> omega), ((Below.refl _ _).alloc (Nat.le_refl _) _).alloc (by simp) _⟩
  by_cases h3 : 0 ≤ n
  rotate_left
  · have HF : Hid (false = Bud.rot r ⟨k, wh, p, n, a, m, o, b, q, u, v⟩) := Lib.hid (by
      unfold Bud.rot
      symm
      rw [decide_eq_false_iff_not]
      intro h
      simp only at h
      omega)
    have h3' : n < 0 := by omega
    clear h3
    obtain rfl := h0
    go_enter Try.func60, Try.ntmps60
    go_wp2_with fail
    go_ret
    exact ⟨ret_bool (by rw [← HF.out] <;> simp <;> omega), ((Below.refl _ _).alloc (Nat.le_refl _) _).alloc (by simp) _⟩
  by_cases h4 : n < 32
  rotate_left
  · have HF : Hid (false = Bud.rot r ⟨k, wh, p, n, a, m, o, b, q, u, v⟩) := Lib.hid (by
      unfold Bud.rot
      symm
      rw [decide_eq_false_iff_not]
      intro h
      simp only at h
      omega)
    have h4' : 32 ≤ n := by omega
    clear h4
    obtain rfl := h0
    go_enter Try.func60, Try.ntmps60
    go_wp2_with fail
    go_ret
    exact ⟨ret_bool (by rw [← HF.out] <;> simp <;> omega), ((Below.refl _ _).alloc (Nat.le_refl _) _).alloc (by simp) _⟩
  by_cases h5 : 0 ≤ a
  rotate_left
  · have HF : Hid (false = Bud.rot r ⟨k, wh, p, n, a, m, o, b, q, u, v⟩) := Lib.hid (by
      unfold Bud.rot
      symm
      rw [decide_eq_false_iff_not]
      intro h
      simp only at h
      omega)
    have h5' : a < 0 := by omega
    clear h5
    obtain rfl := h0
    go_enter Try.func60, Try.ntmps60
    go_wp2_with fail
    go_ret
    exact ⟨ret_bool (by rw [← HF.out] <;> simp <;> omega), ((Below.refl _ _).alloc (Nat.le_refl _) _).alloc (by simp) _⟩
  by_cases h6 : a < 384
  rotate_left
  · have HF : Hid (false = Bud.rot r ⟨k, wh, p, n, a, m, o, b, q, u, v⟩) := Lib.hid (by
      unfold Bud.rot
      symm
      rw [decide_eq_false_iff_not]
      intro h
      simp only at h
      omega)
    have h6' : 384 ≤ a := by omega
    clear h6
    obtain rfl := h0
    go_enter Try.func60, Try.ntmps60
    go_wp2_with fail
    go_ret
    exact ⟨ret_bool (by rw [← HF.out] <;> simp <;> omega), ((Below.refl _ _).alloc (Nat.le_refl _) _).alloc (by simp) _⟩
  by_cases h7 : 1 ≤ m
  rotate_left
  · have HF : Hid (false = Bud.rot r ⟨k, wh, p, n, a, m, o, b, q, u, v⟩) := Lib.hid (by
      unfold Bud.rot
      symm
      rw [decide_eq_false_iff_not]
      intro h
      simp only at h
      omega)
    have h7' : m < 1 := by omega
    clear h7
    obtain rfl := h0
    go_enter Try.func60, Try.ntmps60
    go_wp2_with fail
    go_ret
    exact ⟨ret_bool (by rw [← HF.out] <;> simp <;> omega), ((Below.refl _ _).alloc (Nat.le_refl _) _).alloc (by simp) _⟩
  by_cases h8 : m ≤ 255
  rotate_left
  · have HF : Hid (false = Bud.rot r ⟨k, wh, p, n, a, m, o, b, q, u, v⟩) := Lib.hid (by
      unfold Bud.rot
      symm
      rw [decide_eq_false_iff_not]
      intro h
      simp only at h
      omega)
    have h8' : 255 < m := by omega
    clear h8
    obtain rfl := h0
    go_enter Try.func60, Try.ntmps60
    go_wp2_with fail
    go_ret
    exact ⟨ret_bool (by rw [← HF.out] <;> simp <;> omega), ((Below.refl _ _).alloc (Nat.le_refl _) _).alloc (by simp) _⟩
  have HF : Hid (true = Bud.rot r ⟨k, wh, p, n, a, m, o, b, q, u, v⟩) := Lib.hid (by
    unfold Bud.rot
    symm
    rw [decide_eq_true_iff]
    simp only
    omega)
  obtain rfl := h0
  go_enter Try.func60, Try.ntmps60
  go_wp2_with fail
  go_ret
  exact ⟨ret_bool (by rw [← HF.out] <;> simp <;> omega), ((Below.refl _ _).alloc (Nat.le_refl _) _).alloc (by simp) _⟩
set_option maxHeartbeats 8000000 in
theorem rrot_any (r c k wh p n a m o : Int) (b : ByteArray) (q : Option Addr) (u v : Nat) (w : World) : Calls Try.prog 54 #[.agg #[.int .i64 r, .int .i64 c], .agg #[.int .i64 k, .int .i64 wh, .int .i64 p, .int .i64 n, .int .i64 a, .int .i64 m, .int .i64 o, .string b, .slice q u v]] w fun e w' => e = .returned (.bool (Bud.rot r ⟨k, wh, p, n, a, m, o, b, q, u, v⟩)) ∧ Below w.heap.size w w' := by
  by_cases h0 : k = 11
  rotate_left
  · have HF : Hid (false = Bud.rot r ⟨k, wh, p, n, a, m, o, b, q, u, v⟩) := Lib.hid (by
      unfold Bud.rot
      symm
      rw [decide_eq_false_iff_not]
      intro h
      simp only at h
      omega)
    have h0' : (k == 11) = false := by simp [h0]
    go_enter Try.func54, Try.ntmps54
    go_wp2_with fail
    go_ret
    exact ⟨ret_bool (by rw [← HF.out] <;> simp <;> omega), ((Below.refl _ _).alloc (Nat.le_refl _) _).alloc (by simp) _⟩
  by_cases h1 : 1 ≤ wh
  rotate_left
  · have HF : Hid (false = Bud.rot r ⟨k, wh, p, n, a, m, o, b, q, u, v⟩) := Lib.hid (by
      unfold Bud.rot
      symm
      rw [decide_eq_false_iff_not]
      intro h
      simp only at h
      omega)
    have h1' : wh < 1 := by omega
    clear h1
    obtain rfl := h0
    go_enter Try.func54, Try.ntmps54
    go_wp2_with fail
    go_ret
    exact ⟨ret_bool (by rw [← HF.out] <;> simp <;> omega), ((Below.refl _ _).alloc (Nat.le_refl _) _).alloc (by simp) _⟩
  by_cases h2 : wh ≤ r
  rotate_left
  · have HF : Hid (false = Bud.rot r ⟨k, wh, p, n, a, m, o, b, q, u, v⟩) := Lib.hid (by
      unfold Bud.rot
      symm
      rw [decide_eq_false_iff_not]
      intro h
      simp only at h
      omega)
    have h2' : r < wh := by omega
    clear h2
    obtain rfl := h0
    go_enter Try.func54, Try.ntmps54
    go_wp2_with fail
    go_ret
    exact ⟨ret_bool (by rw [← HF.out] <;> simp <;> omega), ((Below.refl _ _).alloc (Nat.le_refl _) _).alloc (by simp) _⟩
  by_cases h3 : 0 ≤ n
  rotate_left
  · have HF : Hid (false = Bud.rot r ⟨k, wh, p, n, a, m, o, b, q, u, v⟩) := Lib.hid (by
      unfold Bud.rot
      symm
      rw [decide_eq_false_iff_not]
      intro h
      simp only at h
      omega)
    have h3' : n < 0 := by omega
    clear h3
    obtain rfl := h0
    go_enter Try.func54, Try.ntmps54
    go_wp2_with fail
    go_ret
    exact ⟨ret_bool (by rw [← HF.out] <;> simp <;> omega), ((Below.refl _ _).alloc (Nat.le_refl _) _).alloc (by simp) _⟩
  by_cases h4 : n < 32
  rotate_left
  · have HF : Hid (false = Bud.rot r ⟨k, wh, p, n, a, m, o, b, q, u, v⟩) := Lib.hid (by
      unfold Bud.rot
      symm
      rw [decide_eq_false_iff_not]
      intro h
      simp only at h
      omega)
    have h4' : 31 < n := by omega
    clear h4
    obtain rfl := h0
    go_enter Try.func54, Try.ntmps54
    go_wp2_with fail
    go_ret
    exact ⟨ret_bool (by rw [← HF.out] <;> simp <;> omega), ((Below.refl _ _).alloc (Nat.le_refl _) _).alloc (by simp) _⟩
  by_cases h5 : 0 ≤ a
  rotate_left
  · have HF : Hid (false = Bud.rot r ⟨k, wh, p, n, a, m, o, b, q, u, v⟩) := Lib.hid (by
      unfold Bud.rot
      symm
      rw [decide_eq_false_iff_not]
      intro h
      simp only at h
      omega)
    have h5' : a < 0 := by omega
    clear h5
    obtain rfl := h0
    go_enter Try.func54, Try.ntmps54
    go_wp2_with fail
    go_ret
    exact ⟨ret_bool (by rw [← HF.out] <;> simp <;> omega), ((Below.refl _ _).alloc (Nat.le_refl _) _).alloc (by simp) _⟩
  by_cases h6 : a < 384
  rotate_left
  · have HF : Hid (false = Bud.rot r ⟨k, wh, p, n, a, m, o, b, q, u, v⟩) := Lib.hid (by
      unfold Bud.rot
      symm
      rw [decide_eq_false_iff_not]
      intro h
      simp only at h
      omega)
    have h6' : 383 < a := by omega
    clear h6
    obtain rfl := h0
    go_enter Try.func54, Try.ntmps54
    go_wp2_with fail
    go_ret
    exact ⟨ret_bool (by rw [← HF.out] <;> simp <;> omega), ((Below.refl _ _).alloc (Nat.le_refl _) _).alloc (by simp) _⟩
  by_cases h7 : 1 ≤ m
  rotate_left
  · have HF : Hid (false = Bud.rot r ⟨k, wh, p, n, a, m, o, b, q, u, v⟩) := Lib.hid (by
      unfold Bud.rot
      symm
      rw [decide_eq_false_iff_not]
      intro h
      simp only at h
      omega)
    have h7' : m < 1 := by omega
    clear h7
    obtain rfl := h0
    go_enter Try.func54, Try.ntmps54
    go_wp2_with fail
    go_ret
    exact ⟨ret_bool (by rw [← HF.out] <;> simp <;> omega), ((Below.refl _ _).alloc (Nat.le_refl _) _).alloc (by simp) _⟩
  by_cases h8 : m ≤ 255
  rotate_left
  · have HF : Hid (false = Bud.rot r ⟨k, wh, p, n, a, m, o, b, q, u, v⟩) := Lib.hid (by
      unfold Bud.rot
      symm
      rw [decide_eq_false_iff_not]
      intro h
      simp only at h
      omega)
    have h8' : 255 < m := by omega
    clear h8
    obtain rfl := h0
    go_enter Try.func54, Try.ntmps54
    go_wp2_with fail
    go_ret
    exact ⟨ret_bool (by rw [← HF.out] <;> simp <;> omega), ((Below.refl _ _).alloc (Nat.le_refl _) _).alloc (by simp) _⟩
  have HF : Hid (true = Bud.rot r ⟨k, wh, p, n, a, m, o, b, q, u, v⟩) := Lib.hid (by
    unfold Bud.rot
    symm
    rw [decide_eq_true_iff]
    simp only
    omega)
  obtain rfl := h0
  have h4b : n ≤ 31 := by omega
  have h6b : a ≤ 383 := by omega
  go_enter Try.func54, Try.ntmps54
  go_wp2_with fail
  go_ret
  exact ⟨ret_bool (by rw [← HF.out] <;> simp <;> omega), ((Below.refl _ _).alloc (Nat.le_refl _) _).alloc (by simp) _⟩
set_option maxHeartbeats 8000000 in
theorem rmay_any (r c : Int) (w : World) : Calls Try.prog 51 #[.agg #[.int .i64 r, .int .i64 c]] w fun e w' => e = .returned (.bool (Bud.may r c)) ∧ Below w.heap.size w w' := by
  by_cases hr : r = 3 ∨ r = 5
  rotate_left
  · have HF : Hid (false = Bud.may r c) := Lib.hid (by
      unfold Bud.may
      symm
      rw [decide_eq_false_iff_not]
      intro h
      exact hr h.1)
    have h3 : (r == 3) = false := by simp; omega
    have h5 : (r == 5) = false := by simp; omega
    clear hr
    go_enter Try.func51, Try.ntmps51
    go_wp2_with fail
    go_ret
    exact ⟨ret_bool (by rw [← HF.out]), (Below.refl _ _).alloc (Nat.le_refl _) _⟩
  have HM : Hid (Bud.may r c = decide (1 ≤ c ∧ c ≤ 4)) := Lib.hid (by
    unfold Bud.may
    congr 1
    apply propext
    exact ⟨fun h => h.2, fun h => ⟨hr, h⟩⟩)
  by_cases h1 : 1 ≤ c
  · by_cases h4 : c ≤ 4
    · rcases hr with rfl | rfl
      all_goals
        go_enter Try.func51, Try.ntmps51
        go_wp2_with fail
        go_ret
        exact ⟨ret_bool (by rw [HM.out]; simp; omega), (Below.refl _ _).alloc (Nat.le_refl _) _⟩
    · have h4' : 4 < c := by omega
      clear h4
      rcases hr with rfl | rfl
      all_goals
        go_enter Try.func51, Try.ntmps51
        go_wp2_with fail
        go_ret
        exact ⟨ret_bool (by rw [HM.out]; simp; omega), (Below.refl _ _).alloc (Nat.le_refl _) _⟩
  · have h1' : c < 1 := by omega
    clear h1
    rcases hr with rfl | rfl
    all_goals
      go_enter Try.func51, Try.ntmps51
      go_wp2_with fail
      go_ret
      exact ⟨ret_bool (by rw [HM.out]; simp; omega), (Below.refl _ _).alloc (Nat.le_refl _) _⟩
end Go.Proofs.Ytecaahcmebdglaa

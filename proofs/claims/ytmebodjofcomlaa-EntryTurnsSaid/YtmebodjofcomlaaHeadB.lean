import Derived.Test.YtmebodjofcomlaaHeadA
namespace Go.Proofs.Ytmebodjofcomlaa
open Go.RowKit
/-- May a header be? -/
def headB (k f o v p c cl se rq a b : Int) : Bool := decide ((0 ≤ k ∧ k ≤ 255) ∧ (0 ≤ f ∧ f ≤ 255) ∧ (0 ≤ o ∧ o ≤ 255) ∧ (0 ≤ v ∧ v ≤ 72057594037927935) ∧ (0 ≤ p ∧ p ≤ 72057594037927935) ∧ (0 ≤ c ∧ c ≤ 72057594037927935) ∧ (0 ≤ cl ∧ cl ≤ 72057594037927935) ∧ (0 ≤ se ∧ se ≤ 72057594037927935) ∧ (0 ≤ rq ∧ rq ≤ 72057594037927935) ∧ (0 ≤ a ∧ a ≤ 72057594037927935) ∧ (0 ≤ b ∧ b ≤ 72057594037927935))
theorem headB_no (k f o v p c cl se rq a b : Int) (h : ¬ ((0 ≤ k ∧ k ≤ 255) ∧ (0 ≤ f ∧ f ≤ 255) ∧ (0 ≤ o ∧ o ≤ 255) ∧ (0 ≤ v ∧ v ≤ 72057594037927935) ∧ (0 ≤ p ∧ p ≤ 72057594037927935) ∧ (0 ≤ c ∧ c ≤ 72057594037927935) ∧ (0 ≤ cl ∧ cl ≤ 72057594037927935) ∧ (0 ≤ se ∧ se ≤ 72057594037927935) ∧ (0 ≤ rq ∧ rq ≤ 72057594037927935) ∧ (0 ≤ a ∧ a ≤ 72057594037927935) ∧ (0 ≤ b ∧ b ≤ 72057594037927935))) : headB k f o v p c cl se rq a b = false := decide_eq_false h
theorem headB_yes (k f o v p c cl se rq a b : Int) (h : (0 ≤ k ∧ k ≤ 255) ∧ (0 ≤ f ∧ f ≤ 255) ∧ (0 ≤ o ∧ o ≤ 255) ∧ (0 ≤ v ∧ v ≤ 72057594037927935) ∧ (0 ≤ p ∧ p ≤ 72057594037927935) ∧ (0 ≤ c ∧ c ≤ 72057594037927935) ∧ (0 ≤ cl ∧ cl ≤ 72057594037927935) ∧ (0 ≤ se ∧ se ≤ 72057594037927935) ∧ (0 ≤ rq ∧ rq ≤ 72057594037927935) ∧ (0 ≤ a ∧ a ≤ 72057594037927935) ∧ (0 ≤ b ∧ b ≤ 72057594037927935)) : headB k f o v p c cl se rq a b = true := decide_eq_true h
set_option maxHeartbeats 8000000 in
theorem right_any (k f o v p c cl se rq a b : Int) (par : Int) (w : World) :
    Calls Try.prog 20 #[.agg #[.int .i64 k, .int .i64 f, .int .i64 o, .int .i64 v, .int .i64 p, .int .i64 c, .int .i64 cl, .int .i64 se, .int .i64 rq, .int .i64 a, .int .i64 b, .int .u64 par]] w fun e w' => e = .returned (.bool (headB k f o v p c cl se rq a b)) ∧ Below w.heap.size w w' := by
  have HNO := Lib.hid (headB_no k f o v p c cl se rq a b)
  have HYES := Lib.hid (headB_yes k f o v p c cl se rq a b)
  go_enter Try.func20, Try.ntmps20
  go_wp2_with fail
  have hb0 : Below w.heap.size w (w.alloc (.cells #[.int .i64 k, .int .i64 f, .int .i64 o, .int .i64 v, .int .i64 p, .int .i64 c, .int .i64 cl, .int .i64 se, .int .i64 rq, .int .i64 a, .int .i64 b, .int .u64 par] 34)) := (Below.refl _ _).alloc (Nat.le_refl _) _
  have hcc := fun i => cell_of_row (w.alloc (.cells #[.int .i64 k, .int .i64 f, .int .i64 o, .int .i64 v, .int .i64 p, .int .i64 c, .int .i64 cl, .int .i64 se, .int .i64 rq, .int .i64 a, .int .i64 b, .int .u64 par] 34)) w.heap.size i _ _ _ (heap_alloc_new w _)
  have hs0 : (w.alloc (.cells #[.int .i64 k, .int .i64 f, .int .i64 o, .int .i64 v, .int .i64 p, .int .i64 c, .int .i64 cl, .int .i64 se, .int .i64 rq, .int .i64 a, .int .i64 b, .int .u64 par] 34)).heap.size = w.heap.size + 1 := by simp
  refine (small_any _ _).mono ?_
  generalize w.alloc (.cells #[.int .i64 k, .int .i64 f, .int .i64 o, .int .i64 v, .int .i64 p, .int .i64 c, .int .i64 cl, .int .i64 se, .int .i64 rq, .int .i64 a, .int .i64 b, .int .u64 par] 34) = w0 at *
  rintro e w1 ⟨rfl, hb1⟩
  rw [hs0] at hb1
  have hb01 := hb0.trans (hb1.mono (by omega))
  have c0 : w1.cell? ⟨w.heap.size, 0, none⟩ = some (.int .i64 k) := (hb1.cell (p := ⟨w.heap.size, 0, none⟩) (by simp)).trans ((hcc 0).trans rfl)
  have c1 : w1.cell? ⟨w.heap.size, 1, none⟩ = some (.int .i64 f) := (hb1.cell (p := ⟨w.heap.size, 1, none⟩) (by simp)).trans ((hcc 1).trans rfl)
  have c2 : w1.cell? ⟨w.heap.size, 2, none⟩ = some (.int .i64 o) := (hb1.cell (p := ⟨w.heap.size, 2, none⟩) (by simp)).trans ((hcc 2).trans rfl)
  have c3 : w1.cell? ⟨w.heap.size, 3, none⟩ = some (.int .i64 v) := (hb1.cell (p := ⟨w.heap.size, 3, none⟩) (by simp)).trans ((hcc 3).trans rfl)
  have c4 : w1.cell? ⟨w.heap.size, 4, none⟩ = some (.int .i64 p) := (hb1.cell (p := ⟨w.heap.size, 4, none⟩) (by simp)).trans ((hcc 4).trans rfl)
  have c5 : w1.cell? ⟨w.heap.size, 5, none⟩ = some (.int .i64 c) := (hb1.cell (p := ⟨w.heap.size, 5, none⟩) (by simp)).trans ((hcc 5).trans rfl)
  have c6 : w1.cell? ⟨w.heap.size, 6, none⟩ = some (.int .i64 cl) := (hb1.cell (p := ⟨w.heap.size, 6, none⟩) (by simp)).trans ((hcc 6).trans rfl)
  have c7 : w1.cell? ⟨w.heap.size, 7, none⟩ = some (.int .i64 se) := (hb1.cell (p := ⟨w.heap.size, 7, none⟩) (by simp)).trans ((hcc 7).trans rfl)
  have c8 : w1.cell? ⟨w.heap.size, 8, none⟩ = some (.int .i64 rq) := (hb1.cell (p := ⟨w.heap.size, 8, none⟩) (by simp)).trans ((hcc 8).trans rfl)
  have c9 : w1.cell? ⟨w.heap.size, 9, none⟩ = some (.int .i64 a) := (hb1.cell (p := ⟨w.heap.size, 9, none⟩) (by simp)).trans ((hcc 9).trans rfl)
  have c10 : w1.cell? ⟨w.heap.size, 10, none⟩ = some (.int .i64 b) := (hb1.cell (p := ⟨w.heap.size, 10, none⟩) (by simp)).trans ((hcc 10).trans rfl)
  have HS0 := Lib.hid hs0
  have HB1 := Lib.hid hb1
  have HCC := Lib.hid hcc
  clear hs0 hcc hb1 hb0
  go_wp2_with fail
  go_loop [8] (fun i => ∃ n : Nat, n ≤ 3 ∧ i = .int .i64 n ∧ Hid ((0 < n → 0 ≤ k ∧ k ≤ 255) ∧ (1 < n → 0 ≤ f ∧ f ≤ 255) ∧ (2 < n → 0 ≤ o ∧ o ≤ 255))) (fun i => 3 - (intOf i).toNat)
  case atStart => exact ⟨0, by omega, rfl, by show (0 < 0 → 0 ≤ k ∧ k ≤ 255) ∧ (1 < 0 → 0 ≤ f ∧ f ≤ 255) ∧ (2 < 0 → 0 ≤ o ∧ o ≤ 255); omega⟩
  case round =>
    obtain ⟨n, hn, rfl, HP⟩ := hrel
    rcases (show n = 0 ∨ n = 1 ∨ n = 2 ∨ n = 3 from by omega) with rfl | rfl | rfl | rfl
    · have ik : ∀ w2, (Instr.index 61 (.agg #[.pointer (some ⟨w.heap.size, 0, none⟩), .pointer (some ⟨w.heap.size, 1, none⟩), .pointer (some ⟨w.heap.size, 2, none⟩)]) (.int .i64 0)).run Try.prog w2 = .ok (.pointer (some ⟨w.heap.size, 0, none⟩)) w2 := fun _ => by kernel_rfl
      by_cases hlo : k < 0
      · have HF := Lib.hid (HNO.out (by omega))
        go_wp2_with fail
        go_ret
        exact ⟨ret_bool HF.out.symm, hb01⟩
      · by_cases hhi : 255 < k
        · have HF := Lib.hid (HNO.out (by omega))
          go_wp2_with fail
          go_ret
          exact ⟨ret_bool HF.out.symm, hb01⟩
        · have HQ : Hid ((0 < 1 → 0 ≤ k ∧ k ≤ 255) ∧ (1 < 1 → 0 ≤ f ∧ f ≤ 255) ∧ (2 < 1 → 0 ≤ o ∧ o ≤ 255)) := by have := HP.out; show (0 < 1 → 0 ≤ k ∧ k ≤ 255) ∧ (1 < 1 → 0 ≤ f ∧ f ≤ 255) ∧ (2 < 1 → 0 ≤ o ∧ o ≤ 255); omega
          go_wp2_with fail
          go_round
          case rel => exact ⟨1, by omega, by go_num, HQ.out⟩
          case measure => simp [intOf]
    · have ik : ∀ w2, (Instr.index 61 (.agg #[.pointer (some ⟨w.heap.size, 0, none⟩), .pointer (some ⟨w.heap.size, 1, none⟩), .pointer (some ⟨w.heap.size, 2, none⟩)]) (.int .i64 1)).run Try.prog w2 = .ok (.pointer (some ⟨w.heap.size, 1, none⟩)) w2 := fun _ => by kernel_rfl
      by_cases hlo : f < 0
      · have HF := Lib.hid (HNO.out (by omega))
        go_wp2_with fail
        go_ret
        exact ⟨ret_bool HF.out.symm, hb01⟩
      · by_cases hhi : 255 < f
        · have HF := Lib.hid (HNO.out (by omega))
          go_wp2_with fail
          go_ret
          exact ⟨ret_bool HF.out.symm, hb01⟩
        · have HQ : Hid ((0 < 2 → 0 ≤ k ∧ k ≤ 255) ∧ (1 < 2 → 0 ≤ f ∧ f ≤ 255) ∧ (2 < 2 → 0 ≤ o ∧ o ≤ 255)) := by have := HP.out; show (0 < 2 → 0 ≤ k ∧ k ≤ 255) ∧ (1 < 2 → 0 ≤ f ∧ f ≤ 255) ∧ (2 < 2 → 0 ≤ o ∧ o ≤ 255); omega
          go_wp2_with fail
          go_round
          case rel => exact ⟨2, by omega, by go_num, HQ.out⟩
          case measure => simp [intOf]
    · have ik : ∀ w2, (Instr.index 61 (.agg #[.pointer (some ⟨w.heap.size, 0, none⟩), .pointer (some ⟨w.heap.size, 1, none⟩), .pointer (some ⟨w.heap.size, 2, none⟩)]) (.int .i64 2)).run Try.prog w2 = .ok (.pointer (some ⟨w.heap.size, 2, none⟩)) w2 := fun _ => by kernel_rfl
      by_cases hlo : o < 0
      · have HF := Lib.hid (HNO.out (by omega))
        go_wp2_with fail
        go_ret
        exact ⟨ret_bool HF.out.symm, hb01⟩
      · by_cases hhi : 255 < o
        · have HF := Lib.hid (HNO.out (by omega))
          go_wp2_with fail
          go_ret
          exact ⟨ret_bool HF.out.symm, hb01⟩
        · have HQ : Hid ((0 < 3 → 0 ≤ k ∧ k ≤ 255) ∧ (1 < 3 → 0 ≤ f ∧ f ≤ 255) ∧ (2 < 3 → 0 ≤ o ∧ o ≤ 255)) := by have := HP.out; show (0 < 3 → 0 ≤ k ∧ k ≤ 255) ∧ (1 < 3 → 0 ≤ f ∧ f ≤ 255) ∧ (2 < 3 → 0 ≤ o ∧ o ≤ 255); omega
          go_wp2_with fail
          go_round
          case rel => exact ⟨3, by omega, by go_num, HQ.out⟩
          case measure => simp [intOf]
    · have HS := Lib.hid HP.out
      clear HP
      go_wp2_with fail
      refine (numbers_any _ _).mono ?_
      rintro e w2 ⟨rfl, hb2⟩
      have hz1 := HB1.out.size
      rw [HS0.out] at hz1
      have d0 : w2.cell? ⟨w.heap.size, 0, none⟩ = some (.int .i64 k) := (hb2.cell (p := ⟨w.heap.size, 0, none⟩) (by show w.heap.size < w1.heap.size; omega)).trans c0
      have d1 : w2.cell? ⟨w.heap.size, 1, none⟩ = some (.int .i64 f) := (hb2.cell (p := ⟨w.heap.size, 1, none⟩) (by show w.heap.size < w1.heap.size; omega)).trans c1
      have d2 : w2.cell? ⟨w.heap.size, 2, none⟩ = some (.int .i64 o) := (hb2.cell (p := ⟨w.heap.size, 2, none⟩) (by show w.heap.size < w1.heap.size; omega)).trans c2
      have d3 : w2.cell? ⟨w.heap.size, 3, none⟩ = some (.int .i64 v) := (hb2.cell (p := ⟨w.heap.size, 3, none⟩) (by show w.heap.size < w1.heap.size; omega)).trans c3
      have d4 : w2.cell? ⟨w.heap.size, 4, none⟩ = some (.int .i64 p) := (hb2.cell (p := ⟨w.heap.size, 4, none⟩) (by show w.heap.size < w1.heap.size; omega)).trans c4
      have d5 : w2.cell? ⟨w.heap.size, 5, none⟩ = some (.int .i64 c) := (hb2.cell (p := ⟨w.heap.size, 5, none⟩) (by show w.heap.size < w1.heap.size; omega)).trans c5
      have d6 : w2.cell? ⟨w.heap.size, 6, none⟩ = some (.int .i64 cl) := (hb2.cell (p := ⟨w.heap.size, 6, none⟩) (by show w.heap.size < w1.heap.size; omega)).trans c6
      have d7 : w2.cell? ⟨w.heap.size, 7, none⟩ = some (.int .i64 se) := (hb2.cell (p := ⟨w.heap.size, 7, none⟩) (by show w.heap.size < w1.heap.size; omega)).trans c7
      have d8 : w2.cell? ⟨w.heap.size, 8, none⟩ = some (.int .i64 rq) := (hb2.cell (p := ⟨w.heap.size, 8, none⟩) (by show w.heap.size < w1.heap.size; omega)).trans c8
      have d9 : w2.cell? ⟨w.heap.size, 9, none⟩ = some (.int .i64 a) := (hb2.cell (p := ⟨w.heap.size, 9, none⟩) (by show w.heap.size < w1.heap.size; omega)).trans c9
      have d10 : w2.cell? ⟨w.heap.size, 10, none⟩ = some (.int .i64 b) := (hb2.cell (p := ⟨w.heap.size, 10, none⟩) (by show w.heap.size < w1.heap.size; omega)).trans c10
      clear c0 c1 c2 c3 c4 c5 c6 c7 c8 c9 c10
      go_wp2_with fail
      go_loop [23] (fun i => ∃ n : Nat, n ≤ 8 ∧ i = .int .i64 n ∧ Hid ((0 < n → 0 ≤ v ∧ v ≤ 72057594037927935) ∧ (1 < n → 0 ≤ p ∧ p ≤ 72057594037927935) ∧ (2 < n → 0 ≤ c ∧ c ≤ 72057594037927935) ∧ (3 < n → 0 ≤ cl ∧ cl ≤ 72057594037927935) ∧ (4 < n → 0 ≤ se ∧ se ≤ 72057594037927935) ∧ (5 < n → 0 ≤ rq ∧ rq ≤ 72057594037927935) ∧ (6 < n → 0 ≤ a ∧ a ≤ 72057594037927935) ∧ (7 < n → 0 ≤ b ∧ b ≤ 72057594037927935))) (fun i => 8 - (intOf i).toNat)
      case atStart => exact ⟨0, by omega, rfl, by show (0 < 0 → 0 ≤ v ∧ v ≤ 72057594037927935) ∧ (1 < 0 → 0 ≤ p ∧ p ≤ 72057594037927935) ∧ (2 < 0 → 0 ≤ c ∧ c ≤ 72057594037927935) ∧ (3 < 0 → 0 ≤ cl ∧ cl ≤ 72057594037927935) ∧ (4 < 0 → 0 ≤ se ∧ se ≤ 72057594037927935) ∧ (5 < 0 → 0 ≤ rq ∧ rq ≤ 72057594037927935) ∧ (6 < 0 → 0 ≤ a ∧ a ≤ 72057594037927935) ∧ (7 < 0 → 0 ≤ b ∧ b ≤ 72057594037927935); omega⟩
      case round =>
        obtain ⟨n, hn, rfl, HP⟩ := hrel
        rcases (show n = 0 ∨ n = 1 ∨ n = 2 ∨ n = 3 ∨ n = 4 ∨ n = 5 ∨ n = 6 ∨ n = 7 ∨ n = 8 from by omega) with rfl | rfl | rfl | rfl | rfl | rfl | rfl | rfl | rfl
        · have ik : ∀ w2, (Instr.index 57 (.agg #[.pointer (some ⟨w.heap.size, 3, none⟩), .pointer (some ⟨w.heap.size, 4, none⟩), .pointer (some ⟨w.heap.size, 5, none⟩), .pointer (some ⟨w.heap.size, 6, none⟩), .pointer (some ⟨w.heap.size, 7, none⟩), .pointer (some ⟨w.heap.size, 8, none⟩), .pointer (some ⟨w.heap.size, 9, none⟩), .pointer (some ⟨w.heap.size, 10, none⟩)]) (.int .i64 0)).run Try.prog w2 = .ok (.pointer (some ⟨w.heap.size, 3, none⟩)) w2 := fun _ => by kernel_rfl
          by_cases hlo : v < 0
          · have HF := Lib.hid (HNO.out (by omega))
            go_wp2_with fail
            go_ret
            exact ⟨ret_bool HF.out.symm, hb01.trans (hb2.mono hb01.size)⟩
          · by_cases hhi : 72057594037927935 < v
            · have HF := Lib.hid (HNO.out (by omega))
              go_wp2_with fail
              go_ret
              exact ⟨ret_bool HF.out.symm, hb01.trans (hb2.mono hb01.size)⟩
            · have HQ : Hid ((0 < 1 → 0 ≤ v ∧ v ≤ 72057594037927935) ∧ (1 < 1 → 0 ≤ p ∧ p ≤ 72057594037927935) ∧ (2 < 1 → 0 ≤ c ∧ c ≤ 72057594037927935) ∧ (3 < 1 → 0 ≤ cl ∧ cl ≤ 72057594037927935) ∧ (4 < 1 → 0 ≤ se ∧ se ≤ 72057594037927935) ∧ (5 < 1 → 0 ≤ rq ∧ rq ≤ 72057594037927935) ∧ (6 < 1 → 0 ≤ a ∧ a ≤ 72057594037927935) ∧ (7 < 1 → 0 ≤ b ∧ b ≤ 72057594037927935)) := by have := HP.out; show (0 < 1 → 0 ≤ v ∧ v ≤ 72057594037927935) ∧ (1 < 1 → 0 ≤ p ∧ p ≤ 72057594037927935) ∧ (2 < 1 → 0 ≤ c ∧ c ≤ 72057594037927935) ∧ (3 < 1 → 0 ≤ cl ∧ cl ≤ 72057594037927935) ∧ (4 < 1 → 0 ≤ se ∧ se ≤ 72057594037927935) ∧ (5 < 1 → 0 ≤ rq ∧ rq ≤ 72057594037927935) ∧ (6 < 1 → 0 ≤ a ∧ a ≤ 72057594037927935) ∧ (7 < 1 → 0 ≤ b ∧ b ≤ 72057594037927935); omega
              go_wp2_with fail
              go_round
              case rel => exact ⟨1, by omega, by go_num, HQ.out⟩
              case measure => simp [intOf]
        · have ik : ∀ w2, (Instr.index 57 (.agg #[.pointer (some ⟨w.heap.size, 3, none⟩), .pointer (some ⟨w.heap.size, 4, none⟩), .pointer (some ⟨w.heap.size, 5, none⟩), .pointer (some ⟨w.heap.size, 6, none⟩), .pointer (some ⟨w.heap.size, 7, none⟩), .pointer (some ⟨w.heap.size, 8, none⟩), .pointer (some ⟨w.heap.size, 9, none⟩), .pointer (some ⟨w.heap.size, 10, none⟩)]) (.int .i64 1)).run Try.prog w2 = .ok (.pointer (some ⟨w.heap.size, 4, none⟩)) w2 := fun _ => by kernel_rfl
          by_cases hlo : p < 0
          · have HF := Lib.hid (HNO.out (by omega))
            go_wp2_with fail
            go_ret
            exact ⟨ret_bool HF.out.symm, hb01.trans (hb2.mono hb01.size)⟩
          · by_cases hhi : 72057594037927935 < p
            · have HF := Lib.hid (HNO.out (by omega))
              go_wp2_with fail
              go_ret
              exact ⟨ret_bool HF.out.symm, hb01.trans (hb2.mono hb01.size)⟩
            · have HQ : Hid ((0 < 2 → 0 ≤ v ∧ v ≤ 72057594037927935) ∧ (1 < 2 → 0 ≤ p ∧ p ≤ 72057594037927935) ∧ (2 < 2 → 0 ≤ c ∧ c ≤ 72057594037927935) ∧ (3 < 2 → 0 ≤ cl ∧ cl ≤ 72057594037927935) ∧ (4 < 2 → 0 ≤ se ∧ se ≤ 72057594037927935) ∧ (5 < 2 → 0 ≤ rq ∧ rq ≤ 72057594037927935) ∧ (6 < 2 → 0 ≤ a ∧ a ≤ 72057594037927935) ∧ (7 < 2 → 0 ≤ b ∧ b ≤ 72057594037927935)) := by have := HP.out; show (0 < 2 → 0 ≤ v ∧ v ≤ 72057594037927935) ∧ (1 < 2 → 0 ≤ p ∧ p ≤ 72057594037927935) ∧ (2 < 2 → 0 ≤ c ∧ c ≤ 72057594037927935) ∧ (3 < 2 → 0 ≤ cl ∧ cl ≤ 72057594037927935) ∧ (4 < 2 → 0 ≤ se ∧ se ≤ 72057594037927935) ∧ (5 < 2 → 0 ≤ rq ∧ rq ≤ 72057594037927935) ∧ (6 < 2 → 0 ≤ a ∧ a ≤ 72057594037927935) ∧ (7 < 2 → 0 ≤ b ∧ b ≤ 72057594037927935); omega
              go_wp2_with fail
              go_round
              case rel => exact ⟨2, by omega, by go_num, HQ.out⟩
              case measure => simp [intOf]
        · have ik : ∀ w2, (Instr.index 57 (.agg #[.pointer (some ⟨w.heap.size, 3, none⟩), .pointer (some ⟨w.heap.size, 4, none⟩), .pointer (some ⟨w.heap.size, 5, none⟩), .pointer (some ⟨w.heap.size, 6, none⟩), .pointer (some ⟨w.heap.size, 7, none⟩), .pointer (some ⟨w.heap.size, 8, none⟩), .pointer (some ⟨w.heap.size, 9, none⟩), .pointer (some ⟨w.heap.size, 10, none⟩)]) (.int .i64 2)).run Try.prog w2 = .ok (.pointer (some ⟨w.heap.size, 5, none⟩)) w2 := fun _ => by kernel_rfl
          by_cases hlo : c < 0
          · have HF := Lib.hid (HNO.out (by omega))
            go_wp2_with fail
            go_ret
            exact ⟨ret_bool HF.out.symm, hb01.trans (hb2.mono hb01.size)⟩
          · by_cases hhi : 72057594037927935 < c
            · have HF := Lib.hid (HNO.out (by omega))
              go_wp2_with fail
              go_ret
              exact ⟨ret_bool HF.out.symm, hb01.trans (hb2.mono hb01.size)⟩
            · have HQ : Hid ((0 < 3 → 0 ≤ v ∧ v ≤ 72057594037927935) ∧ (1 < 3 → 0 ≤ p ∧ p ≤ 72057594037927935) ∧ (2 < 3 → 0 ≤ c ∧ c ≤ 72057594037927935) ∧ (3 < 3 → 0 ≤ cl ∧ cl ≤ 72057594037927935) ∧ (4 < 3 → 0 ≤ se ∧ se ≤ 72057594037927935) ∧ (5 < 3 → 0 ≤ rq ∧ rq ≤ 72057594037927935) ∧ (6 < 3 → 0 ≤ a ∧ a ≤ 72057594037927935) ∧ (7 < 3 → 0 ≤ b ∧ b ≤ 72057594037927935)) := by have := HP.out; show (0 < 3 → 0 ≤ v ∧ v ≤ 72057594037927935) ∧ (1 < 3 → 0 ≤ p ∧ p ≤ 72057594037927935) ∧ (2 < 3 → 0 ≤ c ∧ c ≤ 72057594037927935) ∧ (3 < 3 → 0 ≤ cl ∧ cl ≤ 72057594037927935) ∧ (4 < 3 → 0 ≤ se ∧ se ≤ 72057594037927935) ∧ (5 < 3 → 0 ≤ rq ∧ rq ≤ 72057594037927935) ∧ (6 < 3 → 0 ≤ a ∧ a ≤ 72057594037927935) ∧ (7 < 3 → 0 ≤ b ∧ b ≤ 72057594037927935); omega
              go_wp2_with fail
              go_round
              case rel => exact ⟨3, by omega, by go_num, HQ.out⟩
              case measure => simp [intOf]
        · have ik : ∀ w2, (Instr.index 57 (.agg #[.pointer (some ⟨w.heap.size, 3, none⟩), .pointer (some ⟨w.heap.size, 4, none⟩), .pointer (some ⟨w.heap.size, 5, none⟩), .pointer (some ⟨w.heap.size, 6, none⟩), .pointer (some ⟨w.heap.size, 7, none⟩), .pointer (some ⟨w.heap.size, 8, none⟩), .pointer (some ⟨w.heap.size, 9, none⟩), .pointer (some ⟨w.heap.size, 10, none⟩)]) (.int .i64 3)).run Try.prog w2 = .ok (.pointer (some ⟨w.heap.size, 6, none⟩)) w2 := fun _ => by kernel_rfl
          by_cases hlo : cl < 0
          · have HF := Lib.hid (HNO.out (by omega))
            go_wp2_with fail
            go_ret
            exact ⟨ret_bool HF.out.symm, hb01.trans (hb2.mono hb01.size)⟩
          · by_cases hhi : 72057594037927935 < cl
            · have HF := Lib.hid (HNO.out (by omega))
              go_wp2_with fail
              go_ret
              exact ⟨ret_bool HF.out.symm, hb01.trans (hb2.mono hb01.size)⟩
            · have HQ : Hid ((0 < 4 → 0 ≤ v ∧ v ≤ 72057594037927935) ∧ (1 < 4 → 0 ≤ p ∧ p ≤ 72057594037927935) ∧ (2 < 4 → 0 ≤ c ∧ c ≤ 72057594037927935) ∧ (3 < 4 → 0 ≤ cl ∧ cl ≤ 72057594037927935) ∧ (4 < 4 → 0 ≤ se ∧ se ≤ 72057594037927935) ∧ (5 < 4 → 0 ≤ rq ∧ rq ≤ 72057594037927935) ∧ (6 < 4 → 0 ≤ a ∧ a ≤ 72057594037927935) ∧ (7 < 4 → 0 ≤ b ∧ b ≤ 72057594037927935)) := by have := HP.out; show (0 < 4 → 0 ≤ v ∧ v ≤ 72057594037927935) ∧ (1 < 4 → 0 ≤ p ∧ p ≤ 72057594037927935) ∧ (2 < 4 → 0 ≤ c ∧ c ≤ 72057594037927935) ∧ (3 < 4 → 0 ≤ cl ∧ cl ≤ 72057594037927935) ∧ (4 < 4 → 0 ≤ se ∧ se ≤ 72057594037927935) ∧ (5 < 4 → 0 ≤ rq ∧ rq ≤ 72057594037927935) ∧ (6 < 4 → 0 ≤ a ∧ a ≤ 72057594037927935) ∧ (7 < 4 → 0 ≤ b ∧ b ≤ 72057594037927935); omega
              go_wp2_with fail
              go_round
              case rel => exact ⟨4, by omega, by go_num, HQ.out⟩
              case measure => simp [intOf]
        · have ik : ∀ w2, (Instr.index 57 (.agg #[.pointer (some ⟨w.heap.size, 3, none⟩), .pointer (some ⟨w.heap.size, 4, none⟩), .pointer (some ⟨w.heap.size, 5, none⟩), .pointer (some ⟨w.heap.size, 6, none⟩), .pointer (some ⟨w.heap.size, 7, none⟩), .pointer (some ⟨w.heap.size, 8, none⟩), .pointer (some ⟨w.heap.size, 9, none⟩), .pointer (some ⟨w.heap.size, 10, none⟩)]) (.int .i64 4)).run Try.prog w2 = .ok (.pointer (some ⟨w.heap.size, 7, none⟩)) w2 := fun _ => by kernel_rfl
          by_cases hlo : se < 0
          · have HF := Lib.hid (HNO.out (by omega))
            go_wp2_with fail
            go_ret
            exact ⟨ret_bool HF.out.symm, hb01.trans (hb2.mono hb01.size)⟩
          · by_cases hhi : 72057594037927935 < se
            · have HF := Lib.hid (HNO.out (by omega))
              go_wp2_with fail
              go_ret
              exact ⟨ret_bool HF.out.symm, hb01.trans (hb2.mono hb01.size)⟩
            · have HQ : Hid ((0 < 5 → 0 ≤ v ∧ v ≤ 72057594037927935) ∧ (1 < 5 → 0 ≤ p ∧ p ≤ 72057594037927935) ∧ (2 < 5 → 0 ≤ c ∧ c ≤ 72057594037927935) ∧ (3 < 5 → 0 ≤ cl ∧ cl ≤ 72057594037927935) ∧ (4 < 5 → 0 ≤ se ∧ se ≤ 72057594037927935) ∧ (5 < 5 → 0 ≤ rq ∧ rq ≤ 72057594037927935) ∧ (6 < 5 → 0 ≤ a ∧ a ≤ 72057594037927935) ∧ (7 < 5 → 0 ≤ b ∧ b ≤ 72057594037927935)) := by have := HP.out; show (0 < 5 → 0 ≤ v ∧ v ≤ 72057594037927935) ∧ (1 < 5 → 0 ≤ p ∧ p ≤ 72057594037927935) ∧ (2 < 5 → 0 ≤ c ∧ c ≤ 72057594037927935) ∧ (3 < 5 → 0 ≤ cl ∧ cl ≤ 72057594037927935) ∧ (4 < 5 → 0 ≤ se ∧ se ≤ 72057594037927935) ∧ (5 < 5 → 0 ≤ rq ∧ rq ≤ 72057594037927935) ∧ (6 < 5 → 0 ≤ a ∧ a ≤ 72057594037927935) ∧ (7 < 5 → 0 ≤ b ∧ b ≤ 72057594037927935); omega
              go_wp2_with fail
              go_round
              case rel => exact ⟨5, by omega, by go_num, HQ.out⟩
              case measure => simp [intOf]
        · have ik : ∀ w2, (Instr.index 57 (.agg #[.pointer (some ⟨w.heap.size, 3, none⟩), .pointer (some ⟨w.heap.size, 4, none⟩), .pointer (some ⟨w.heap.size, 5, none⟩), .pointer (some ⟨w.heap.size, 6, none⟩), .pointer (some ⟨w.heap.size, 7, none⟩), .pointer (some ⟨w.heap.size, 8, none⟩), .pointer (some ⟨w.heap.size, 9, none⟩), .pointer (some ⟨w.heap.size, 10, none⟩)]) (.int .i64 5)).run Try.prog w2 = .ok (.pointer (some ⟨w.heap.size, 8, none⟩)) w2 := fun _ => by kernel_rfl
          by_cases hlo : rq < 0
          · have HF := Lib.hid (HNO.out (by omega))
            go_wp2_with fail
            go_ret
            exact ⟨ret_bool HF.out.symm, hb01.trans (hb2.mono hb01.size)⟩
          · by_cases hhi : 72057594037927935 < rq
            · have HF := Lib.hid (HNO.out (by omega))
              go_wp2_with fail
              go_ret
              exact ⟨ret_bool HF.out.symm, hb01.trans (hb2.mono hb01.size)⟩
            · have HQ : Hid ((0 < 6 → 0 ≤ v ∧ v ≤ 72057594037927935) ∧ (1 < 6 → 0 ≤ p ∧ p ≤ 72057594037927935) ∧ (2 < 6 → 0 ≤ c ∧ c ≤ 72057594037927935) ∧ (3 < 6 → 0 ≤ cl ∧ cl ≤ 72057594037927935) ∧ (4 < 6 → 0 ≤ se ∧ se ≤ 72057594037927935) ∧ (5 < 6 → 0 ≤ rq ∧ rq ≤ 72057594037927935) ∧ (6 < 6 → 0 ≤ a ∧ a ≤ 72057594037927935) ∧ (7 < 6 → 0 ≤ b ∧ b ≤ 72057594037927935)) := by have := HP.out; show (0 < 6 → 0 ≤ v ∧ v ≤ 72057594037927935) ∧ (1 < 6 → 0 ≤ p ∧ p ≤ 72057594037927935) ∧ (2 < 6 → 0 ≤ c ∧ c ≤ 72057594037927935) ∧ (3 < 6 → 0 ≤ cl ∧ cl ≤ 72057594037927935) ∧ (4 < 6 → 0 ≤ se ∧ se ≤ 72057594037927935) ∧ (5 < 6 → 0 ≤ rq ∧ rq ≤ 72057594037927935) ∧ (6 < 6 → 0 ≤ a ∧ a ≤ 72057594037927935) ∧ (7 < 6 → 0 ≤ b ∧ b ≤ 72057594037927935); omega
              go_wp2_with fail
              go_round
              case rel => exact ⟨6, by omega, by go_num, HQ.out⟩
              case measure => simp [intOf]
        · have ik : ∀ w2, (Instr.index 57 (.agg #[.pointer (some ⟨w.heap.size, 3, none⟩), .pointer (some ⟨w.heap.size, 4, none⟩), .pointer (some ⟨w.heap.size, 5, none⟩), .pointer (some ⟨w.heap.size, 6, none⟩), .pointer (some ⟨w.heap.size, 7, none⟩), .pointer (some ⟨w.heap.size, 8, none⟩), .pointer (some ⟨w.heap.size, 9, none⟩), .pointer (some ⟨w.heap.size, 10, none⟩)]) (.int .i64 6)).run Try.prog w2 = .ok (.pointer (some ⟨w.heap.size, 9, none⟩)) w2 := fun _ => by kernel_rfl
          by_cases hlo : a < 0
          · have HF := Lib.hid (HNO.out (by omega))
            go_wp2_with fail
            go_ret
            exact ⟨ret_bool HF.out.symm, hb01.trans (hb2.mono hb01.size)⟩
          · by_cases hhi : 72057594037927935 < a
            · have HF := Lib.hid (HNO.out (by omega))
              go_wp2_with fail
              go_ret
              exact ⟨ret_bool HF.out.symm, hb01.trans (hb2.mono hb01.size)⟩
            · have HQ : Hid ((0 < 7 → 0 ≤ v ∧ v ≤ 72057594037927935) ∧ (1 < 7 → 0 ≤ p ∧ p ≤ 72057594037927935) ∧ (2 < 7 → 0 ≤ c ∧ c ≤ 72057594037927935) ∧ (3 < 7 → 0 ≤ cl ∧ cl ≤ 72057594037927935) ∧ (4 < 7 → 0 ≤ se ∧ se ≤ 72057594037927935) ∧ (5 < 7 → 0 ≤ rq ∧ rq ≤ 72057594037927935) ∧ (6 < 7 → 0 ≤ a ∧ a ≤ 72057594037927935) ∧ (7 < 7 → 0 ≤ b ∧ b ≤ 72057594037927935)) := by have := HP.out; show (0 < 7 → 0 ≤ v ∧ v ≤ 72057594037927935) ∧ (1 < 7 → 0 ≤ p ∧ p ≤ 72057594037927935) ∧ (2 < 7 → 0 ≤ c ∧ c ≤ 72057594037927935) ∧ (3 < 7 → 0 ≤ cl ∧ cl ≤ 72057594037927935) ∧ (4 < 7 → 0 ≤ se ∧ se ≤ 72057594037927935) ∧ (5 < 7 → 0 ≤ rq ∧ rq ≤ 72057594037927935) ∧ (6 < 7 → 0 ≤ a ∧ a ≤ 72057594037927935) ∧ (7 < 7 → 0 ≤ b ∧ b ≤ 72057594037927935); omega
              go_wp2_with fail
              go_round
              case rel => exact ⟨7, by omega, by go_num, HQ.out⟩
              case measure => simp [intOf]
        · have ik : ∀ w2, (Instr.index 57 (.agg #[.pointer (some ⟨w.heap.size, 3, none⟩), .pointer (some ⟨w.heap.size, 4, none⟩), .pointer (some ⟨w.heap.size, 5, none⟩), .pointer (some ⟨w.heap.size, 6, none⟩), .pointer (some ⟨w.heap.size, 7, none⟩), .pointer (some ⟨w.heap.size, 8, none⟩), .pointer (some ⟨w.heap.size, 9, none⟩), .pointer (some ⟨w.heap.size, 10, none⟩)]) (.int .i64 7)).run Try.prog w2 = .ok (.pointer (some ⟨w.heap.size, 10, none⟩)) w2 := fun _ => by kernel_rfl
          by_cases hlo : b < 0
          · have HF := Lib.hid (HNO.out (by omega))
            go_wp2_with fail
            go_ret
            exact ⟨ret_bool HF.out.symm, hb01.trans (hb2.mono hb01.size)⟩
          · by_cases hhi : 72057594037927935 < b
            · have HF := Lib.hid (HNO.out (by omega))
              go_wp2_with fail
              go_ret
              exact ⟨ret_bool HF.out.symm, hb01.trans (hb2.mono hb01.size)⟩
            · have HQ : Hid ((0 < 8 → 0 ≤ v ∧ v ≤ 72057594037927935) ∧ (1 < 8 → 0 ≤ p ∧ p ≤ 72057594037927935) ∧ (2 < 8 → 0 ≤ c ∧ c ≤ 72057594037927935) ∧ (3 < 8 → 0 ≤ cl ∧ cl ≤ 72057594037927935) ∧ (4 < 8 → 0 ≤ se ∧ se ≤ 72057594037927935) ∧ (5 < 8 → 0 ≤ rq ∧ rq ≤ 72057594037927935) ∧ (6 < 8 → 0 ≤ a ∧ a ≤ 72057594037927935) ∧ (7 < 8 → 0 ≤ b ∧ b ≤ 72057594037927935)) := by have := HP.out; show (0 < 8 → 0 ≤ v ∧ v ≤ 72057594037927935) ∧ (1 < 8 → 0 ≤ p ∧ p ≤ 72057594037927935) ∧ (2 < 8 → 0 ≤ c ∧ c ≤ 72057594037927935) ∧ (3 < 8 → 0 ≤ cl ∧ cl ≤ 72057594037927935) ∧ (4 < 8 → 0 ≤ se ∧ se ≤ 72057594037927935) ∧ (5 < 8 → 0 ≤ rq ∧ rq ≤ 72057594037927935) ∧ (6 < 8 → 0 ≤ a ∧ a ≤ 72057594037927935) ∧ (7 < 8 → 0 ≤ b ∧ b ≤ 72057594037927935); omega
              go_wp2_with fail
              go_round
              case rel => exact ⟨8, by omega, by go_num, HQ.out⟩
              case measure => simp [intOf]
        · have HF := Lib.hid (HYES.out (by have h1 := HS.out; have h2 := HP.out; omega))
          go_wp2_with fail
          go_ret
          exact ⟨ret_bool HF.out.symm, hb01.trans (hb2.mono hb01.size)⟩
end Go.Proofs.Ytmebodjofcomlaa

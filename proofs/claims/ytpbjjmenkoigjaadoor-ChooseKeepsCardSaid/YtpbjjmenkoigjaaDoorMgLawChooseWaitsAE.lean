/- Right of the reference, of a log: what it asks, and where it says no at once. -/
import Derived.Test.YtpbjjmenkoigjaaDoorMgLawChooseWaitsAC
import Derived.Test.YtpbjjmenkoigjaaDoorMgLawChooseWaitsAD
namespace Go.Proofs.YtpbjjmenkoigjaaDoor
open Go.RowKit
set_option linter.unusedVariables false
def rightP (m : Mst) : Prop := (0 ≤ m.f ∧ m.f ≤ 255) ∧ sameP m ∧ (0 ≤ m.v ∧ m.v ≤ 72057594037927935) ∧ (0 ≤ m.lv ∧ m.lv ≤ 72057594037927935) ∧ (0 ≤ m.cm ∧ m.cm ≤ 72057594037927935) ∧ (0 ≤ m.co ∧ m.co ≤ 72057594037927935) ∧ (0 ≤ m.cv ∧ m.cv ≤ 72057594037927935) ∧ m.is.length = 8 ∧ m.is.all itemB = true
theorem rightB_iff (m : Mst) (hk : m.k = 7) : rightB m = true ↔ rightP m := by
  unfold rightB rightP sameP emptyB listsB
  simp only [Bool.and_eq_true, decide_eq_true_iff, okN_iff, Bool.or_eq_true]
  unfold emptyP
  constructor
  · rintro ⟨h1, h2, h3, h4, h5, h6, h7, h8, h9, ⟨hn, _, hs, he, hel, _, hb⟩, hl1, hl2, hl3, hl4⟩
    have n2 := hn 2 (by omega)
    have n4 := hn 4 (by omega)
    have n5 := hn 5 (by omega)
    have n6 := hn 6 (by omega)
    have n7 := hn 7 (by omega)
    have n8 := hn 8 (by omega)
    have n9 := hn 9 (by omega)
    exact ⟨⟨h1, h2⟩, ⟨hel, n2, n4, n5, n6, n7, n8, n9, hs, he, hb⟩, h7, h8, h9, h4, h5, by rcases hl4 with q | q; exact absurd hk q; exact q, hl2⟩
  · rintro ⟨⟨h1, h2⟩, ⟨hel, n2, n4, n5, n6, n7, n8, n9, hs, he, hb⟩, h7, h8, h9, h4, h5, hl, hi⟩
    refine ⟨h1, h2, by omega, h4, h5, by rw [hb]; exact Nat.zero_le _, h7, h8, h9, ⟨fun j hj => ?_, ⟨rfl, rfl, rfl⟩, hs, he, hel, rfl, hb⟩, by rw [List.eq_nil_of_length_eq_zero hel]; rfl, hi, by omega, .inr hl⟩
    match j, hj with
    | 0, _ => rfl
    | 1, _ => rfl
    | 2, _ => exact n2
    | 3, _ => rfl
    | 4, _ => exact n4
    | 5, _ => exact n5
    | 6, _ => exact n6
    | 7, _ => exact n7
    | 8, _ => exact n8
    | 9, _ => exact n9
theorem rightB_no (m : Mst) (hk : m.k = 7) (h : ¬ rightP m) : rightB m = false := by
  cases hR : rightB m
  · rfl
  · exact absurd ((rightB_iff m hk).1 hR) h
set_option maxRecDepth 100000 in
set_option maxHeartbeats 20000000 in
theorem r17_f0 (m : Mst) (w : World) (hk : m.k = 7) (hf : m.f < 0) (HV : Hid (rightB m = false)) : Calls Tryd.prog 32 #[.agg m.row] w fun e w' => e = .returned (.bool (rightB m)) ∧ Below w.heap.size w w' := by
  have H0 : Hid (Below w.heap.size w (w.alloc (.cells m.row 45)) ∧ Blk (w.alloc (.cells m.row 45)) w.heap.size m.row) := Lib.hid ⟨(Below.refl _ _).alloc (Nat.le_refl _) _, Blk.new _ _ _ _ rfl⟩
  have HK := Lib.hid hk
  clear hk
  go_enter Tryd.func32, Tryd.ntmps32
  go_wp2_with fail
  refine wp_region_noPanic ?_
  refine wp_region_held_drew (S := fun W => Below w.heap.size w W ∧ Blk W w.heap.size m.row) (by kernel_rfl) (show Below w.heap.size w (w.alloc (.cells m.row 45)).drew ∧ Blk (w.alloc (.cells m.row 45)).drew w.heap.size m.row from ⟨H0.out.1.trans ⟨rfl, rfl, rfl, Nat.le_refl _, fun _ _ => rfl⟩, H0.out.2.later ⟨rfl, rfl, rfl, Nat.le_refl _, fun _ _ => rfl⟩⟩) (fun hHeld => ?_)
  generalize (w.alloc (.cells m.row 45)).drew = w2 at *
  refine wpAnyH_take (i := 0) (oi := { dst := some 5, op := _, type := _, pos := _, after := _, guard := _ }) (v := ?_) rfl (by kernel_rfl) (by kernel_rfl) (by kernel_rfl) (fun _ _ _ h => h) (Or.inl ⟨by rfl, ?_⟩) hHeld ?_
  rotate_left
  · intro W hSw
    have d0 : W.cell? ⟨w.heap.size, 0, none⟩ = some (.int .i64 7) := by rw [← HK.out]; exact (hSw.2.2 0 _ rfl).1
    have d1 : W.cell? ⟨w.heap.size, 1, none⟩ = some (.int .i64 m.f) := (hSw.2.2 1 _ rfl).1
    have d9 : W.cell? ⟨w.heap.size, 9, none⟩ = some (.int .i64 m.pn) := (hSw.2.2 9 _ rfl).1
    go_simp
    first | done | rfl
  try simp only [Act.put, List.setIfInBounds_toArray, List.set_cons_zero, List.set_cons_succ]
  refine wpAnyH_take (i := 1) (oi := { dst := some 6, op := _, type := _, pos := _, after := _, guard := _ }) (v := ?_) rfl (by kernel_rfl) (by kernel_rfl) (by kernel_rfl) (fun _ _ _ h => h) (Or.inl ⟨by rfl, ?_⟩) hHeld ?_
  rotate_left
  · intro W hSw
    have d0 : W.cell? ⟨w.heap.size, 0, none⟩ = some (.int .i64 7) := by rw [← HK.out]; exact (hSw.2.2 0 _ rfl).1
    have d1 : W.cell? ⟨w.heap.size, 1, none⟩ = some (.int .i64 m.f) := (hSw.2.2 1 _ rfl).1
    have d9 : W.cell? ⟨w.heap.size, 9, none⟩ = some (.int .i64 m.pn) := (hSw.2.2 9 _ rfl).1
    go_simp
    first | done | rfl
  try simp only [Act.put, List.setIfInBounds_toArray, List.set_cons_zero, List.set_cons_succ]
  refine wpAnyH_take (i := 2) (oi := { dst := some 7, op := _, type := _, pos := _, after := _, guard := _ }) (v := ?_) rfl (by kernel_rfl) (by kernel_rfl) (by kernel_rfl) (fun _ _ _ h => h) (Or.inl ⟨by rfl, ?_⟩) hHeld ?_
  rotate_left
  · intro W hSw
    have d0 : W.cell? ⟨w.heap.size, 0, none⟩ = some (.int .i64 7) := by rw [← HK.out]; exact (hSw.2.2 0 _ rfl).1
    have d1 : W.cell? ⟨w.heap.size, 1, none⟩ = some (.int .i64 m.f) := (hSw.2.2 1 _ rfl).1
    have d9 : W.cell? ⟨w.heap.size, 9, none⟩ = some (.int .i64 m.pn) := (hSw.2.2 9 _ rfl).1
    go_simp
    first | done | rfl
  try simp only [Act.put, List.setIfInBounds_toArray, List.set_cons_zero, List.set_cons_succ]
  refine wpAnyH_take (i := 3) (oi := { dst := some 8, op := _, type := _, pos := _, after := _, guard := _ }) (v := ?_) rfl (by kernel_rfl) (by kernel_rfl) (by kernel_rfl) (fun _ _ _ h => h) (Or.inl ⟨by rfl, ?_⟩) hHeld ?_
  rotate_left
  · intro W hSw
    have d0 : W.cell? ⟨w.heap.size, 0, none⟩ = some (.int .i64 7) := by rw [← HK.out]; exact (hSw.2.2 0 _ rfl).1
    have d1 : W.cell? ⟨w.heap.size, 1, none⟩ = some (.int .i64 m.f) := (hSw.2.2 1 _ rfl).1
    have d9 : W.cell? ⟨w.heap.size, 9, none⟩ = some (.int .i64 m.pn) := (hSw.2.2 9 _ rfl).1
    go_simp
    first | done | rfl
  try simp only [Act.put, List.setIfInBounds_toArray, List.set_cons_zero, List.set_cons_succ]
  refine wpAnyH_take (i := 4) (oi := { dst := some 9, op := _, type := _, pos := _, after := _, guard := _ }) (v := ?_) rfl (by kernel_rfl) (by kernel_rfl) (by kernel_rfl) (fun _ _ _ h => h) (Or.inl ⟨by rfl, ?_⟩) hHeld ?_
  rotate_left
  · intro W hSw
    have d0 : W.cell? ⟨w.heap.size, 0, none⟩ = some (.int .i64 7) := by rw [← HK.out]; exact (hSw.2.2 0 _ rfl).1
    have d1 : W.cell? ⟨w.heap.size, 1, none⟩ = some (.int .i64 m.f) := (hSw.2.2 1 _ rfl).1
    have d9 : W.cell? ⟨w.heap.size, 9, none⟩ = some (.int .i64 m.pn) := (hSw.2.2 9 _ rfl).1
    go_simp
    first | done | rfl
  try simp only [Act.put, List.setIfInBounds_toArray, List.set_cons_zero, List.set_cons_succ]
  refine wpAnyH_take (i := 5) (oi := { dst := some 10, op := _, type := _, pos := _, after := _, guard := _ }) (v := ?_) rfl (by kernel_rfl) (by kernel_rfl) (by kernel_rfl) (fun _ _ _ h => h) (Or.inl ⟨by rfl, ?_⟩) hHeld ?_
  rotate_left
  · intro W hSw
    have d0 : W.cell? ⟨w.heap.size, 0, none⟩ = some (.int .i64 7) := by rw [← HK.out]; exact (hSw.2.2 0 _ rfl).1
    have d1 : W.cell? ⟨w.heap.size, 1, none⟩ = some (.int .i64 m.f) := (hSw.2.2 1 _ rfl).1
    have d9 : W.cell? ⟨w.heap.size, 9, none⟩ = some (.int .i64 m.pn) := (hSw.2.2 9 _ rfl).1
    go_simp
    first | done | rfl
  try simp only [Act.put, List.setIfInBounds_toArray, List.set_cons_zero, List.set_cons_succ]
  refine wpAnyH_take (i := 6) (oi := { dst := some 11, op := _, type := _, pos := _, after := _, guard := _ }) (v := ?_) rfl (by kernel_rfl) (by kernel_rfl) (by kernel_rfl) (fun _ _ _ h => h) (Or.inl ⟨by rfl, ?_⟩) hHeld ?_
  rotate_left
  · intro W hSw
    have d0 : W.cell? ⟨w.heap.size, 0, none⟩ = some (.int .i64 7) := by rw [← HK.out]; exact (hSw.2.2 0 _ rfl).1
    have d1 : W.cell? ⟨w.heap.size, 1, none⟩ = some (.int .i64 m.f) := (hSw.2.2 1 _ rfl).1
    have d9 : W.cell? ⟨w.heap.size, 9, none⟩ = some (.int .i64 m.pn) := (hSw.2.2 9 _ rfl).1
    go_simp
    first | done | rfl
  try simp only [Act.put, List.setIfInBounds_toArray, List.set_cons_zero, List.set_cons_succ]
  refine wpAnyH_take (i := 7) (oi := { dst := some 12, op := _, type := _, pos := _, after := _, guard := _ }) (v := ?_) rfl (by kernel_rfl) (by kernel_rfl) (by kernel_rfl) (fun _ _ _ h => h) (Or.inl ⟨by rfl, ?_⟩) hHeld ?_
  rotate_left
  · intro W hSw
    have d0 : W.cell? ⟨w.heap.size, 0, none⟩ = some (.int .i64 7) := by rw [← HK.out]; exact (hSw.2.2 0 _ rfl).1
    have d1 : W.cell? ⟨w.heap.size, 1, none⟩ = some (.int .i64 m.f) := (hSw.2.2 1 _ rfl).1
    have d9 : W.cell? ⟨w.heap.size, 9, none⟩ = some (.int .i64 m.pn) := (hSw.2.2 9 _ rfl).1
    go_simp
    first | done | rfl
  try simp only [Act.put, List.setIfInBounds_toArray, List.set_cons_zero, List.set_cons_succ]
  refine wpAnyH_take (i := 8) (oi := { dst := some 13, op := _, type := _, pos := _, after := _, guard := _ }) (v := ?_) rfl (by kernel_rfl) (by kernel_rfl) (by kernel_rfl) (fun _ _ _ h => h) (Or.inl ⟨by rfl, ?_⟩) hHeld ?_
  rotate_left
  · intro W hSw
    have d0 : W.cell? ⟨w.heap.size, 0, none⟩ = some (.int .i64 7) := by rw [← HK.out]; exact (hSw.2.2 0 _ rfl).1
    have d1 : W.cell? ⟨w.heap.size, 1, none⟩ = some (.int .i64 m.f) := (hSw.2.2 1 _ rfl).1
    have d9 : W.cell? ⟨w.heap.size, 9, none⟩ = some (.int .i64 m.pn) := (hSw.2.2 9 _ rfl).1
    go_simp
    first | done | rfl
  try simp only [Act.put, List.setIfInBounds_toArray, List.set_cons_zero, List.set_cons_succ]
  refine wpAnyH_take (i := 9) (oi := { dst := some 14, op := _, type := _, pos := _, after := _, guard := _ }) (v := ?_) rfl (by kernel_rfl) (by kernel_rfl) (by kernel_rfl) (fun _ _ _ h => h) (Or.inl ⟨by rfl, ?_⟩) hHeld ?_
  rotate_left
  · intro W hSw
    have d0 : W.cell? ⟨w.heap.size, 0, none⟩ = some (.int .i64 7) := by rw [← HK.out]; exact (hSw.2.2 0 _ rfl).1
    have d1 : W.cell? ⟨w.heap.size, 1, none⟩ = some (.int .i64 m.f) := (hSw.2.2 1 _ rfl).1
    have d9 : W.cell? ⟨w.heap.size, 9, none⟩ = some (.int .i64 m.pn) := (hSw.2.2 9 _ rfl).1
    go_simp
    first | done | rfl
  try simp only [Act.put, List.setIfInBounds_toArray, List.set_cons_zero, List.set_cons_succ]
  refine wpAnyH_take (i := 10) (oi := { dst := some 15, op := _, type := _, pos := _, after := _, guard := _ }) (v := ?_) rfl (by kernel_rfl) (by kernel_rfl) (by kernel_rfl) (fun _ _ _ h => h) (Or.inl ⟨by rfl, ?_⟩) hHeld ?_
  rotate_left
  · intro W hSw
    have d0 : W.cell? ⟨w.heap.size, 0, none⟩ = some (.int .i64 7) := by rw [← HK.out]; exact (hSw.2.2 0 _ rfl).1
    have d1 : W.cell? ⟨w.heap.size, 1, none⟩ = some (.int .i64 m.f) := (hSw.2.2 1 _ rfl).1
    have d9 : W.cell? ⟨w.heap.size, 9, none⟩ = some (.int .i64 m.pn) := (hSw.2.2 9 _ rfl).1
    go_simp
    first | done | rfl
  try simp only [Act.put, List.setIfInBounds_toArray, List.set_cons_zero, List.set_cons_succ]
  refine wpAnyH_take (i := 11) (oi := { dst := some 16, op := _, type := _, pos := _, after := _, guard := _ }) (v := .bool true) rfl (by kernel_rfl) (by kernel_rfl) (by kernel_rfl) (fun _ _ _ h => h) (Or.inl ⟨by rfl, ?_⟩) hHeld ?_
  · intro W hSw
    have d0 : W.cell? ⟨w.heap.size, 0, none⟩ = some (.int .i64 7) := by rw [← HK.out]; exact (hSw.2.2 0 _ rfl).1
    have d1 : W.cell? ⟨w.heap.size, 1, none⟩ = some (.int .i64 m.f) := (hSw.2.2 1 _ rfl).1
    have d9 : W.cell? ⟨w.heap.size, 9, none⟩ = some (.int .i64 m.pn) := (hSw.2.2 9 _ rfl).1
    go_simp
    first | done | rfl | (rw [decide_eq_true (by omega)]) | (simp only [decide_eq_true_iff]; omega)
  try simp only [Act.put, List.setIfInBounds_toArray, List.set_cons_zero, List.set_cons_succ]
  refine wpAnyH_take (i := 12) (oi := { dst := some 17, op := _, type := _, pos := _, after := _, guard := _ }) (v := ?_) rfl (by kernel_rfl) (by kernel_rfl) (by kernel_rfl) (fun _ _ _ h => h) (Or.inl ⟨by rfl, ?_⟩) hHeld ?_
  rotate_left
  · intro W hSw
    have d0 : W.cell? ⟨w.heap.size, 0, none⟩ = some (.int .i64 7) := by rw [← HK.out]; exact (hSw.2.2 0 _ rfl).1
    have d1 : W.cell? ⟨w.heap.size, 1, none⟩ = some (.int .i64 m.f) := (hSw.2.2 1 _ rfl).1
    have d9 : W.cell? ⟨w.heap.size, 9, none⟩ = some (.int .i64 m.pn) := (hSw.2.2 9 _ rfl).1
    go_simp
    first | done | rfl
  try simp only [Act.put, List.setIfInBounds_toArray, List.set_cons_zero, List.set_cons_succ]
  refine wpAnyH_take (i := 13) (oi := { dst := some 18, op := _, type := _, pos := _, after := _, guard := _ }) (v := ?_) rfl (by kernel_rfl) (by kernel_rfl) (by kernel_rfl) (fun _ _ _ h => h) (Or.inl ⟨by rfl, ?_⟩) hHeld ?_
  rotate_left
  · intro W hSw
    have d0 : W.cell? ⟨w.heap.size, 0, none⟩ = some (.int .i64 7) := by rw [← HK.out]; exact (hSw.2.2 0 _ rfl).1
    have d1 : W.cell? ⟨w.heap.size, 1, none⟩ = some (.int .i64 m.f) := (hSw.2.2 1 _ rfl).1
    have d9 : W.cell? ⟨w.heap.size, 9, none⟩ = some (.int .i64 m.pn) := (hSw.2.2 9 _ rfl).1
    go_simp
    first | done | rfl
  try simp only [Act.put, List.setIfInBounds_toArray, List.set_cons_zero, List.set_cons_succ]
  refine wpAnyH_take (i := 14) (oi := { dst := some 19, op := _, type := _, pos := _, after := _, guard := _ }) (v := undef) rfl (by kernel_rfl) (by kernel_rfl) (by kernel_rfl) (fun _ _ _ h => h) (Or.inr ⟨by rfl, rfl⟩) hHeld ?_
  try simp only [Act.put, List.setIfInBounds_toArray, List.set_cons_zero, List.set_cons_succ]
  refine wpAnyH_take (i := 15) (oi := { dst := some 20, op := _, type := _, pos := _, after := _, guard := _ }) (v := undef) rfl (by kernel_rfl) (by kernel_rfl) (by kernel_rfl) (fun _ _ _ h => h) (Or.inr ⟨by rfl, rfl⟩) hHeld ?_
  try simp only [Act.put, List.setIfInBounds_toArray, List.set_cons_zero, List.set_cons_succ]
  refine wpAnyH_take (i := 16) (oi := { dst := some 21, op := _, type := _, pos := _, after := _, guard := _ }) (v := undef) rfl (by kernel_rfl) (by kernel_rfl) (by kernel_rfl) (fun _ _ _ h => h) (Or.inr ⟨by rfl, rfl⟩) hHeld ?_
  try simp only [Act.put, List.setIfInBounds_toArray, List.set_cons_zero, List.set_cons_succ]
  refine wpAnyH_take (i := 17) (oi := { dst := some 22, op := _, type := _, pos := _, after := _, guard := _ }) (v := ?_) rfl (by kernel_rfl) (by kernel_rfl) (by kernel_rfl) (fun _ _ _ h => h) (Or.inl ⟨by rfl, ?_⟩) hHeld ?_
  rotate_left
  · intro W hSw
    have d0 : W.cell? ⟨w.heap.size, 0, none⟩ = some (.int .i64 7) := by rw [← HK.out]; exact (hSw.2.2 0 _ rfl).1
    have d1 : W.cell? ⟨w.heap.size, 1, none⟩ = some (.int .i64 m.f) := (hSw.2.2 1 _ rfl).1
    have d9 : W.cell? ⟨w.heap.size, 9, none⟩ = some (.int .i64 m.pn) := (hSw.2.2 9 _ rfl).1
    go_simp
    first | done | rfl
  try simp only [Act.put, List.setIfInBounds_toArray, List.set_cons_zero, List.set_cons_succ]
  refine wpAnyH_take (i := 18) (oi := { dst := some 23, op := _, type := _, pos := _, after := _, guard := _ }) (v := ?_) rfl (by kernel_rfl) (by kernel_rfl) (by kernel_rfl) (fun _ _ _ h => h) (Or.inl ⟨by rfl, ?_⟩) hHeld ?_
  rotate_left
  · intro W hSw
    have d0 : W.cell? ⟨w.heap.size, 0, none⟩ = some (.int .i64 7) := by rw [← HK.out]; exact (hSw.2.2 0 _ rfl).1
    have d1 : W.cell? ⟨w.heap.size, 1, none⟩ = some (.int .i64 m.f) := (hSw.2.2 1 _ rfl).1
    have d9 : W.cell? ⟨w.heap.size, 9, none⟩ = some (.int .i64 m.pn) := (hSw.2.2 9 _ rfl).1
    go_simp
    first | done | rfl
  try simp only [Act.put, List.setIfInBounds_toArray, List.set_cons_zero, List.set_cons_succ]
  refine wpAnyH_take (i := 19) (oi := { dst := some 24, op := _, type := _, pos := _, after := _, guard := _ }) (v := undef) rfl (by kernel_rfl) (by kernel_rfl) (by kernel_rfl) (fun _ _ _ h => h) (Or.inr ⟨by rfl, rfl⟩) hHeld ?_
  try simp only [Act.put, List.setIfInBounds_toArray, List.set_cons_zero, List.set_cons_succ]
  refine wpAnyH_take (i := 20) (oi := { dst := some 25, op := _, type := _, pos := _, after := _, guard := _ }) (v := undef) rfl (by kernel_rfl) (by kernel_rfl) (by kernel_rfl) (fun _ _ _ h => h) (Or.inr ⟨by rfl, rfl⟩) hHeld ?_
  try simp only [Act.put, List.setIfInBounds_toArray, List.set_cons_zero, List.set_cons_succ]
  refine wpAnyH_take (i := 21) (oi := { dst := some 26, op := _, type := _, pos := _, after := _, guard := _ }) (v := undef) rfl (by kernel_rfl) (by kernel_rfl) (by kernel_rfl) (fun _ _ _ h => h) (Or.inr ⟨by rfl, rfl⟩) hHeld ?_
  try simp only [Act.put, List.setIfInBounds_toArray, List.set_cons_zero, List.set_cons_succ]
  refine wpAnyH_take (i := 22) (oi := { dst := some 27, op := _, type := _, pos := _, after := _, guard := _ }) (v := ?_) rfl (by kernel_rfl) (by kernel_rfl) (by kernel_rfl) (fun _ _ _ h => h) (Or.inl ⟨by rfl, ?_⟩) hHeld ?_
  rotate_left
  · intro W hSw
    have d0 : W.cell? ⟨w.heap.size, 0, none⟩ = some (.int .i64 7) := by rw [← HK.out]; exact (hSw.2.2 0 _ rfl).1
    have d1 : W.cell? ⟨w.heap.size, 1, none⟩ = some (.int .i64 m.f) := (hSw.2.2 1 _ rfl).1
    have d9 : W.cell? ⟨w.heap.size, 9, none⟩ = some (.int .i64 m.pn) := (hSw.2.2 9 _ rfl).1
    go_simp
    first | done | rfl
  try simp only [Act.put, List.setIfInBounds_toArray, List.set_cons_zero, List.set_cons_succ]
  refine wpAnyH_take (i := 23) (oi := { dst := some 28, op := _, type := _, pos := _, after := _, guard := _ }) (v := ?_) rfl (by kernel_rfl) (by kernel_rfl) (by kernel_rfl) (fun _ _ _ h => h) (Or.inl ⟨by rfl, ?_⟩) hHeld ?_
  rotate_left
  · intro W hSw
    have d0 : W.cell? ⟨w.heap.size, 0, none⟩ = some (.int .i64 7) := by rw [← HK.out]; exact (hSw.2.2 0 _ rfl).1
    have d1 : W.cell? ⟨w.heap.size, 1, none⟩ = some (.int .i64 m.f) := (hSw.2.2 1 _ rfl).1
    have d9 : W.cell? ⟨w.heap.size, 9, none⟩ = some (.int .i64 m.pn) := (hSw.2.2 9 _ rfl).1
    go_simp
    first | done | rfl
  try simp only [Act.put, List.setIfInBounds_toArray, List.set_cons_zero, List.set_cons_succ]
  refine wpAnyH_take (i := 24) (oi := { dst := some 29, op := _, type := _, pos := _, after := _, guard := _ }) (v := undef) rfl (by kernel_rfl) (by kernel_rfl) (by kernel_rfl) (fun _ _ _ h => h) (Or.inr ⟨by rfl, rfl⟩) hHeld ?_
  try simp only [Act.put, List.setIfInBounds_toArray, List.set_cons_zero, List.set_cons_succ]
  refine wpAnyH_take (i := 25) (oi := { dst := some 30, op := _, type := _, pos := _, after := _, guard := _ }) (v := undef) rfl (by kernel_rfl) (by kernel_rfl) (by kernel_rfl) (fun _ _ _ h => h) (Or.inr ⟨by rfl, rfl⟩) hHeld ?_
  try simp only [Act.put, List.setIfInBounds_toArray, List.set_cons_zero, List.set_cons_succ]
  refine wpAnyH_take (i := 26) (oi := { dst := some 31, op := _, type := _, pos := _, after := _, guard := _ }) (v := undef) rfl (by kernel_rfl) (by kernel_rfl) (by kernel_rfl) (fun _ _ _ h => h) (Or.inr ⟨by rfl, rfl⟩) hHeld ?_
  try simp only [Act.put, List.setIfInBounds_toArray, List.set_cons_zero, List.set_cons_succ]
  refine wpAnyH_take (i := 27) (oi := { dst := some 32, op := _, type := _, pos := _, after := _, guard := _ }) (v := ?_) rfl (by kernel_rfl) (by kernel_rfl) (by kernel_rfl) (fun _ _ _ h => h) (Or.inl ⟨by rfl, ?_⟩) hHeld ?_
  rotate_left
  · intro W hSw
    have d0 : W.cell? ⟨w.heap.size, 0, none⟩ = some (.int .i64 7) := by rw [← HK.out]; exact (hSw.2.2 0 _ rfl).1
    have d1 : W.cell? ⟨w.heap.size, 1, none⟩ = some (.int .i64 m.f) := (hSw.2.2 1 _ rfl).1
    have d9 : W.cell? ⟨w.heap.size, 9, none⟩ = some (.int .i64 m.pn) := (hSw.2.2 9 _ rfl).1
    go_simp
    first | done | rfl
  try simp only [Act.put, List.setIfInBounds_toArray, List.set_cons_zero, List.set_cons_succ]
  refine wpAnyH_take (i := 28) (oi := { dst := some 33, op := _, type := _, pos := _, after := _, guard := _ }) (v := ?_) rfl (by kernel_rfl) (by kernel_rfl) (by kernel_rfl) (fun _ _ _ h => h) (Or.inl ⟨by rfl, ?_⟩) hHeld ?_
  rotate_left
  · intro W hSw
    have d0 : W.cell? ⟨w.heap.size, 0, none⟩ = some (.int .i64 7) := by rw [← HK.out]; exact (hSw.2.2 0 _ rfl).1
    have d1 : W.cell? ⟨w.heap.size, 1, none⟩ = some (.int .i64 m.f) := (hSw.2.2 1 _ rfl).1
    have d9 : W.cell? ⟨w.heap.size, 9, none⟩ = some (.int .i64 m.pn) := (hSw.2.2 9 _ rfl).1
    go_simp
    first | done | rfl
  try simp only [Act.put, List.setIfInBounds_toArray, List.set_cons_zero, List.set_cons_succ]
  refine wpAnyH_take (i := 29) (oi := { dst := some 34, op := _, type := _, pos := _, after := _, guard := _ }) (v := undef) rfl (by kernel_rfl) (by kernel_rfl) (by kernel_rfl) (fun _ _ _ h => h) (Or.inr ⟨by rfl, rfl⟩) hHeld ?_
  try simp only [Act.put, List.setIfInBounds_toArray, List.set_cons_zero, List.set_cons_succ]
  refine wpAnyH_take (i := 30) (oi := { dst := some 35, op := _, type := _, pos := _, after := _, guard := _ }) (v := undef) rfl (by kernel_rfl) (by kernel_rfl) (by kernel_rfl) (fun _ _ _ h => h) (Or.inr ⟨by rfl, rfl⟩) hHeld ?_
  try simp only [Act.put, List.setIfInBounds_toArray, List.set_cons_zero, List.set_cons_succ]
  refine wpAnyH_take (i := 31) (oi := { dst := some 36, op := _, type := _, pos := _, after := _, guard := _ }) (v := undef) rfl (by kernel_rfl) (by kernel_rfl) (by kernel_rfl) (fun _ _ _ h => h) (Or.inr ⟨by rfl, rfl⟩) hHeld ?_
  try simp only [Act.put, List.setIfInBounds_toArray, List.set_cons_zero, List.set_cons_succ]
  refine wpAnyH_take (i := 32) (oi := { dst := some 37, op := _, type := _, pos := _, after := _, guard := _ }) (v := undef) rfl (by kernel_rfl) (by kernel_rfl) (by kernel_rfl) (fun _ _ _ h => h) (Or.inr ⟨by rfl, rfl⟩) hHeld ?_
  try simp only [Act.put, List.setIfInBounds_toArray, List.set_cons_zero, List.set_cons_succ]
  refine wpAnyH_take (i := 33) (oi := { dst := some 38, op := _, type := _, pos := _, after := _, guard := _ }) (v := undef) rfl (by kernel_rfl) (by kernel_rfl) (by kernel_rfl) (fun _ _ _ h => h) (Or.inr ⟨by rfl, rfl⟩) hHeld ?_
  try simp only [Act.put, List.setIfInBounds_toArray, List.set_cons_zero, List.set_cons_succ]
  refine wpAnyH_take (i := 34) (oi := { dst := some 39, op := _, type := _, pos := _, after := _, guard := _ }) (v := ?_) rfl (by kernel_rfl) (by kernel_rfl) (by kernel_rfl) (fun _ _ _ h => h) (Or.inl ⟨by rfl, ?_⟩) hHeld ?_
  rotate_left
  · intro W hSw
    have d0 : W.cell? ⟨w.heap.size, 0, none⟩ = some (.int .i64 7) := by rw [← HK.out]; exact (hSw.2.2 0 _ rfl).1
    have d1 : W.cell? ⟨w.heap.size, 1, none⟩ = some (.int .i64 m.f) := (hSw.2.2 1 _ rfl).1
    have d9 : W.cell? ⟨w.heap.size, 9, none⟩ = some (.int .i64 m.pn) := (hSw.2.2 9 _ rfl).1
    go_simp
    first | done | rfl
  try simp only [Act.put, List.setIfInBounds_toArray, List.set_cons_zero, List.set_cons_succ]
  refine wpAnyH_done (by kernel_rfl) ?_ _
  refine NoPanic.normal ?_
  go_wp2_with fail
  go_ret
  exact ⟨by rw [HV.out]; rfl, hHeld.1⟩

set_option maxRecDepth 100000 in
set_option maxHeartbeats 20000000 in
theorem r17_f1 (m : Mst) (w : World) (hk : m.k = 7) (hf0 : 0 ≤ m.f) (hf : 255 < m.f) (HV : Hid (rightB m = false)) : Calls Tryd.prog 32 #[.agg m.row] w fun e w' => e = .returned (.bool (rightB m)) ∧ Below w.heap.size w w' := by
  have H0 : Hid (Below w.heap.size w (w.alloc (.cells m.row 45)) ∧ Blk (w.alloc (.cells m.row 45)) w.heap.size m.row) := Lib.hid ⟨(Below.refl _ _).alloc (Nat.le_refl _) _, Blk.new _ _ _ _ rfl⟩
  have HK := Lib.hid hk
  clear hk
  go_enter Tryd.func32, Tryd.ntmps32
  go_wp2_with fail
  refine wp_region_noPanic ?_
  refine wp_region_held_drew (S := fun W => Below w.heap.size w W ∧ Blk W w.heap.size m.row) (by kernel_rfl) (show Below w.heap.size w (w.alloc (.cells m.row 45)).drew ∧ Blk (w.alloc (.cells m.row 45)).drew w.heap.size m.row from ⟨H0.out.1.trans ⟨rfl, rfl, rfl, Nat.le_refl _, fun _ _ => rfl⟩, H0.out.2.later ⟨rfl, rfl, rfl, Nat.le_refl _, fun _ _ => rfl⟩⟩) (fun hHeld => ?_)
  generalize (w.alloc (.cells m.row 45)).drew = w2 at *
  refine wpAnyH_take (i := 0) (oi := { dst := some 5, op := _, type := _, pos := _, after := _, guard := _ }) (v := ?_) rfl (by kernel_rfl) (by kernel_rfl) (by kernel_rfl) (fun _ _ _ h => h) (Or.inl ⟨by rfl, ?_⟩) hHeld ?_
  rotate_left
  · intro W hSw
    have d0 : W.cell? ⟨w.heap.size, 0, none⟩ = some (.int .i64 7) := by rw [← HK.out]; exact (hSw.2.2 0 _ rfl).1
    have d1 : W.cell? ⟨w.heap.size, 1, none⟩ = some (.int .i64 m.f) := (hSw.2.2 1 _ rfl).1
    have d9 : W.cell? ⟨w.heap.size, 9, none⟩ = some (.int .i64 m.pn) := (hSw.2.2 9 _ rfl).1
    go_simp
    first | done | rfl
  try simp only [Act.put, List.setIfInBounds_toArray, List.set_cons_zero, List.set_cons_succ]
  refine wpAnyH_take (i := 1) (oi := { dst := some 6, op := _, type := _, pos := _, after := _, guard := _ }) (v := ?_) rfl (by kernel_rfl) (by kernel_rfl) (by kernel_rfl) (fun _ _ _ h => h) (Or.inl ⟨by rfl, ?_⟩) hHeld ?_
  rotate_left
  · intro W hSw
    have d0 : W.cell? ⟨w.heap.size, 0, none⟩ = some (.int .i64 7) := by rw [← HK.out]; exact (hSw.2.2 0 _ rfl).1
    have d1 : W.cell? ⟨w.heap.size, 1, none⟩ = some (.int .i64 m.f) := (hSw.2.2 1 _ rfl).1
    have d9 : W.cell? ⟨w.heap.size, 9, none⟩ = some (.int .i64 m.pn) := (hSw.2.2 9 _ rfl).1
    go_simp
    first | done | rfl
  try simp only [Act.put, List.setIfInBounds_toArray, List.set_cons_zero, List.set_cons_succ]
  refine wpAnyH_take (i := 2) (oi := { dst := some 7, op := _, type := _, pos := _, after := _, guard := _ }) (v := ?_) rfl (by kernel_rfl) (by kernel_rfl) (by kernel_rfl) (fun _ _ _ h => h) (Or.inl ⟨by rfl, ?_⟩) hHeld ?_
  rotate_left
  · intro W hSw
    have d0 : W.cell? ⟨w.heap.size, 0, none⟩ = some (.int .i64 7) := by rw [← HK.out]; exact (hSw.2.2 0 _ rfl).1
    have d1 : W.cell? ⟨w.heap.size, 1, none⟩ = some (.int .i64 m.f) := (hSw.2.2 1 _ rfl).1
    have d9 : W.cell? ⟨w.heap.size, 9, none⟩ = some (.int .i64 m.pn) := (hSw.2.2 9 _ rfl).1
    go_simp
    first | done | rfl
  try simp only [Act.put, List.setIfInBounds_toArray, List.set_cons_zero, List.set_cons_succ]
  refine wpAnyH_take (i := 3) (oi := { dst := some 8, op := _, type := _, pos := _, after := _, guard := _ }) (v := ?_) rfl (by kernel_rfl) (by kernel_rfl) (by kernel_rfl) (fun _ _ _ h => h) (Or.inl ⟨by rfl, ?_⟩) hHeld ?_
  rotate_left
  · intro W hSw
    have d0 : W.cell? ⟨w.heap.size, 0, none⟩ = some (.int .i64 7) := by rw [← HK.out]; exact (hSw.2.2 0 _ rfl).1
    have d1 : W.cell? ⟨w.heap.size, 1, none⟩ = some (.int .i64 m.f) := (hSw.2.2 1 _ rfl).1
    have d9 : W.cell? ⟨w.heap.size, 9, none⟩ = some (.int .i64 m.pn) := (hSw.2.2 9 _ rfl).1
    go_simp
    first | done | rfl
  try simp only [Act.put, List.setIfInBounds_toArray, List.set_cons_zero, List.set_cons_succ]
  refine wpAnyH_take (i := 4) (oi := { dst := some 9, op := _, type := _, pos := _, after := _, guard := _ }) (v := ?_) rfl (by kernel_rfl) (by kernel_rfl) (by kernel_rfl) (fun _ _ _ h => h) (Or.inl ⟨by rfl, ?_⟩) hHeld ?_
  rotate_left
  · intro W hSw
    have d0 : W.cell? ⟨w.heap.size, 0, none⟩ = some (.int .i64 7) := by rw [← HK.out]; exact (hSw.2.2 0 _ rfl).1
    have d1 : W.cell? ⟨w.heap.size, 1, none⟩ = some (.int .i64 m.f) := (hSw.2.2 1 _ rfl).1
    have d9 : W.cell? ⟨w.heap.size, 9, none⟩ = some (.int .i64 m.pn) := (hSw.2.2 9 _ rfl).1
    go_simp
    first | done | rfl
  try simp only [Act.put, List.setIfInBounds_toArray, List.set_cons_zero, List.set_cons_succ]
  refine wpAnyH_take (i := 5) (oi := { dst := some 10, op := _, type := _, pos := _, after := _, guard := _ }) (v := ?_) rfl (by kernel_rfl) (by kernel_rfl) (by kernel_rfl) (fun _ _ _ h => h) (Or.inl ⟨by rfl, ?_⟩) hHeld ?_
  rotate_left
  · intro W hSw
    have d0 : W.cell? ⟨w.heap.size, 0, none⟩ = some (.int .i64 7) := by rw [← HK.out]; exact (hSw.2.2 0 _ rfl).1
    have d1 : W.cell? ⟨w.heap.size, 1, none⟩ = some (.int .i64 m.f) := (hSw.2.2 1 _ rfl).1
    have d9 : W.cell? ⟨w.heap.size, 9, none⟩ = some (.int .i64 m.pn) := (hSw.2.2 9 _ rfl).1
    go_simp
    first | done | rfl
  try simp only [Act.put, List.setIfInBounds_toArray, List.set_cons_zero, List.set_cons_succ]
  refine wpAnyH_take (i := 6) (oi := { dst := some 11, op := _, type := _, pos := _, after := _, guard := _ }) (v := ?_) rfl (by kernel_rfl) (by kernel_rfl) (by kernel_rfl) (fun _ _ _ h => h) (Or.inl ⟨by rfl, ?_⟩) hHeld ?_
  rotate_left
  · intro W hSw
    have d0 : W.cell? ⟨w.heap.size, 0, none⟩ = some (.int .i64 7) := by rw [← HK.out]; exact (hSw.2.2 0 _ rfl).1
    have d1 : W.cell? ⟨w.heap.size, 1, none⟩ = some (.int .i64 m.f) := (hSw.2.2 1 _ rfl).1
    have d9 : W.cell? ⟨w.heap.size, 9, none⟩ = some (.int .i64 m.pn) := (hSw.2.2 9 _ rfl).1
    go_simp
    first | done | rfl
  try simp only [Act.put, List.setIfInBounds_toArray, List.set_cons_zero, List.set_cons_succ]
  refine wpAnyH_take (i := 7) (oi := { dst := some 12, op := _, type := _, pos := _, after := _, guard := _ }) (v := ?_) rfl (by kernel_rfl) (by kernel_rfl) (by kernel_rfl) (fun _ _ _ h => h) (Or.inl ⟨by rfl, ?_⟩) hHeld ?_
  rotate_left
  · intro W hSw
    have d0 : W.cell? ⟨w.heap.size, 0, none⟩ = some (.int .i64 7) := by rw [← HK.out]; exact (hSw.2.2 0 _ rfl).1
    have d1 : W.cell? ⟨w.heap.size, 1, none⟩ = some (.int .i64 m.f) := (hSw.2.2 1 _ rfl).1
    have d9 : W.cell? ⟨w.heap.size, 9, none⟩ = some (.int .i64 m.pn) := (hSw.2.2 9 _ rfl).1
    go_simp
    first | done | rfl
  try simp only [Act.put, List.setIfInBounds_toArray, List.set_cons_zero, List.set_cons_succ]
  refine wpAnyH_take (i := 8) (oi := { dst := some 13, op := _, type := _, pos := _, after := _, guard := _ }) (v := ?_) rfl (by kernel_rfl) (by kernel_rfl) (by kernel_rfl) (fun _ _ _ h => h) (Or.inl ⟨by rfl, ?_⟩) hHeld ?_
  rotate_left
  · intro W hSw
    have d0 : W.cell? ⟨w.heap.size, 0, none⟩ = some (.int .i64 7) := by rw [← HK.out]; exact (hSw.2.2 0 _ rfl).1
    have d1 : W.cell? ⟨w.heap.size, 1, none⟩ = some (.int .i64 m.f) := (hSw.2.2 1 _ rfl).1
    have d9 : W.cell? ⟨w.heap.size, 9, none⟩ = some (.int .i64 m.pn) := (hSw.2.2 9 _ rfl).1
    go_simp
    first | done | rfl
  try simp only [Act.put, List.setIfInBounds_toArray, List.set_cons_zero, List.set_cons_succ]
  refine wpAnyH_take (i := 9) (oi := { dst := some 14, op := _, type := _, pos := _, after := _, guard := _ }) (v := ?_) rfl (by kernel_rfl) (by kernel_rfl) (by kernel_rfl) (fun _ _ _ h => h) (Or.inl ⟨by rfl, ?_⟩) hHeld ?_
  rotate_left
  · intro W hSw
    have d0 : W.cell? ⟨w.heap.size, 0, none⟩ = some (.int .i64 7) := by rw [← HK.out]; exact (hSw.2.2 0 _ rfl).1
    have d1 : W.cell? ⟨w.heap.size, 1, none⟩ = some (.int .i64 m.f) := (hSw.2.2 1 _ rfl).1
    have d9 : W.cell? ⟨w.heap.size, 9, none⟩ = some (.int .i64 m.pn) := (hSw.2.2 9 _ rfl).1
    go_simp
    first | done | rfl
  try simp only [Act.put, List.setIfInBounds_toArray, List.set_cons_zero, List.set_cons_succ]
  refine wpAnyH_take (i := 10) (oi := { dst := some 15, op := _, type := _, pos := _, after := _, guard := _ }) (v := ?_) rfl (by kernel_rfl) (by kernel_rfl) (by kernel_rfl) (fun _ _ _ h => h) (Or.inl ⟨by rfl, ?_⟩) hHeld ?_
  rotate_left
  · intro W hSw
    have d0 : W.cell? ⟨w.heap.size, 0, none⟩ = some (.int .i64 7) := by rw [← HK.out]; exact (hSw.2.2 0 _ rfl).1
    have d1 : W.cell? ⟨w.heap.size, 1, none⟩ = some (.int .i64 m.f) := (hSw.2.2 1 _ rfl).1
    have d9 : W.cell? ⟨w.heap.size, 9, none⟩ = some (.int .i64 m.pn) := (hSw.2.2 9 _ rfl).1
    go_simp
    first | done | rfl
  try simp only [Act.put, List.setIfInBounds_toArray, List.set_cons_zero, List.set_cons_succ]
  refine wpAnyH_take (i := 11) (oi := { dst := some 16, op := _, type := _, pos := _, after := _, guard := _ }) (v := .bool false) rfl (by kernel_rfl) (by kernel_rfl) (by kernel_rfl) (fun _ _ _ h => h) (Or.inl ⟨by rfl, ?_⟩) hHeld ?_
  · intro W hSw
    have d0 : W.cell? ⟨w.heap.size, 0, none⟩ = some (.int .i64 7) := by rw [← HK.out]; exact (hSw.2.2 0 _ rfl).1
    have d1 : W.cell? ⟨w.heap.size, 1, none⟩ = some (.int .i64 m.f) := (hSw.2.2 1 _ rfl).1
    have d9 : W.cell? ⟨w.heap.size, 9, none⟩ = some (.int .i64 m.pn) := (hSw.2.2 9 _ rfl).1
    go_simp
    first | done | rfl | (rw [decide_eq_false (by omega)]) | (simp only [decide_eq_false_iff]; omega)
  try simp only [Act.put, List.setIfInBounds_toArray, List.set_cons_zero, List.set_cons_succ]
  refine wpAnyH_take (i := 12) (oi := { dst := some 17, op := _, type := _, pos := _, after := _, guard := _ }) (v := ?_) rfl (by kernel_rfl) (by kernel_rfl) (by kernel_rfl) (fun _ _ _ h => h) (Or.inl ⟨by rfl, ?_⟩) hHeld ?_
  rotate_left
  · intro W hSw
    have d0 : W.cell? ⟨w.heap.size, 0, none⟩ = some (.int .i64 7) := by rw [← HK.out]; exact (hSw.2.2 0 _ rfl).1
    have d1 : W.cell? ⟨w.heap.size, 1, none⟩ = some (.int .i64 m.f) := (hSw.2.2 1 _ rfl).1
    have d9 : W.cell? ⟨w.heap.size, 9, none⟩ = some (.int .i64 m.pn) := (hSw.2.2 9 _ rfl).1
    go_simp
    first | done | rfl
  try simp only [Act.put, List.setIfInBounds_toArray, List.set_cons_zero, List.set_cons_succ]
  refine wpAnyH_take (i := 13) (oi := { dst := some 18, op := _, type := _, pos := _, after := _, guard := _ }) (v := ?_) rfl (by kernel_rfl) (by kernel_rfl) (by kernel_rfl) (fun _ _ _ h => h) (Or.inl ⟨by rfl, ?_⟩) hHeld ?_
  rotate_left
  · intro W hSw
    have d0 : W.cell? ⟨w.heap.size, 0, none⟩ = some (.int .i64 7) := by rw [← HK.out]; exact (hSw.2.2 0 _ rfl).1
    have d1 : W.cell? ⟨w.heap.size, 1, none⟩ = some (.int .i64 m.f) := (hSw.2.2 1 _ rfl).1
    have d9 : W.cell? ⟨w.heap.size, 9, none⟩ = some (.int .i64 m.pn) := (hSw.2.2 9 _ rfl).1
    go_simp
    first | done | rfl
  try simp only [Act.put, List.setIfInBounds_toArray, List.set_cons_zero, List.set_cons_succ]
  refine wpAnyH_take (i := 14) (oi := { dst := some 19, op := _, type := _, pos := _, after := _, guard := _ }) (v := ?_) rfl (by kernel_rfl) (by kernel_rfl) (by kernel_rfl) (fun _ _ _ h => h) (Or.inl ⟨by rfl, ?_⟩) hHeld ?_
  rotate_left
  · intro W hSw
    have d0 : W.cell? ⟨w.heap.size, 0, none⟩ = some (.int .i64 7) := by rw [← HK.out]; exact (hSw.2.2 0 _ rfl).1
    have d1 : W.cell? ⟨w.heap.size, 1, none⟩ = some (.int .i64 m.f) := (hSw.2.2 1 _ rfl).1
    have d9 : W.cell? ⟨w.heap.size, 9, none⟩ = some (.int .i64 m.pn) := (hSw.2.2 9 _ rfl).1
    go_simp
    first | done | rfl
  try simp only [Act.put, List.setIfInBounds_toArray, List.set_cons_zero, List.set_cons_succ]
  refine wpAnyH_take (i := 15) (oi := { dst := some 20, op := _, type := _, pos := _, after := _, guard := _ }) (v := ?_) rfl (by kernel_rfl) (by kernel_rfl) (by kernel_rfl) (fun _ _ _ h => h) (Or.inl ⟨by rfl, ?_⟩) hHeld ?_
  rotate_left
  · intro W hSw
    have d0 : W.cell? ⟨w.heap.size, 0, none⟩ = some (.int .i64 7) := by rw [← HK.out]; exact (hSw.2.2 0 _ rfl).1
    have d1 : W.cell? ⟨w.heap.size, 1, none⟩ = some (.int .i64 m.f) := (hSw.2.2 1 _ rfl).1
    have d9 : W.cell? ⟨w.heap.size, 9, none⟩ = some (.int .i64 m.pn) := (hSw.2.2 9 _ rfl).1
    go_simp
    first | done | rfl
  try simp only [Act.put, List.setIfInBounds_toArray, List.set_cons_zero, List.set_cons_succ]
  refine wpAnyH_take (i := 16) (oi := { dst := some 21, op := _, type := _, pos := _, after := _, guard := _ }) (v := .bool true) rfl (by kernel_rfl) (by kernel_rfl) (by kernel_rfl) (fun _ _ _ h => h) (Or.inl ⟨by rfl, ?_⟩) hHeld ?_
  · intro W hSw
    have d0 : W.cell? ⟨w.heap.size, 0, none⟩ = some (.int .i64 7) := by rw [← HK.out]; exact (hSw.2.2 0 _ rfl).1
    have d1 : W.cell? ⟨w.heap.size, 1, none⟩ = some (.int .i64 m.f) := (hSw.2.2 1 _ rfl).1
    have d9 : W.cell? ⟨w.heap.size, 9, none⟩ = some (.int .i64 m.pn) := (hSw.2.2 9 _ rfl).1
    go_simp
    first | done | rfl | (rw [decide_eq_true (by omega)]) | (simp only [decide_eq_true_iff]; omega)
  try simp only [Act.put, List.setIfInBounds_toArray, List.set_cons_zero, List.set_cons_succ]
  refine wpAnyH_take (i := 17) (oi := { dst := some 22, op := _, type := _, pos := _, after := _, guard := _ }) (v := ?_) rfl (by kernel_rfl) (by kernel_rfl) (by kernel_rfl) (fun _ _ _ h => h) (Or.inl ⟨by rfl, ?_⟩) hHeld ?_
  rotate_left
  · intro W hSw
    have d0 : W.cell? ⟨w.heap.size, 0, none⟩ = some (.int .i64 7) := by rw [← HK.out]; exact (hSw.2.2 0 _ rfl).1
    have d1 : W.cell? ⟨w.heap.size, 1, none⟩ = some (.int .i64 m.f) := (hSw.2.2 1 _ rfl).1
    have d9 : W.cell? ⟨w.heap.size, 9, none⟩ = some (.int .i64 m.pn) := (hSw.2.2 9 _ rfl).1
    go_simp
    first | done | rfl
  try simp only [Act.put, List.setIfInBounds_toArray, List.set_cons_zero, List.set_cons_succ]
  refine wpAnyH_take (i := 18) (oi := { dst := some 23, op := _, type := _, pos := _, after := _, guard := _ }) (v := ?_) rfl (by kernel_rfl) (by kernel_rfl) (by kernel_rfl) (fun _ _ _ h => h) (Or.inl ⟨by rfl, ?_⟩) hHeld ?_
  rotate_left
  · intro W hSw
    have d0 : W.cell? ⟨w.heap.size, 0, none⟩ = some (.int .i64 7) := by rw [← HK.out]; exact (hSw.2.2 0 _ rfl).1
    have d1 : W.cell? ⟨w.heap.size, 1, none⟩ = some (.int .i64 m.f) := (hSw.2.2 1 _ rfl).1
    have d9 : W.cell? ⟨w.heap.size, 9, none⟩ = some (.int .i64 m.pn) := (hSw.2.2 9 _ rfl).1
    go_simp
    first | done | rfl
  try simp only [Act.put, List.setIfInBounds_toArray, List.set_cons_zero, List.set_cons_succ]
  refine wpAnyH_take (i := 19) (oi := { dst := some 24, op := _, type := _, pos := _, after := _, guard := _ }) (v := undef) rfl (by kernel_rfl) (by kernel_rfl) (by kernel_rfl) (fun _ _ _ h => h) (Or.inr ⟨by rfl, rfl⟩) hHeld ?_
  try simp only [Act.put, List.setIfInBounds_toArray, List.set_cons_zero, List.set_cons_succ]
  refine wpAnyH_take (i := 20) (oi := { dst := some 25, op := _, type := _, pos := _, after := _, guard := _ }) (v := undef) rfl (by kernel_rfl) (by kernel_rfl) (by kernel_rfl) (fun _ _ _ h => h) (Or.inr ⟨by rfl, rfl⟩) hHeld ?_
  try simp only [Act.put, List.setIfInBounds_toArray, List.set_cons_zero, List.set_cons_succ]
  refine wpAnyH_take (i := 21) (oi := { dst := some 26, op := _, type := _, pos := _, after := _, guard := _ }) (v := undef) rfl (by kernel_rfl) (by kernel_rfl) (by kernel_rfl) (fun _ _ _ h => h) (Or.inr ⟨by rfl, rfl⟩) hHeld ?_
  try simp only [Act.put, List.setIfInBounds_toArray, List.set_cons_zero, List.set_cons_succ]
  refine wpAnyH_take (i := 22) (oi := { dst := some 27, op := _, type := _, pos := _, after := _, guard := _ }) (v := ?_) rfl (by kernel_rfl) (by kernel_rfl) (by kernel_rfl) (fun _ _ _ h => h) (Or.inl ⟨by rfl, ?_⟩) hHeld ?_
  rotate_left
  · intro W hSw
    have d0 : W.cell? ⟨w.heap.size, 0, none⟩ = some (.int .i64 7) := by rw [← HK.out]; exact (hSw.2.2 0 _ rfl).1
    have d1 : W.cell? ⟨w.heap.size, 1, none⟩ = some (.int .i64 m.f) := (hSw.2.2 1 _ rfl).1
    have d9 : W.cell? ⟨w.heap.size, 9, none⟩ = some (.int .i64 m.pn) := (hSw.2.2 9 _ rfl).1
    go_simp
    first | done | rfl
  try simp only [Act.put, List.setIfInBounds_toArray, List.set_cons_zero, List.set_cons_succ]
  refine wpAnyH_take (i := 23) (oi := { dst := some 28, op := _, type := _, pos := _, after := _, guard := _ }) (v := ?_) rfl (by kernel_rfl) (by kernel_rfl) (by kernel_rfl) (fun _ _ _ h => h) (Or.inl ⟨by rfl, ?_⟩) hHeld ?_
  rotate_left
  · intro W hSw
    have d0 : W.cell? ⟨w.heap.size, 0, none⟩ = some (.int .i64 7) := by rw [← HK.out]; exact (hSw.2.2 0 _ rfl).1
    have d1 : W.cell? ⟨w.heap.size, 1, none⟩ = some (.int .i64 m.f) := (hSw.2.2 1 _ rfl).1
    have d9 : W.cell? ⟨w.heap.size, 9, none⟩ = some (.int .i64 m.pn) := (hSw.2.2 9 _ rfl).1
    go_simp
    first | done | rfl
  try simp only [Act.put, List.setIfInBounds_toArray, List.set_cons_zero, List.set_cons_succ]
  refine wpAnyH_take (i := 24) (oi := { dst := some 29, op := _, type := _, pos := _, after := _, guard := _ }) (v := undef) rfl (by kernel_rfl) (by kernel_rfl) (by kernel_rfl) (fun _ _ _ h => h) (Or.inr ⟨by rfl, rfl⟩) hHeld ?_
  try simp only [Act.put, List.setIfInBounds_toArray, List.set_cons_zero, List.set_cons_succ]
  refine wpAnyH_take (i := 25) (oi := { dst := some 30, op := _, type := _, pos := _, after := _, guard := _ }) (v := undef) rfl (by kernel_rfl) (by kernel_rfl) (by kernel_rfl) (fun _ _ _ h => h) (Or.inr ⟨by rfl, rfl⟩) hHeld ?_
  try simp only [Act.put, List.setIfInBounds_toArray, List.set_cons_zero, List.set_cons_succ]
  refine wpAnyH_take (i := 26) (oi := { dst := some 31, op := _, type := _, pos := _, after := _, guard := _ }) (v := undef) rfl (by kernel_rfl) (by kernel_rfl) (by kernel_rfl) (fun _ _ _ h => h) (Or.inr ⟨by rfl, rfl⟩) hHeld ?_
  try simp only [Act.put, List.setIfInBounds_toArray, List.set_cons_zero, List.set_cons_succ]
  refine wpAnyH_take (i := 27) (oi := { dst := some 32, op := _, type := _, pos := _, after := _, guard := _ }) (v := ?_) rfl (by kernel_rfl) (by kernel_rfl) (by kernel_rfl) (fun _ _ _ h => h) (Or.inl ⟨by rfl, ?_⟩) hHeld ?_
  rotate_left
  · intro W hSw
    have d0 : W.cell? ⟨w.heap.size, 0, none⟩ = some (.int .i64 7) := by rw [← HK.out]; exact (hSw.2.2 0 _ rfl).1
    have d1 : W.cell? ⟨w.heap.size, 1, none⟩ = some (.int .i64 m.f) := (hSw.2.2 1 _ rfl).1
    have d9 : W.cell? ⟨w.heap.size, 9, none⟩ = some (.int .i64 m.pn) := (hSw.2.2 9 _ rfl).1
    go_simp
    first | done | rfl
  try simp only [Act.put, List.setIfInBounds_toArray, List.set_cons_zero, List.set_cons_succ]
  refine wpAnyH_take (i := 28) (oi := { dst := some 33, op := _, type := _, pos := _, after := _, guard := _ }) (v := ?_) rfl (by kernel_rfl) (by kernel_rfl) (by kernel_rfl) (fun _ _ _ h => h) (Or.inl ⟨by rfl, ?_⟩) hHeld ?_
  rotate_left
  · intro W hSw
    have d0 : W.cell? ⟨w.heap.size, 0, none⟩ = some (.int .i64 7) := by rw [← HK.out]; exact (hSw.2.2 0 _ rfl).1
    have d1 : W.cell? ⟨w.heap.size, 1, none⟩ = some (.int .i64 m.f) := (hSw.2.2 1 _ rfl).1
    have d9 : W.cell? ⟨w.heap.size, 9, none⟩ = some (.int .i64 m.pn) := (hSw.2.2 9 _ rfl).1
    go_simp
    first | done | rfl
  try simp only [Act.put, List.setIfInBounds_toArray, List.set_cons_zero, List.set_cons_succ]
  refine wpAnyH_take (i := 29) (oi := { dst := some 34, op := _, type := _, pos := _, after := _, guard := _ }) (v := undef) rfl (by kernel_rfl) (by kernel_rfl) (by kernel_rfl) (fun _ _ _ h => h) (Or.inr ⟨by rfl, rfl⟩) hHeld ?_
  try simp only [Act.put, List.setIfInBounds_toArray, List.set_cons_zero, List.set_cons_succ]
  refine wpAnyH_take (i := 30) (oi := { dst := some 35, op := _, type := _, pos := _, after := _, guard := _ }) (v := undef) rfl (by kernel_rfl) (by kernel_rfl) (by kernel_rfl) (fun _ _ _ h => h) (Or.inr ⟨by rfl, rfl⟩) hHeld ?_
  try simp only [Act.put, List.setIfInBounds_toArray, List.set_cons_zero, List.set_cons_succ]
  refine wpAnyH_take (i := 31) (oi := { dst := some 36, op := _, type := _, pos := _, after := _, guard := _ }) (v := undef) rfl (by kernel_rfl) (by kernel_rfl) (by kernel_rfl) (fun _ _ _ h => h) (Or.inr ⟨by rfl, rfl⟩) hHeld ?_
  try simp only [Act.put, List.setIfInBounds_toArray, List.set_cons_zero, List.set_cons_succ]
  refine wpAnyH_take (i := 32) (oi := { dst := some 37, op := _, type := _, pos := _, after := _, guard := _ }) (v := undef) rfl (by kernel_rfl) (by kernel_rfl) (by kernel_rfl) (fun _ _ _ h => h) (Or.inr ⟨by rfl, rfl⟩) hHeld ?_
  try simp only [Act.put, List.setIfInBounds_toArray, List.set_cons_zero, List.set_cons_succ]
  refine wpAnyH_take (i := 33) (oi := { dst := some 38, op := _, type := _, pos := _, after := _, guard := _ }) (v := undef) rfl (by kernel_rfl) (by kernel_rfl) (by kernel_rfl) (fun _ _ _ h => h) (Or.inr ⟨by rfl, rfl⟩) hHeld ?_
  try simp only [Act.put, List.setIfInBounds_toArray, List.set_cons_zero, List.set_cons_succ]
  refine wpAnyH_take (i := 34) (oi := { dst := some 39, op := _, type := _, pos := _, after := _, guard := _ }) (v := ?_) rfl (by kernel_rfl) (by kernel_rfl) (by kernel_rfl) (fun _ _ _ h => h) (Or.inl ⟨by rfl, ?_⟩) hHeld ?_
  rotate_left
  · intro W hSw
    have d0 : W.cell? ⟨w.heap.size, 0, none⟩ = some (.int .i64 7) := by rw [← HK.out]; exact (hSw.2.2 0 _ rfl).1
    have d1 : W.cell? ⟨w.heap.size, 1, none⟩ = some (.int .i64 m.f) := (hSw.2.2 1 _ rfl).1
    have d9 : W.cell? ⟨w.heap.size, 9, none⟩ = some (.int .i64 m.pn) := (hSw.2.2 9 _ rfl).1
    go_simp
    first | done | rfl
  try simp only [Act.put, List.setIfInBounds_toArray, List.set_cons_zero, List.set_cons_succ]
  refine wpAnyH_done (by kernel_rfl) ?_ _
  refine NoPanic.normal ?_
  go_wp2_with fail
  go_ret
  exact ⟨by rw [HV.out]; rfl, hHeld.1⟩

set_option maxRecDepth 100000 in
set_option maxHeartbeats 20000000 in
theorem r17_p0 (m : Mst) (w : World) (hk : m.k = 7) (hf0 : 0 ≤ m.f) (hf1 : m.f ≤ 255) (hf : m.pn < 0) (HV : Hid (rightB m = false)) : Calls Tryd.prog 32 #[.agg m.row] w fun e w' => e = .returned (.bool (rightB m)) ∧ Below w.heap.size w w' := by
  have H0 : Hid (Below w.heap.size w (w.alloc (.cells m.row 45)) ∧ Blk (w.alloc (.cells m.row 45)) w.heap.size m.row) := Lib.hid ⟨(Below.refl _ _).alloc (Nat.le_refl _) _, Blk.new _ _ _ _ rfl⟩
  have HK := Lib.hid hk
  clear hk
  go_enter Tryd.func32, Tryd.ntmps32
  go_wp2_with fail
  refine wp_region_noPanic ?_
  refine wp_region_held_drew (S := fun W => Below w.heap.size w W ∧ Blk W w.heap.size m.row) (by kernel_rfl) (show Below w.heap.size w (w.alloc (.cells m.row 45)).drew ∧ Blk (w.alloc (.cells m.row 45)).drew w.heap.size m.row from ⟨H0.out.1.trans ⟨rfl, rfl, rfl, Nat.le_refl _, fun _ _ => rfl⟩, H0.out.2.later ⟨rfl, rfl, rfl, Nat.le_refl _, fun _ _ => rfl⟩⟩) (fun hHeld => ?_)
  generalize (w.alloc (.cells m.row 45)).drew = w2 at *
  refine wpAnyH_take (i := 0) (oi := { dst := some 5, op := _, type := _, pos := _, after := _, guard := _ }) (v := ?_) rfl (by kernel_rfl) (by kernel_rfl) (by kernel_rfl) (fun _ _ _ h => h) (Or.inl ⟨by rfl, ?_⟩) hHeld ?_
  rotate_left
  · intro W hSw
    have d0 : W.cell? ⟨w.heap.size, 0, none⟩ = some (.int .i64 7) := by rw [← HK.out]; exact (hSw.2.2 0 _ rfl).1
    have d1 : W.cell? ⟨w.heap.size, 1, none⟩ = some (.int .i64 m.f) := (hSw.2.2 1 _ rfl).1
    have d9 : W.cell? ⟨w.heap.size, 9, none⟩ = some (.int .i64 m.pn) := (hSw.2.2 9 _ rfl).1
    go_simp
    first | done | rfl
  try simp only [Act.put, List.setIfInBounds_toArray, List.set_cons_zero, List.set_cons_succ]
  refine wpAnyH_take (i := 1) (oi := { dst := some 6, op := _, type := _, pos := _, after := _, guard := _ }) (v := ?_) rfl (by kernel_rfl) (by kernel_rfl) (by kernel_rfl) (fun _ _ _ h => h) (Or.inl ⟨by rfl, ?_⟩) hHeld ?_
  rotate_left
  · intro W hSw
    have d0 : W.cell? ⟨w.heap.size, 0, none⟩ = some (.int .i64 7) := by rw [← HK.out]; exact (hSw.2.2 0 _ rfl).1
    have d1 : W.cell? ⟨w.heap.size, 1, none⟩ = some (.int .i64 m.f) := (hSw.2.2 1 _ rfl).1
    have d9 : W.cell? ⟨w.heap.size, 9, none⟩ = some (.int .i64 m.pn) := (hSw.2.2 9 _ rfl).1
    go_simp
    first | done | rfl
  try simp only [Act.put, List.setIfInBounds_toArray, List.set_cons_zero, List.set_cons_succ]
  refine wpAnyH_take (i := 2) (oi := { dst := some 7, op := _, type := _, pos := _, after := _, guard := _ }) (v := ?_) rfl (by kernel_rfl) (by kernel_rfl) (by kernel_rfl) (fun _ _ _ h => h) (Or.inl ⟨by rfl, ?_⟩) hHeld ?_
  rotate_left
  · intro W hSw
    have d0 : W.cell? ⟨w.heap.size, 0, none⟩ = some (.int .i64 7) := by rw [← HK.out]; exact (hSw.2.2 0 _ rfl).1
    have d1 : W.cell? ⟨w.heap.size, 1, none⟩ = some (.int .i64 m.f) := (hSw.2.2 1 _ rfl).1
    have d9 : W.cell? ⟨w.heap.size, 9, none⟩ = some (.int .i64 m.pn) := (hSw.2.2 9 _ rfl).1
    go_simp
    first | done | rfl
  try simp only [Act.put, List.setIfInBounds_toArray, List.set_cons_zero, List.set_cons_succ]
  refine wpAnyH_take (i := 3) (oi := { dst := some 8, op := _, type := _, pos := _, after := _, guard := _ }) (v := ?_) rfl (by kernel_rfl) (by kernel_rfl) (by kernel_rfl) (fun _ _ _ h => h) (Or.inl ⟨by rfl, ?_⟩) hHeld ?_
  rotate_left
  · intro W hSw
    have d0 : W.cell? ⟨w.heap.size, 0, none⟩ = some (.int .i64 7) := by rw [← HK.out]; exact (hSw.2.2 0 _ rfl).1
    have d1 : W.cell? ⟨w.heap.size, 1, none⟩ = some (.int .i64 m.f) := (hSw.2.2 1 _ rfl).1
    have d9 : W.cell? ⟨w.heap.size, 9, none⟩ = some (.int .i64 m.pn) := (hSw.2.2 9 _ rfl).1
    go_simp
    first | done | rfl
  try simp only [Act.put, List.setIfInBounds_toArray, List.set_cons_zero, List.set_cons_succ]
  refine wpAnyH_take (i := 4) (oi := { dst := some 9, op := _, type := _, pos := _, after := _, guard := _ }) (v := ?_) rfl (by kernel_rfl) (by kernel_rfl) (by kernel_rfl) (fun _ _ _ h => h) (Or.inl ⟨by rfl, ?_⟩) hHeld ?_
  rotate_left
  · intro W hSw
    have d0 : W.cell? ⟨w.heap.size, 0, none⟩ = some (.int .i64 7) := by rw [← HK.out]; exact (hSw.2.2 0 _ rfl).1
    have d1 : W.cell? ⟨w.heap.size, 1, none⟩ = some (.int .i64 m.f) := (hSw.2.2 1 _ rfl).1
    have d9 : W.cell? ⟨w.heap.size, 9, none⟩ = some (.int .i64 m.pn) := (hSw.2.2 9 _ rfl).1
    go_simp
    first | done | rfl
  try simp only [Act.put, List.setIfInBounds_toArray, List.set_cons_zero, List.set_cons_succ]
  refine wpAnyH_take (i := 5) (oi := { dst := some 10, op := _, type := _, pos := _, after := _, guard := _ }) (v := ?_) rfl (by kernel_rfl) (by kernel_rfl) (by kernel_rfl) (fun _ _ _ h => h) (Or.inl ⟨by rfl, ?_⟩) hHeld ?_
  rotate_left
  · intro W hSw
    have d0 : W.cell? ⟨w.heap.size, 0, none⟩ = some (.int .i64 7) := by rw [← HK.out]; exact (hSw.2.2 0 _ rfl).1
    have d1 : W.cell? ⟨w.heap.size, 1, none⟩ = some (.int .i64 m.f) := (hSw.2.2 1 _ rfl).1
    have d9 : W.cell? ⟨w.heap.size, 9, none⟩ = some (.int .i64 m.pn) := (hSw.2.2 9 _ rfl).1
    go_simp
    first | done | rfl
  try simp only [Act.put, List.setIfInBounds_toArray, List.set_cons_zero, List.set_cons_succ]
  refine wpAnyH_take (i := 6) (oi := { dst := some 11, op := _, type := _, pos := _, after := _, guard := _ }) (v := ?_) rfl (by kernel_rfl) (by kernel_rfl) (by kernel_rfl) (fun _ _ _ h => h) (Or.inl ⟨by rfl, ?_⟩) hHeld ?_
  rotate_left
  · intro W hSw
    have d0 : W.cell? ⟨w.heap.size, 0, none⟩ = some (.int .i64 7) := by rw [← HK.out]; exact (hSw.2.2 0 _ rfl).1
    have d1 : W.cell? ⟨w.heap.size, 1, none⟩ = some (.int .i64 m.f) := (hSw.2.2 1 _ rfl).1
    have d9 : W.cell? ⟨w.heap.size, 9, none⟩ = some (.int .i64 m.pn) := (hSw.2.2 9 _ rfl).1
    go_simp
    first | done | rfl
  try simp only [Act.put, List.setIfInBounds_toArray, List.set_cons_zero, List.set_cons_succ]
  refine wpAnyH_take (i := 7) (oi := { dst := some 12, op := _, type := _, pos := _, after := _, guard := _ }) (v := ?_) rfl (by kernel_rfl) (by kernel_rfl) (by kernel_rfl) (fun _ _ _ h => h) (Or.inl ⟨by rfl, ?_⟩) hHeld ?_
  rotate_left
  · intro W hSw
    have d0 : W.cell? ⟨w.heap.size, 0, none⟩ = some (.int .i64 7) := by rw [← HK.out]; exact (hSw.2.2 0 _ rfl).1
    have d1 : W.cell? ⟨w.heap.size, 1, none⟩ = some (.int .i64 m.f) := (hSw.2.2 1 _ rfl).1
    have d9 : W.cell? ⟨w.heap.size, 9, none⟩ = some (.int .i64 m.pn) := (hSw.2.2 9 _ rfl).1
    go_simp
    first | done | rfl
  try simp only [Act.put, List.setIfInBounds_toArray, List.set_cons_zero, List.set_cons_succ]
  refine wpAnyH_take (i := 8) (oi := { dst := some 13, op := _, type := _, pos := _, after := _, guard := _ }) (v := ?_) rfl (by kernel_rfl) (by kernel_rfl) (by kernel_rfl) (fun _ _ _ h => h) (Or.inl ⟨by rfl, ?_⟩) hHeld ?_
  rotate_left
  · intro W hSw
    have d0 : W.cell? ⟨w.heap.size, 0, none⟩ = some (.int .i64 7) := by rw [← HK.out]; exact (hSw.2.2 0 _ rfl).1
    have d1 : W.cell? ⟨w.heap.size, 1, none⟩ = some (.int .i64 m.f) := (hSw.2.2 1 _ rfl).1
    have d9 : W.cell? ⟨w.heap.size, 9, none⟩ = some (.int .i64 m.pn) := (hSw.2.2 9 _ rfl).1
    go_simp
    first | done | rfl
  try simp only [Act.put, List.setIfInBounds_toArray, List.set_cons_zero, List.set_cons_succ]
  refine wpAnyH_take (i := 9) (oi := { dst := some 14, op := _, type := _, pos := _, after := _, guard := _ }) (v := ?_) rfl (by kernel_rfl) (by kernel_rfl) (by kernel_rfl) (fun _ _ _ h => h) (Or.inl ⟨by rfl, ?_⟩) hHeld ?_
  rotate_left
  · intro W hSw
    have d0 : W.cell? ⟨w.heap.size, 0, none⟩ = some (.int .i64 7) := by rw [← HK.out]; exact (hSw.2.2 0 _ rfl).1
    have d1 : W.cell? ⟨w.heap.size, 1, none⟩ = some (.int .i64 m.f) := (hSw.2.2 1 _ rfl).1
    have d9 : W.cell? ⟨w.heap.size, 9, none⟩ = some (.int .i64 m.pn) := (hSw.2.2 9 _ rfl).1
    go_simp
    first | done | rfl
  try simp only [Act.put, List.setIfInBounds_toArray, List.set_cons_zero, List.set_cons_succ]
  refine wpAnyH_take (i := 10) (oi := { dst := some 15, op := _, type := _, pos := _, after := _, guard := _ }) (v := ?_) rfl (by kernel_rfl) (by kernel_rfl) (by kernel_rfl) (fun _ _ _ h => h) (Or.inl ⟨by rfl, ?_⟩) hHeld ?_
  rotate_left
  · intro W hSw
    have d0 : W.cell? ⟨w.heap.size, 0, none⟩ = some (.int .i64 7) := by rw [← HK.out]; exact (hSw.2.2 0 _ rfl).1
    have d1 : W.cell? ⟨w.heap.size, 1, none⟩ = some (.int .i64 m.f) := (hSw.2.2 1 _ rfl).1
    have d9 : W.cell? ⟨w.heap.size, 9, none⟩ = some (.int .i64 m.pn) := (hSw.2.2 9 _ rfl).1
    go_simp
    first | done | rfl
  try simp only [Act.put, List.setIfInBounds_toArray, List.set_cons_zero, List.set_cons_succ]
  refine wpAnyH_take (i := 11) (oi := { dst := some 16, op := _, type := _, pos := _, after := _, guard := _ }) (v := .bool false) rfl (by kernel_rfl) (by kernel_rfl) (by kernel_rfl) (fun _ _ _ h => h) (Or.inl ⟨by rfl, ?_⟩) hHeld ?_
  · intro W hSw
    have d0 : W.cell? ⟨w.heap.size, 0, none⟩ = some (.int .i64 7) := by rw [← HK.out]; exact (hSw.2.2 0 _ rfl).1
    have d1 : W.cell? ⟨w.heap.size, 1, none⟩ = some (.int .i64 m.f) := (hSw.2.2 1 _ rfl).1
    have d9 : W.cell? ⟨w.heap.size, 9, none⟩ = some (.int .i64 m.pn) := (hSw.2.2 9 _ rfl).1
    go_simp
    first | done | rfl | (rw [decide_eq_false (by omega)]) | (simp only [decide_eq_false_iff]; omega)
  try simp only [Act.put, List.setIfInBounds_toArray, List.set_cons_zero, List.set_cons_succ]
  refine wpAnyH_take (i := 12) (oi := { dst := some 17, op := _, type := _, pos := _, after := _, guard := _ }) (v := ?_) rfl (by kernel_rfl) (by kernel_rfl) (by kernel_rfl) (fun _ _ _ h => h) (Or.inl ⟨by rfl, ?_⟩) hHeld ?_
  rotate_left
  · intro W hSw
    have d0 : W.cell? ⟨w.heap.size, 0, none⟩ = some (.int .i64 7) := by rw [← HK.out]; exact (hSw.2.2 0 _ rfl).1
    have d1 : W.cell? ⟨w.heap.size, 1, none⟩ = some (.int .i64 m.f) := (hSw.2.2 1 _ rfl).1
    have d9 : W.cell? ⟨w.heap.size, 9, none⟩ = some (.int .i64 m.pn) := (hSw.2.2 9 _ rfl).1
    go_simp
    first | done | rfl
  try simp only [Act.put, List.setIfInBounds_toArray, List.set_cons_zero, List.set_cons_succ]
  refine wpAnyH_take (i := 13) (oi := { dst := some 18, op := _, type := _, pos := _, after := _, guard := _ }) (v := ?_) rfl (by kernel_rfl) (by kernel_rfl) (by kernel_rfl) (fun _ _ _ h => h) (Or.inl ⟨by rfl, ?_⟩) hHeld ?_
  rotate_left
  · intro W hSw
    have d0 : W.cell? ⟨w.heap.size, 0, none⟩ = some (.int .i64 7) := by rw [← HK.out]; exact (hSw.2.2 0 _ rfl).1
    have d1 : W.cell? ⟨w.heap.size, 1, none⟩ = some (.int .i64 m.f) := (hSw.2.2 1 _ rfl).1
    have d9 : W.cell? ⟨w.heap.size, 9, none⟩ = some (.int .i64 m.pn) := (hSw.2.2 9 _ rfl).1
    go_simp
    first | done | rfl
  try simp only [Act.put, List.setIfInBounds_toArray, List.set_cons_zero, List.set_cons_succ]
  refine wpAnyH_take (i := 14) (oi := { dst := some 19, op := _, type := _, pos := _, after := _, guard := _ }) (v := ?_) rfl (by kernel_rfl) (by kernel_rfl) (by kernel_rfl) (fun _ _ _ h => h) (Or.inl ⟨by rfl, ?_⟩) hHeld ?_
  rotate_left
  · intro W hSw
    have d0 : W.cell? ⟨w.heap.size, 0, none⟩ = some (.int .i64 7) := by rw [← HK.out]; exact (hSw.2.2 0 _ rfl).1
    have d1 : W.cell? ⟨w.heap.size, 1, none⟩ = some (.int .i64 m.f) := (hSw.2.2 1 _ rfl).1
    have d9 : W.cell? ⟨w.heap.size, 9, none⟩ = some (.int .i64 m.pn) := (hSw.2.2 9 _ rfl).1
    go_simp
    first | done | rfl
  try simp only [Act.put, List.setIfInBounds_toArray, List.set_cons_zero, List.set_cons_succ]
  refine wpAnyH_take (i := 15) (oi := { dst := some 20, op := _, type := _, pos := _, after := _, guard := _ }) (v := ?_) rfl (by kernel_rfl) (by kernel_rfl) (by kernel_rfl) (fun _ _ _ h => h) (Or.inl ⟨by rfl, ?_⟩) hHeld ?_
  rotate_left
  · intro W hSw
    have d0 : W.cell? ⟨w.heap.size, 0, none⟩ = some (.int .i64 7) := by rw [← HK.out]; exact (hSw.2.2 0 _ rfl).1
    have d1 : W.cell? ⟨w.heap.size, 1, none⟩ = some (.int .i64 m.f) := (hSw.2.2 1 _ rfl).1
    have d9 : W.cell? ⟨w.heap.size, 9, none⟩ = some (.int .i64 m.pn) := (hSw.2.2 9 _ rfl).1
    go_simp
    first | done | rfl
  try simp only [Act.put, List.setIfInBounds_toArray, List.set_cons_zero, List.set_cons_succ]
  refine wpAnyH_take (i := 16) (oi := { dst := some 21, op := _, type := _, pos := _, after := _, guard := _ }) (v := .bool false) rfl (by kernel_rfl) (by kernel_rfl) (by kernel_rfl) (fun _ _ _ h => h) (Or.inl ⟨by rfl, ?_⟩) hHeld ?_
  · intro W hSw
    have d0 : W.cell? ⟨w.heap.size, 0, none⟩ = some (.int .i64 7) := by rw [← HK.out]; exact (hSw.2.2 0 _ rfl).1
    have d1 : W.cell? ⟨w.heap.size, 1, none⟩ = some (.int .i64 m.f) := (hSw.2.2 1 _ rfl).1
    have d9 : W.cell? ⟨w.heap.size, 9, none⟩ = some (.int .i64 m.pn) := (hSw.2.2 9 _ rfl).1
    go_simp
    first | done | rfl | (rw [decide_eq_false (by omega)]) | (simp only [decide_eq_false_iff]; omega)
  try simp only [Act.put, List.setIfInBounds_toArray, List.set_cons_zero, List.set_cons_succ]
  refine wpAnyH_take (i := 17) (oi := { dst := some 22, op := _, type := _, pos := _, after := _, guard := _ }) (v := ?_) rfl (by kernel_rfl) (by kernel_rfl) (by kernel_rfl) (fun _ _ _ h => h) (Or.inl ⟨by rfl, ?_⟩) hHeld ?_
  rotate_left
  · intro W hSw
    have d0 : W.cell? ⟨w.heap.size, 0, none⟩ = some (.int .i64 7) := by rw [← HK.out]; exact (hSw.2.2 0 _ rfl).1
    have d1 : W.cell? ⟨w.heap.size, 1, none⟩ = some (.int .i64 m.f) := (hSw.2.2 1 _ rfl).1
    have d9 : W.cell? ⟨w.heap.size, 9, none⟩ = some (.int .i64 m.pn) := (hSw.2.2 9 _ rfl).1
    go_simp
    first | done | rfl
  try simp only [Act.put, List.setIfInBounds_toArray, List.set_cons_zero, List.set_cons_succ]
  refine wpAnyH_take (i := 18) (oi := { dst := some 23, op := _, type := _, pos := _, after := _, guard := _ }) (v := ?_) rfl (by kernel_rfl) (by kernel_rfl) (by kernel_rfl) (fun _ _ _ h => h) (Or.inl ⟨by rfl, ?_⟩) hHeld ?_
  rotate_left
  · intro W hSw
    have d0 : W.cell? ⟨w.heap.size, 0, none⟩ = some (.int .i64 7) := by rw [← HK.out]; exact (hSw.2.2 0 _ rfl).1
    have d1 : W.cell? ⟨w.heap.size, 1, none⟩ = some (.int .i64 m.f) := (hSw.2.2 1 _ rfl).1
    have d9 : W.cell? ⟨w.heap.size, 9, none⟩ = some (.int .i64 m.pn) := (hSw.2.2 9 _ rfl).1
    go_simp
    first | done | rfl
  try simp only [Act.put, List.setIfInBounds_toArray, List.set_cons_zero, List.set_cons_succ]
  refine wpAnyH_take (i := 19) (oi := { dst := some 24, op := _, type := _, pos := _, after := _, guard := _ }) (v := ?_) rfl (by kernel_rfl) (by kernel_rfl) (by kernel_rfl) (fun _ _ _ h => h) (Or.inl ⟨by rfl, ?_⟩) hHeld ?_
  rotate_left
  · intro W hSw
    have d0 : W.cell? ⟨w.heap.size, 0, none⟩ = some (.int .i64 7) := by rw [← HK.out]; exact (hSw.2.2 0 _ rfl).1
    have d1 : W.cell? ⟨w.heap.size, 1, none⟩ = some (.int .i64 m.f) := (hSw.2.2 1 _ rfl).1
    have d9 : W.cell? ⟨w.heap.size, 9, none⟩ = some (.int .i64 m.pn) := (hSw.2.2 9 _ rfl).1
    go_simp
    first | done | rfl
  try simp only [Act.put, List.setIfInBounds_toArray, List.set_cons_zero, List.set_cons_succ]
  refine wpAnyH_take (i := 20) (oi := { dst := some 25, op := _, type := _, pos := _, after := _, guard := _ }) (v := ?_) rfl (by kernel_rfl) (by kernel_rfl) (by kernel_rfl) (fun _ _ _ h => h) (Or.inl ⟨by rfl, ?_⟩) hHeld ?_
  rotate_left
  · intro W hSw
    have d0 : W.cell? ⟨w.heap.size, 0, none⟩ = some (.int .i64 7) := by rw [← HK.out]; exact (hSw.2.2 0 _ rfl).1
    have d1 : W.cell? ⟨w.heap.size, 1, none⟩ = some (.int .i64 m.f) := (hSw.2.2 1 _ rfl).1
    have d9 : W.cell? ⟨w.heap.size, 9, none⟩ = some (.int .i64 m.pn) := (hSw.2.2 9 _ rfl).1
    go_simp
    first | done | rfl
  try simp only [Act.put, List.setIfInBounds_toArray, List.set_cons_zero, List.set_cons_succ]
  refine wpAnyH_take (i := 21) (oi := { dst := some 26, op := _, type := _, pos := _, after := _, guard := _ }) (v := .bool true) rfl (by kernel_rfl) (by kernel_rfl) (by kernel_rfl) (fun _ _ _ h => h) (Or.inl ⟨by rfl, ?_⟩) hHeld ?_
  · intro W hSw
    have d0 : W.cell? ⟨w.heap.size, 0, none⟩ = some (.int .i64 7) := by rw [← HK.out]; exact (hSw.2.2 0 _ rfl).1
    have d1 : W.cell? ⟨w.heap.size, 1, none⟩ = some (.int .i64 m.f) := (hSw.2.2 1 _ rfl).1
    have d9 : W.cell? ⟨w.heap.size, 9, none⟩ = some (.int .i64 m.pn) := (hSw.2.2 9 _ rfl).1
    go_simp
    first | done | rfl | (rw [decide_eq_true (by omega)]) | (simp only [decide_eq_true_iff]; omega)
  try simp only [Act.put, List.setIfInBounds_toArray, List.set_cons_zero, List.set_cons_succ]
  refine wpAnyH_take (i := 22) (oi := { dst := some 27, op := _, type := _, pos := _, after := _, guard := _ }) (v := ?_) rfl (by kernel_rfl) (by kernel_rfl) (by kernel_rfl) (fun _ _ _ h => h) (Or.inl ⟨by rfl, ?_⟩) hHeld ?_
  rotate_left
  · intro W hSw
    have d0 : W.cell? ⟨w.heap.size, 0, none⟩ = some (.int .i64 7) := by rw [← HK.out]; exact (hSw.2.2 0 _ rfl).1
    have d1 : W.cell? ⟨w.heap.size, 1, none⟩ = some (.int .i64 m.f) := (hSw.2.2 1 _ rfl).1
    have d9 : W.cell? ⟨w.heap.size, 9, none⟩ = some (.int .i64 m.pn) := (hSw.2.2 9 _ rfl).1
    go_simp
    first | done | rfl
  try simp only [Act.put, List.setIfInBounds_toArray, List.set_cons_zero, List.set_cons_succ]
  refine wpAnyH_take (i := 23) (oi := { dst := some 28, op := _, type := _, pos := _, after := _, guard := _ }) (v := ?_) rfl (by kernel_rfl) (by kernel_rfl) (by kernel_rfl) (fun _ _ _ h => h) (Or.inl ⟨by rfl, ?_⟩) hHeld ?_
  rotate_left
  · intro W hSw
    have d0 : W.cell? ⟨w.heap.size, 0, none⟩ = some (.int .i64 7) := by rw [← HK.out]; exact (hSw.2.2 0 _ rfl).1
    have d1 : W.cell? ⟨w.heap.size, 1, none⟩ = some (.int .i64 m.f) := (hSw.2.2 1 _ rfl).1
    have d9 : W.cell? ⟨w.heap.size, 9, none⟩ = some (.int .i64 m.pn) := (hSw.2.2 9 _ rfl).1
    go_simp
    first | done | rfl
  try simp only [Act.put, List.setIfInBounds_toArray, List.set_cons_zero, List.set_cons_succ]
  refine wpAnyH_take (i := 24) (oi := { dst := some 29, op := _, type := _, pos := _, after := _, guard := _ }) (v := undef) rfl (by kernel_rfl) (by kernel_rfl) (by kernel_rfl) (fun _ _ _ h => h) (Or.inr ⟨by rfl, rfl⟩) hHeld ?_
  try simp only [Act.put, List.setIfInBounds_toArray, List.set_cons_zero, List.set_cons_succ]
  refine wpAnyH_take (i := 25) (oi := { dst := some 30, op := _, type := _, pos := _, after := _, guard := _ }) (v := undef) rfl (by kernel_rfl) (by kernel_rfl) (by kernel_rfl) (fun _ _ _ h => h) (Or.inr ⟨by rfl, rfl⟩) hHeld ?_
  try simp only [Act.put, List.setIfInBounds_toArray, List.set_cons_zero, List.set_cons_succ]
  refine wpAnyH_take (i := 26) (oi := { dst := some 31, op := _, type := _, pos := _, after := _, guard := _ }) (v := undef) rfl (by kernel_rfl) (by kernel_rfl) (by kernel_rfl) (fun _ _ _ h => h) (Or.inr ⟨by rfl, rfl⟩) hHeld ?_
  try simp only [Act.put, List.setIfInBounds_toArray, List.set_cons_zero, List.set_cons_succ]
  refine wpAnyH_take (i := 27) (oi := { dst := some 32, op := _, type := _, pos := _, after := _, guard := _ }) (v := ?_) rfl (by kernel_rfl) (by kernel_rfl) (by kernel_rfl) (fun _ _ _ h => h) (Or.inl ⟨by rfl, ?_⟩) hHeld ?_
  rotate_left
  · intro W hSw
    have d0 : W.cell? ⟨w.heap.size, 0, none⟩ = some (.int .i64 7) := by rw [← HK.out]; exact (hSw.2.2 0 _ rfl).1
    have d1 : W.cell? ⟨w.heap.size, 1, none⟩ = some (.int .i64 m.f) := (hSw.2.2 1 _ rfl).1
    have d9 : W.cell? ⟨w.heap.size, 9, none⟩ = some (.int .i64 m.pn) := (hSw.2.2 9 _ rfl).1
    go_simp
    first | done | rfl
  try simp only [Act.put, List.setIfInBounds_toArray, List.set_cons_zero, List.set_cons_succ]
  refine wpAnyH_take (i := 28) (oi := { dst := some 33, op := _, type := _, pos := _, after := _, guard := _ }) (v := ?_) rfl (by kernel_rfl) (by kernel_rfl) (by kernel_rfl) (fun _ _ _ h => h) (Or.inl ⟨by rfl, ?_⟩) hHeld ?_
  rotate_left
  · intro W hSw
    have d0 : W.cell? ⟨w.heap.size, 0, none⟩ = some (.int .i64 7) := by rw [← HK.out]; exact (hSw.2.2 0 _ rfl).1
    have d1 : W.cell? ⟨w.heap.size, 1, none⟩ = some (.int .i64 m.f) := (hSw.2.2 1 _ rfl).1
    have d9 : W.cell? ⟨w.heap.size, 9, none⟩ = some (.int .i64 m.pn) := (hSw.2.2 9 _ rfl).1
    go_simp
    first | done | rfl
  try simp only [Act.put, List.setIfInBounds_toArray, List.set_cons_zero, List.set_cons_succ]
  refine wpAnyH_take (i := 29) (oi := { dst := some 34, op := _, type := _, pos := _, after := _, guard := _ }) (v := undef) rfl (by kernel_rfl) (by kernel_rfl) (by kernel_rfl) (fun _ _ _ h => h) (Or.inr ⟨by rfl, rfl⟩) hHeld ?_
  try simp only [Act.put, List.setIfInBounds_toArray, List.set_cons_zero, List.set_cons_succ]
  refine wpAnyH_take (i := 30) (oi := { dst := some 35, op := _, type := _, pos := _, after := _, guard := _ }) (v := undef) rfl (by kernel_rfl) (by kernel_rfl) (by kernel_rfl) (fun _ _ _ h => h) (Or.inr ⟨by rfl, rfl⟩) hHeld ?_
  try simp only [Act.put, List.setIfInBounds_toArray, List.set_cons_zero, List.set_cons_succ]
  refine wpAnyH_take (i := 31) (oi := { dst := some 36, op := _, type := _, pos := _, after := _, guard := _ }) (v := undef) rfl (by kernel_rfl) (by kernel_rfl) (by kernel_rfl) (fun _ _ _ h => h) (Or.inr ⟨by rfl, rfl⟩) hHeld ?_
  try simp only [Act.put, List.setIfInBounds_toArray, List.set_cons_zero, List.set_cons_succ]
  refine wpAnyH_take (i := 32) (oi := { dst := some 37, op := _, type := _, pos := _, after := _, guard := _ }) (v := undef) rfl (by kernel_rfl) (by kernel_rfl) (by kernel_rfl) (fun _ _ _ h => h) (Or.inr ⟨by rfl, rfl⟩) hHeld ?_
  try simp only [Act.put, List.setIfInBounds_toArray, List.set_cons_zero, List.set_cons_succ]
  refine wpAnyH_take (i := 33) (oi := { dst := some 38, op := _, type := _, pos := _, after := _, guard := _ }) (v := undef) rfl (by kernel_rfl) (by kernel_rfl) (by kernel_rfl) (fun _ _ _ h => h) (Or.inr ⟨by rfl, rfl⟩) hHeld ?_
  try simp only [Act.put, List.setIfInBounds_toArray, List.set_cons_zero, List.set_cons_succ]
  refine wpAnyH_take (i := 34) (oi := { dst := some 39, op := _, type := _, pos := _, after := _, guard := _ }) (v := ?_) rfl (by kernel_rfl) (by kernel_rfl) (by kernel_rfl) (fun _ _ _ h => h) (Or.inl ⟨by rfl, ?_⟩) hHeld ?_
  rotate_left
  · intro W hSw
    have d0 : W.cell? ⟨w.heap.size, 0, none⟩ = some (.int .i64 7) := by rw [← HK.out]; exact (hSw.2.2 0 _ rfl).1
    have d1 : W.cell? ⟨w.heap.size, 1, none⟩ = some (.int .i64 m.f) := (hSw.2.2 1 _ rfl).1
    have d9 : W.cell? ⟨w.heap.size, 9, none⟩ = some (.int .i64 m.pn) := (hSw.2.2 9 _ rfl).1
    go_simp
    first | done | rfl
  try simp only [Act.put, List.setIfInBounds_toArray, List.set_cons_zero, List.set_cons_succ]
  refine wpAnyH_done (by kernel_rfl) ?_ _
  refine NoPanic.normal ?_
  go_wp2_with fail
  go_ret
  exact ⟨by rw [HV.out]; rfl, hHeld.1⟩

set_option maxRecDepth 100000 in
set_option maxHeartbeats 20000000 in
theorem r17_p1 (m : Mst) (w : World) (hk : m.k = 7) (hf0 : 0 ≤ m.f) (hf1 : m.f ≤ 255) (hp0 : 0 ≤ m.pn) (hf : 255 < m.pn) (HV : Hid (rightB m = false)) : Calls Tryd.prog 32 #[.agg m.row] w fun e w' => e = .returned (.bool (rightB m)) ∧ Below w.heap.size w w' := by
  have H0 : Hid (Below w.heap.size w (w.alloc (.cells m.row 45)) ∧ Blk (w.alloc (.cells m.row 45)) w.heap.size m.row) := Lib.hid ⟨(Below.refl _ _).alloc (Nat.le_refl _) _, Blk.new _ _ _ _ rfl⟩
  have HK := Lib.hid hk
  clear hk
  go_enter Tryd.func32, Tryd.ntmps32
  go_wp2_with fail
  refine wp_region_noPanic ?_
  refine wp_region_held_drew (S := fun W => Below w.heap.size w W ∧ Blk W w.heap.size m.row) (by kernel_rfl) (show Below w.heap.size w (w.alloc (.cells m.row 45)).drew ∧ Blk (w.alloc (.cells m.row 45)).drew w.heap.size m.row from ⟨H0.out.1.trans ⟨rfl, rfl, rfl, Nat.le_refl _, fun _ _ => rfl⟩, H0.out.2.later ⟨rfl, rfl, rfl, Nat.le_refl _, fun _ _ => rfl⟩⟩) (fun hHeld => ?_)
  generalize (w.alloc (.cells m.row 45)).drew = w2 at *
  refine wpAnyH_take (i := 0) (oi := { dst := some 5, op := _, type := _, pos := _, after := _, guard := _ }) (v := ?_) rfl (by kernel_rfl) (by kernel_rfl) (by kernel_rfl) (fun _ _ _ h => h) (Or.inl ⟨by rfl, ?_⟩) hHeld ?_
  rotate_left
  · intro W hSw
    have d0 : W.cell? ⟨w.heap.size, 0, none⟩ = some (.int .i64 7) := by rw [← HK.out]; exact (hSw.2.2 0 _ rfl).1
    have d1 : W.cell? ⟨w.heap.size, 1, none⟩ = some (.int .i64 m.f) := (hSw.2.2 1 _ rfl).1
    have d9 : W.cell? ⟨w.heap.size, 9, none⟩ = some (.int .i64 m.pn) := (hSw.2.2 9 _ rfl).1
    go_simp
    first | done | rfl
  try simp only [Act.put, List.setIfInBounds_toArray, List.set_cons_zero, List.set_cons_succ]
  refine wpAnyH_take (i := 1) (oi := { dst := some 6, op := _, type := _, pos := _, after := _, guard := _ }) (v := ?_) rfl (by kernel_rfl) (by kernel_rfl) (by kernel_rfl) (fun _ _ _ h => h) (Or.inl ⟨by rfl, ?_⟩) hHeld ?_
  rotate_left
  · intro W hSw
    have d0 : W.cell? ⟨w.heap.size, 0, none⟩ = some (.int .i64 7) := by rw [← HK.out]; exact (hSw.2.2 0 _ rfl).1
    have d1 : W.cell? ⟨w.heap.size, 1, none⟩ = some (.int .i64 m.f) := (hSw.2.2 1 _ rfl).1
    have d9 : W.cell? ⟨w.heap.size, 9, none⟩ = some (.int .i64 m.pn) := (hSw.2.2 9 _ rfl).1
    go_simp
    first | done | rfl
  try simp only [Act.put, List.setIfInBounds_toArray, List.set_cons_zero, List.set_cons_succ]
  refine wpAnyH_take (i := 2) (oi := { dst := some 7, op := _, type := _, pos := _, after := _, guard := _ }) (v := ?_) rfl (by kernel_rfl) (by kernel_rfl) (by kernel_rfl) (fun _ _ _ h => h) (Or.inl ⟨by rfl, ?_⟩) hHeld ?_
  rotate_left
  · intro W hSw
    have d0 : W.cell? ⟨w.heap.size, 0, none⟩ = some (.int .i64 7) := by rw [← HK.out]; exact (hSw.2.2 0 _ rfl).1
    have d1 : W.cell? ⟨w.heap.size, 1, none⟩ = some (.int .i64 m.f) := (hSw.2.2 1 _ rfl).1
    have d9 : W.cell? ⟨w.heap.size, 9, none⟩ = some (.int .i64 m.pn) := (hSw.2.2 9 _ rfl).1
    go_simp
    first | done | rfl
  try simp only [Act.put, List.setIfInBounds_toArray, List.set_cons_zero, List.set_cons_succ]
  refine wpAnyH_take (i := 3) (oi := { dst := some 8, op := _, type := _, pos := _, after := _, guard := _ }) (v := ?_) rfl (by kernel_rfl) (by kernel_rfl) (by kernel_rfl) (fun _ _ _ h => h) (Or.inl ⟨by rfl, ?_⟩) hHeld ?_
  rotate_left
  · intro W hSw
    have d0 : W.cell? ⟨w.heap.size, 0, none⟩ = some (.int .i64 7) := by rw [← HK.out]; exact (hSw.2.2 0 _ rfl).1
    have d1 : W.cell? ⟨w.heap.size, 1, none⟩ = some (.int .i64 m.f) := (hSw.2.2 1 _ rfl).1
    have d9 : W.cell? ⟨w.heap.size, 9, none⟩ = some (.int .i64 m.pn) := (hSw.2.2 9 _ rfl).1
    go_simp
    first | done | rfl
  try simp only [Act.put, List.setIfInBounds_toArray, List.set_cons_zero, List.set_cons_succ]
  refine wpAnyH_take (i := 4) (oi := { dst := some 9, op := _, type := _, pos := _, after := _, guard := _ }) (v := ?_) rfl (by kernel_rfl) (by kernel_rfl) (by kernel_rfl) (fun _ _ _ h => h) (Or.inl ⟨by rfl, ?_⟩) hHeld ?_
  rotate_left
  · intro W hSw
    have d0 : W.cell? ⟨w.heap.size, 0, none⟩ = some (.int .i64 7) := by rw [← HK.out]; exact (hSw.2.2 0 _ rfl).1
    have d1 : W.cell? ⟨w.heap.size, 1, none⟩ = some (.int .i64 m.f) := (hSw.2.2 1 _ rfl).1
    have d9 : W.cell? ⟨w.heap.size, 9, none⟩ = some (.int .i64 m.pn) := (hSw.2.2 9 _ rfl).1
    go_simp
    first | done | rfl
  try simp only [Act.put, List.setIfInBounds_toArray, List.set_cons_zero, List.set_cons_succ]
  refine wpAnyH_take (i := 5) (oi := { dst := some 10, op := _, type := _, pos := _, after := _, guard := _ }) (v := ?_) rfl (by kernel_rfl) (by kernel_rfl) (by kernel_rfl) (fun _ _ _ h => h) (Or.inl ⟨by rfl, ?_⟩) hHeld ?_
  rotate_left
  · intro W hSw
    have d0 : W.cell? ⟨w.heap.size, 0, none⟩ = some (.int .i64 7) := by rw [← HK.out]; exact (hSw.2.2 0 _ rfl).1
    have d1 : W.cell? ⟨w.heap.size, 1, none⟩ = some (.int .i64 m.f) := (hSw.2.2 1 _ rfl).1
    have d9 : W.cell? ⟨w.heap.size, 9, none⟩ = some (.int .i64 m.pn) := (hSw.2.2 9 _ rfl).1
    go_simp
    first | done | rfl
  try simp only [Act.put, List.setIfInBounds_toArray, List.set_cons_zero, List.set_cons_succ]
  refine wpAnyH_take (i := 6) (oi := { dst := some 11, op := _, type := _, pos := _, after := _, guard := _ }) (v := ?_) rfl (by kernel_rfl) (by kernel_rfl) (by kernel_rfl) (fun _ _ _ h => h) (Or.inl ⟨by rfl, ?_⟩) hHeld ?_
  rotate_left
  · intro W hSw
    have d0 : W.cell? ⟨w.heap.size, 0, none⟩ = some (.int .i64 7) := by rw [← HK.out]; exact (hSw.2.2 0 _ rfl).1
    have d1 : W.cell? ⟨w.heap.size, 1, none⟩ = some (.int .i64 m.f) := (hSw.2.2 1 _ rfl).1
    have d9 : W.cell? ⟨w.heap.size, 9, none⟩ = some (.int .i64 m.pn) := (hSw.2.2 9 _ rfl).1
    go_simp
    first | done | rfl
  try simp only [Act.put, List.setIfInBounds_toArray, List.set_cons_zero, List.set_cons_succ]
  refine wpAnyH_take (i := 7) (oi := { dst := some 12, op := _, type := _, pos := _, after := _, guard := _ }) (v := ?_) rfl (by kernel_rfl) (by kernel_rfl) (by kernel_rfl) (fun _ _ _ h => h) (Or.inl ⟨by rfl, ?_⟩) hHeld ?_
  rotate_left
  · intro W hSw
    have d0 : W.cell? ⟨w.heap.size, 0, none⟩ = some (.int .i64 7) := by rw [← HK.out]; exact (hSw.2.2 0 _ rfl).1
    have d1 : W.cell? ⟨w.heap.size, 1, none⟩ = some (.int .i64 m.f) := (hSw.2.2 1 _ rfl).1
    have d9 : W.cell? ⟨w.heap.size, 9, none⟩ = some (.int .i64 m.pn) := (hSw.2.2 9 _ rfl).1
    go_simp
    first | done | rfl
  try simp only [Act.put, List.setIfInBounds_toArray, List.set_cons_zero, List.set_cons_succ]
  refine wpAnyH_take (i := 8) (oi := { dst := some 13, op := _, type := _, pos := _, after := _, guard := _ }) (v := ?_) rfl (by kernel_rfl) (by kernel_rfl) (by kernel_rfl) (fun _ _ _ h => h) (Or.inl ⟨by rfl, ?_⟩) hHeld ?_
  rotate_left
  · intro W hSw
    have d0 : W.cell? ⟨w.heap.size, 0, none⟩ = some (.int .i64 7) := by rw [← HK.out]; exact (hSw.2.2 0 _ rfl).1
    have d1 : W.cell? ⟨w.heap.size, 1, none⟩ = some (.int .i64 m.f) := (hSw.2.2 1 _ rfl).1
    have d9 : W.cell? ⟨w.heap.size, 9, none⟩ = some (.int .i64 m.pn) := (hSw.2.2 9 _ rfl).1
    go_simp
    first | done | rfl
  try simp only [Act.put, List.setIfInBounds_toArray, List.set_cons_zero, List.set_cons_succ]
  refine wpAnyH_take (i := 9) (oi := { dst := some 14, op := _, type := _, pos := _, after := _, guard := _ }) (v := ?_) rfl (by kernel_rfl) (by kernel_rfl) (by kernel_rfl) (fun _ _ _ h => h) (Or.inl ⟨by rfl, ?_⟩) hHeld ?_
  rotate_left
  · intro W hSw
    have d0 : W.cell? ⟨w.heap.size, 0, none⟩ = some (.int .i64 7) := by rw [← HK.out]; exact (hSw.2.2 0 _ rfl).1
    have d1 : W.cell? ⟨w.heap.size, 1, none⟩ = some (.int .i64 m.f) := (hSw.2.2 1 _ rfl).1
    have d9 : W.cell? ⟨w.heap.size, 9, none⟩ = some (.int .i64 m.pn) := (hSw.2.2 9 _ rfl).1
    go_simp
    first | done | rfl
  try simp only [Act.put, List.setIfInBounds_toArray, List.set_cons_zero, List.set_cons_succ]
  refine wpAnyH_take (i := 10) (oi := { dst := some 15, op := _, type := _, pos := _, after := _, guard := _ }) (v := ?_) rfl (by kernel_rfl) (by kernel_rfl) (by kernel_rfl) (fun _ _ _ h => h) (Or.inl ⟨by rfl, ?_⟩) hHeld ?_
  rotate_left
  · intro W hSw
    have d0 : W.cell? ⟨w.heap.size, 0, none⟩ = some (.int .i64 7) := by rw [← HK.out]; exact (hSw.2.2 0 _ rfl).1
    have d1 : W.cell? ⟨w.heap.size, 1, none⟩ = some (.int .i64 m.f) := (hSw.2.2 1 _ rfl).1
    have d9 : W.cell? ⟨w.heap.size, 9, none⟩ = some (.int .i64 m.pn) := (hSw.2.2 9 _ rfl).1
    go_simp
    first | done | rfl
  try simp only [Act.put, List.setIfInBounds_toArray, List.set_cons_zero, List.set_cons_succ]
  refine wpAnyH_take (i := 11) (oi := { dst := some 16, op := _, type := _, pos := _, after := _, guard := _ }) (v := .bool false) rfl (by kernel_rfl) (by kernel_rfl) (by kernel_rfl) (fun _ _ _ h => h) (Or.inl ⟨by rfl, ?_⟩) hHeld ?_
  · intro W hSw
    have d0 : W.cell? ⟨w.heap.size, 0, none⟩ = some (.int .i64 7) := by rw [← HK.out]; exact (hSw.2.2 0 _ rfl).1
    have d1 : W.cell? ⟨w.heap.size, 1, none⟩ = some (.int .i64 m.f) := (hSw.2.2 1 _ rfl).1
    have d9 : W.cell? ⟨w.heap.size, 9, none⟩ = some (.int .i64 m.pn) := (hSw.2.2 9 _ rfl).1
    go_simp
    first | done | rfl | (rw [decide_eq_false (by omega)]) | (simp only [decide_eq_false_iff]; omega)
  try simp only [Act.put, List.setIfInBounds_toArray, List.set_cons_zero, List.set_cons_succ]
  refine wpAnyH_take (i := 12) (oi := { dst := some 17, op := _, type := _, pos := _, after := _, guard := _ }) (v := ?_) rfl (by kernel_rfl) (by kernel_rfl) (by kernel_rfl) (fun _ _ _ h => h) (Or.inl ⟨by rfl, ?_⟩) hHeld ?_
  rotate_left
  · intro W hSw
    have d0 : W.cell? ⟨w.heap.size, 0, none⟩ = some (.int .i64 7) := by rw [← HK.out]; exact (hSw.2.2 0 _ rfl).1
    have d1 : W.cell? ⟨w.heap.size, 1, none⟩ = some (.int .i64 m.f) := (hSw.2.2 1 _ rfl).1
    have d9 : W.cell? ⟨w.heap.size, 9, none⟩ = some (.int .i64 m.pn) := (hSw.2.2 9 _ rfl).1
    go_simp
    first | done | rfl
  try simp only [Act.put, List.setIfInBounds_toArray, List.set_cons_zero, List.set_cons_succ]
  refine wpAnyH_take (i := 13) (oi := { dst := some 18, op := _, type := _, pos := _, after := _, guard := _ }) (v := ?_) rfl (by kernel_rfl) (by kernel_rfl) (by kernel_rfl) (fun _ _ _ h => h) (Or.inl ⟨by rfl, ?_⟩) hHeld ?_
  rotate_left
  · intro W hSw
    have d0 : W.cell? ⟨w.heap.size, 0, none⟩ = some (.int .i64 7) := by rw [← HK.out]; exact (hSw.2.2 0 _ rfl).1
    have d1 : W.cell? ⟨w.heap.size, 1, none⟩ = some (.int .i64 m.f) := (hSw.2.2 1 _ rfl).1
    have d9 : W.cell? ⟨w.heap.size, 9, none⟩ = some (.int .i64 m.pn) := (hSw.2.2 9 _ rfl).1
    go_simp
    first | done | rfl
  try simp only [Act.put, List.setIfInBounds_toArray, List.set_cons_zero, List.set_cons_succ]
  refine wpAnyH_take (i := 14) (oi := { dst := some 19, op := _, type := _, pos := _, after := _, guard := _ }) (v := ?_) rfl (by kernel_rfl) (by kernel_rfl) (by kernel_rfl) (fun _ _ _ h => h) (Or.inl ⟨by rfl, ?_⟩) hHeld ?_
  rotate_left
  · intro W hSw
    have d0 : W.cell? ⟨w.heap.size, 0, none⟩ = some (.int .i64 7) := by rw [← HK.out]; exact (hSw.2.2 0 _ rfl).1
    have d1 : W.cell? ⟨w.heap.size, 1, none⟩ = some (.int .i64 m.f) := (hSw.2.2 1 _ rfl).1
    have d9 : W.cell? ⟨w.heap.size, 9, none⟩ = some (.int .i64 m.pn) := (hSw.2.2 9 _ rfl).1
    go_simp
    first | done | rfl
  try simp only [Act.put, List.setIfInBounds_toArray, List.set_cons_zero, List.set_cons_succ]
  refine wpAnyH_take (i := 15) (oi := { dst := some 20, op := _, type := _, pos := _, after := _, guard := _ }) (v := ?_) rfl (by kernel_rfl) (by kernel_rfl) (by kernel_rfl) (fun _ _ _ h => h) (Or.inl ⟨by rfl, ?_⟩) hHeld ?_
  rotate_left
  · intro W hSw
    have d0 : W.cell? ⟨w.heap.size, 0, none⟩ = some (.int .i64 7) := by rw [← HK.out]; exact (hSw.2.2 0 _ rfl).1
    have d1 : W.cell? ⟨w.heap.size, 1, none⟩ = some (.int .i64 m.f) := (hSw.2.2 1 _ rfl).1
    have d9 : W.cell? ⟨w.heap.size, 9, none⟩ = some (.int .i64 m.pn) := (hSw.2.2 9 _ rfl).1
    go_simp
    first | done | rfl
  try simp only [Act.put, List.setIfInBounds_toArray, List.set_cons_zero, List.set_cons_succ]
  refine wpAnyH_take (i := 16) (oi := { dst := some 21, op := _, type := _, pos := _, after := _, guard := _ }) (v := .bool false) rfl (by kernel_rfl) (by kernel_rfl) (by kernel_rfl) (fun _ _ _ h => h) (Or.inl ⟨by rfl, ?_⟩) hHeld ?_
  · intro W hSw
    have d0 : W.cell? ⟨w.heap.size, 0, none⟩ = some (.int .i64 7) := by rw [← HK.out]; exact (hSw.2.2 0 _ rfl).1
    have d1 : W.cell? ⟨w.heap.size, 1, none⟩ = some (.int .i64 m.f) := (hSw.2.2 1 _ rfl).1
    have d9 : W.cell? ⟨w.heap.size, 9, none⟩ = some (.int .i64 m.pn) := (hSw.2.2 9 _ rfl).1
    go_simp
    first | done | rfl | (rw [decide_eq_false (by omega)]) | (simp only [decide_eq_false_iff]; omega)
  try simp only [Act.put, List.setIfInBounds_toArray, List.set_cons_zero, List.set_cons_succ]
  refine wpAnyH_take (i := 17) (oi := { dst := some 22, op := _, type := _, pos := _, after := _, guard := _ }) (v := ?_) rfl (by kernel_rfl) (by kernel_rfl) (by kernel_rfl) (fun _ _ _ h => h) (Or.inl ⟨by rfl, ?_⟩) hHeld ?_
  rotate_left
  · intro W hSw
    have d0 : W.cell? ⟨w.heap.size, 0, none⟩ = some (.int .i64 7) := by rw [← HK.out]; exact (hSw.2.2 0 _ rfl).1
    have d1 : W.cell? ⟨w.heap.size, 1, none⟩ = some (.int .i64 m.f) := (hSw.2.2 1 _ rfl).1
    have d9 : W.cell? ⟨w.heap.size, 9, none⟩ = some (.int .i64 m.pn) := (hSw.2.2 9 _ rfl).1
    go_simp
    first | done | rfl
  try simp only [Act.put, List.setIfInBounds_toArray, List.set_cons_zero, List.set_cons_succ]
  refine wpAnyH_take (i := 18) (oi := { dst := some 23, op := _, type := _, pos := _, after := _, guard := _ }) (v := ?_) rfl (by kernel_rfl) (by kernel_rfl) (by kernel_rfl) (fun _ _ _ h => h) (Or.inl ⟨by rfl, ?_⟩) hHeld ?_
  rotate_left
  · intro W hSw
    have d0 : W.cell? ⟨w.heap.size, 0, none⟩ = some (.int .i64 7) := by rw [← HK.out]; exact (hSw.2.2 0 _ rfl).1
    have d1 : W.cell? ⟨w.heap.size, 1, none⟩ = some (.int .i64 m.f) := (hSw.2.2 1 _ rfl).1
    have d9 : W.cell? ⟨w.heap.size, 9, none⟩ = some (.int .i64 m.pn) := (hSw.2.2 9 _ rfl).1
    go_simp
    first | done | rfl
  try simp only [Act.put, List.setIfInBounds_toArray, List.set_cons_zero, List.set_cons_succ]
  refine wpAnyH_take (i := 19) (oi := { dst := some 24, op := _, type := _, pos := _, after := _, guard := _ }) (v := ?_) rfl (by kernel_rfl) (by kernel_rfl) (by kernel_rfl) (fun _ _ _ h => h) (Or.inl ⟨by rfl, ?_⟩) hHeld ?_
  rotate_left
  · intro W hSw
    have d0 : W.cell? ⟨w.heap.size, 0, none⟩ = some (.int .i64 7) := by rw [← HK.out]; exact (hSw.2.2 0 _ rfl).1
    have d1 : W.cell? ⟨w.heap.size, 1, none⟩ = some (.int .i64 m.f) := (hSw.2.2 1 _ rfl).1
    have d9 : W.cell? ⟨w.heap.size, 9, none⟩ = some (.int .i64 m.pn) := (hSw.2.2 9 _ rfl).1
    go_simp
    first | done | rfl
  try simp only [Act.put, List.setIfInBounds_toArray, List.set_cons_zero, List.set_cons_succ]
  refine wpAnyH_take (i := 20) (oi := { dst := some 25, op := _, type := _, pos := _, after := _, guard := _ }) (v := ?_) rfl (by kernel_rfl) (by kernel_rfl) (by kernel_rfl) (fun _ _ _ h => h) (Or.inl ⟨by rfl, ?_⟩) hHeld ?_
  rotate_left
  · intro W hSw
    have d0 : W.cell? ⟨w.heap.size, 0, none⟩ = some (.int .i64 7) := by rw [← HK.out]; exact (hSw.2.2 0 _ rfl).1
    have d1 : W.cell? ⟨w.heap.size, 1, none⟩ = some (.int .i64 m.f) := (hSw.2.2 1 _ rfl).1
    have d9 : W.cell? ⟨w.heap.size, 9, none⟩ = some (.int .i64 m.pn) := (hSw.2.2 9 _ rfl).1
    go_simp
    first | done | rfl
  try simp only [Act.put, List.setIfInBounds_toArray, List.set_cons_zero, List.set_cons_succ]
  refine wpAnyH_take (i := 21) (oi := { dst := some 26, op := _, type := _, pos := _, after := _, guard := _ }) (v := .bool false) rfl (by kernel_rfl) (by kernel_rfl) (by kernel_rfl) (fun _ _ _ h => h) (Or.inl ⟨by rfl, ?_⟩) hHeld ?_
  · intro W hSw
    have d0 : W.cell? ⟨w.heap.size, 0, none⟩ = some (.int .i64 7) := by rw [← HK.out]; exact (hSw.2.2 0 _ rfl).1
    have d1 : W.cell? ⟨w.heap.size, 1, none⟩ = some (.int .i64 m.f) := (hSw.2.2 1 _ rfl).1
    have d9 : W.cell? ⟨w.heap.size, 9, none⟩ = some (.int .i64 m.pn) := (hSw.2.2 9 _ rfl).1
    go_simp
    first | done | rfl | (rw [decide_eq_false (by omega)]) | (simp only [decide_eq_false_iff]; omega)
  try simp only [Act.put, List.setIfInBounds_toArray, List.set_cons_zero, List.set_cons_succ]
  refine wpAnyH_take (i := 22) (oi := { dst := some 27, op := _, type := _, pos := _, after := _, guard := _ }) (v := ?_) rfl (by kernel_rfl) (by kernel_rfl) (by kernel_rfl) (fun _ _ _ h => h) (Or.inl ⟨by rfl, ?_⟩) hHeld ?_
  rotate_left
  · intro W hSw
    have d0 : W.cell? ⟨w.heap.size, 0, none⟩ = some (.int .i64 7) := by rw [← HK.out]; exact (hSw.2.2 0 _ rfl).1
    have d1 : W.cell? ⟨w.heap.size, 1, none⟩ = some (.int .i64 m.f) := (hSw.2.2 1 _ rfl).1
    have d9 : W.cell? ⟨w.heap.size, 9, none⟩ = some (.int .i64 m.pn) := (hSw.2.2 9 _ rfl).1
    go_simp
    first | done | rfl
  try simp only [Act.put, List.setIfInBounds_toArray, List.set_cons_zero, List.set_cons_succ]
  refine wpAnyH_take (i := 23) (oi := { dst := some 28, op := _, type := _, pos := _, after := _, guard := _ }) (v := ?_) rfl (by kernel_rfl) (by kernel_rfl) (by kernel_rfl) (fun _ _ _ h => h) (Or.inl ⟨by rfl, ?_⟩) hHeld ?_
  rotate_left
  · intro W hSw
    have d0 : W.cell? ⟨w.heap.size, 0, none⟩ = some (.int .i64 7) := by rw [← HK.out]; exact (hSw.2.2 0 _ rfl).1
    have d1 : W.cell? ⟨w.heap.size, 1, none⟩ = some (.int .i64 m.f) := (hSw.2.2 1 _ rfl).1
    have d9 : W.cell? ⟨w.heap.size, 9, none⟩ = some (.int .i64 m.pn) := (hSw.2.2 9 _ rfl).1
    go_simp
    first | done | rfl
  try simp only [Act.put, List.setIfInBounds_toArray, List.set_cons_zero, List.set_cons_succ]
  refine wpAnyH_take (i := 24) (oi := { dst := some 29, op := _, type := _, pos := _, after := _, guard := _ }) (v := ?_) rfl (by kernel_rfl) (by kernel_rfl) (by kernel_rfl) (fun _ _ _ h => h) (Or.inl ⟨by rfl, ?_⟩) hHeld ?_
  rotate_left
  · intro W hSw
    have d0 : W.cell? ⟨w.heap.size, 0, none⟩ = some (.int .i64 7) := by rw [← HK.out]; exact (hSw.2.2 0 _ rfl).1
    have d1 : W.cell? ⟨w.heap.size, 1, none⟩ = some (.int .i64 m.f) := (hSw.2.2 1 _ rfl).1
    have d9 : W.cell? ⟨w.heap.size, 9, none⟩ = some (.int .i64 m.pn) := (hSw.2.2 9 _ rfl).1
    go_simp
    first | done | rfl
  try simp only [Act.put, List.setIfInBounds_toArray, List.set_cons_zero, List.set_cons_succ]
  refine wpAnyH_take (i := 25) (oi := { dst := some 30, op := _, type := _, pos := _, after := _, guard := _ }) (v := ?_) rfl (by kernel_rfl) (by kernel_rfl) (by kernel_rfl) (fun _ _ _ h => h) (Or.inl ⟨by rfl, ?_⟩) hHeld ?_
  rotate_left
  · intro W hSw
    have d0 : W.cell? ⟨w.heap.size, 0, none⟩ = some (.int .i64 7) := by rw [← HK.out]; exact (hSw.2.2 0 _ rfl).1
    have d1 : W.cell? ⟨w.heap.size, 1, none⟩ = some (.int .i64 m.f) := (hSw.2.2 1 _ rfl).1
    have d9 : W.cell? ⟨w.heap.size, 9, none⟩ = some (.int .i64 m.pn) := (hSw.2.2 9 _ rfl).1
    go_simp
    first | done | rfl
  try simp only [Act.put, List.setIfInBounds_toArray, List.set_cons_zero, List.set_cons_succ]
  refine wpAnyH_take (i := 26) (oi := { dst := some 31, op := _, type := _, pos := _, after := _, guard := _ }) (v := .bool true) rfl (by kernel_rfl) (by kernel_rfl) (by kernel_rfl) (fun _ _ _ h => h) (Or.inl ⟨by rfl, ?_⟩) hHeld ?_
  · intro W hSw
    have d0 : W.cell? ⟨w.heap.size, 0, none⟩ = some (.int .i64 7) := by rw [← HK.out]; exact (hSw.2.2 0 _ rfl).1
    have d1 : W.cell? ⟨w.heap.size, 1, none⟩ = some (.int .i64 m.f) := (hSw.2.2 1 _ rfl).1
    have d9 : W.cell? ⟨w.heap.size, 9, none⟩ = some (.int .i64 m.pn) := (hSw.2.2 9 _ rfl).1
    go_simp
    first | done | rfl | (rw [decide_eq_true (by omega)]) | (simp only [decide_eq_true_iff]; omega)
  try simp only [Act.put, List.setIfInBounds_toArray, List.set_cons_zero, List.set_cons_succ]
  refine wpAnyH_take (i := 27) (oi := { dst := some 32, op := _, type := _, pos := _, after := _, guard := _ }) (v := ?_) rfl (by kernel_rfl) (by kernel_rfl) (by kernel_rfl) (fun _ _ _ h => h) (Or.inl ⟨by rfl, ?_⟩) hHeld ?_
  rotate_left
  · intro W hSw
    have d0 : W.cell? ⟨w.heap.size, 0, none⟩ = some (.int .i64 7) := by rw [← HK.out]; exact (hSw.2.2 0 _ rfl).1
    have d1 : W.cell? ⟨w.heap.size, 1, none⟩ = some (.int .i64 m.f) := (hSw.2.2 1 _ rfl).1
    have d9 : W.cell? ⟨w.heap.size, 9, none⟩ = some (.int .i64 m.pn) := (hSw.2.2 9 _ rfl).1
    go_simp
    first | done | rfl
  try simp only [Act.put, List.setIfInBounds_toArray, List.set_cons_zero, List.set_cons_succ]
  refine wpAnyH_take (i := 28) (oi := { dst := some 33, op := _, type := _, pos := _, after := _, guard := _ }) (v := ?_) rfl (by kernel_rfl) (by kernel_rfl) (by kernel_rfl) (fun _ _ _ h => h) (Or.inl ⟨by rfl, ?_⟩) hHeld ?_
  rotate_left
  · intro W hSw
    have d0 : W.cell? ⟨w.heap.size, 0, none⟩ = some (.int .i64 7) := by rw [← HK.out]; exact (hSw.2.2 0 _ rfl).1
    have d1 : W.cell? ⟨w.heap.size, 1, none⟩ = some (.int .i64 m.f) := (hSw.2.2 1 _ rfl).1
    have d9 : W.cell? ⟨w.heap.size, 9, none⟩ = some (.int .i64 m.pn) := (hSw.2.2 9 _ rfl).1
    go_simp
    first | done | rfl
  try simp only [Act.put, List.setIfInBounds_toArray, List.set_cons_zero, List.set_cons_succ]
  refine wpAnyH_take (i := 29) (oi := { dst := some 34, op := _, type := _, pos := _, after := _, guard := _ }) (v := undef) rfl (by kernel_rfl) (by kernel_rfl) (by kernel_rfl) (fun _ _ _ h => h) (Or.inr ⟨by rfl, rfl⟩) hHeld ?_
  try simp only [Act.put, List.setIfInBounds_toArray, List.set_cons_zero, List.set_cons_succ]
  refine wpAnyH_take (i := 30) (oi := { dst := some 35, op := _, type := _, pos := _, after := _, guard := _ }) (v := undef) rfl (by kernel_rfl) (by kernel_rfl) (by kernel_rfl) (fun _ _ _ h => h) (Or.inr ⟨by rfl, rfl⟩) hHeld ?_
  try simp only [Act.put, List.setIfInBounds_toArray, List.set_cons_zero, List.set_cons_succ]
  refine wpAnyH_take (i := 31) (oi := { dst := some 36, op := _, type := _, pos := _, after := _, guard := _ }) (v := undef) rfl (by kernel_rfl) (by kernel_rfl) (by kernel_rfl) (fun _ _ _ h => h) (Or.inr ⟨by rfl, rfl⟩) hHeld ?_
  try simp only [Act.put, List.setIfInBounds_toArray, List.set_cons_zero, List.set_cons_succ]
  refine wpAnyH_take (i := 32) (oi := { dst := some 37, op := _, type := _, pos := _, after := _, guard := _ }) (v := undef) rfl (by kernel_rfl) (by kernel_rfl) (by kernel_rfl) (fun _ _ _ h => h) (Or.inr ⟨by rfl, rfl⟩) hHeld ?_
  try simp only [Act.put, List.setIfInBounds_toArray, List.set_cons_zero, List.set_cons_succ]
  refine wpAnyH_take (i := 33) (oi := { dst := some 38, op := _, type := _, pos := _, after := _, guard := _ }) (v := undef) rfl (by kernel_rfl) (by kernel_rfl) (by kernel_rfl) (fun _ _ _ h => h) (Or.inr ⟨by rfl, rfl⟩) hHeld ?_
  try simp only [Act.put, List.setIfInBounds_toArray, List.set_cons_zero, List.set_cons_succ]
  refine wpAnyH_take (i := 34) (oi := { dst := some 39, op := _, type := _, pos := _, after := _, guard := _ }) (v := ?_) rfl (by kernel_rfl) (by kernel_rfl) (by kernel_rfl) (fun _ _ _ h => h) (Or.inl ⟨by rfl, ?_⟩) hHeld ?_
  rotate_left
  · intro W hSw
    have d0 : W.cell? ⟨w.heap.size, 0, none⟩ = some (.int .i64 7) := by rw [← HK.out]; exact (hSw.2.2 0 _ rfl).1
    have d1 : W.cell? ⟨w.heap.size, 1, none⟩ = some (.int .i64 m.f) := (hSw.2.2 1 _ rfl).1
    have d9 : W.cell? ⟨w.heap.size, 9, none⟩ = some (.int .i64 m.pn) := (hSw.2.2 9 _ rfl).1
    go_simp
    first | done | rfl
  try simp only [Act.put, List.setIfInBounds_toArray, List.set_cons_zero, List.set_cons_succ]
  refine wpAnyH_done (by kernel_rfl) ?_ _
  refine NoPanic.normal ?_
  go_wp2_with fail
  go_ret
  exact ⟨by rw [HV.out]; rfl, hHeld.1⟩

set_option maxRecDepth 100000 in
set_option maxHeartbeats 20000000 in
theorem r17_s0 (m : Mst) (w : World) (hk : m.k = 7) (hin : m.In w) (hf0 : 0 ≤ m.f) (hf1 : m.f ≤ 255) (hp0 : 0 ≤ m.pn) (hp1 : m.pn ≤ 255) (HSB : Hid (sameB m = false)) (HV : Hid (rightB m = false)) : Calls Tryd.prog 32 #[.agg m.row] w fun e w' => e = .returned (.bool (rightB m)) ∧ Below w.heap.size w w' := by
  have HIN := Lib.hid hin
  clear hin
  have H0 : Hid (Below w.heap.size w (w.alloc (.cells m.row 45)) ∧ Blk (w.alloc (.cells m.row 45)) w.heap.size m.row) := Lib.hid ⟨(Below.refl _ _).alloc (Nat.le_refl _) _, Blk.new _ _ _ _ rfl⟩
  have HK := Lib.hid hk
  clear hk
  go_enter Tryd.func32, Tryd.ntmps32
  go_wp2_with fail
  refine wp_region_noPanic ?_
  refine wp_region_held_drew (S := fun W => Below w.heap.size w W ∧ Blk W w.heap.size m.row) (by kernel_rfl) (show Below w.heap.size w (w.alloc (.cells m.row 45)).drew ∧ Blk (w.alloc (.cells m.row 45)).drew w.heap.size m.row from ⟨H0.out.1.trans ⟨rfl, rfl, rfl, Nat.le_refl _, fun _ _ => rfl⟩, H0.out.2.later ⟨rfl, rfl, rfl, Nat.le_refl _, fun _ _ => rfl⟩⟩) (fun hHeld => ?_)
  generalize (w.alloc (.cells m.row 45)).drew = w2 at *
  refine wpAnyH_take (i := 0) (oi := { dst := some 5, op := _, type := _, pos := _, after := _, guard := _ }) (v := ?_) rfl (by kernel_rfl) (by kernel_rfl) (by kernel_rfl) (fun _ _ _ h => h) (Or.inl ⟨by rfl, ?_⟩) hHeld ?_
  rotate_left
  · intro W hSw
    have d0 : W.cell? ⟨w.heap.size, 0, none⟩ = some (.int .i64 7) := by rw [← HK.out]; exact (hSw.2.2 0 _ rfl).1
    have d1 : W.cell? ⟨w.heap.size, 1, none⟩ = some (.int .i64 m.f) := (hSw.2.2 1 _ rfl).1
    have d9 : W.cell? ⟨w.heap.size, 9, none⟩ = some (.int .i64 m.pn) := (hSw.2.2 9 _ rfl).1
    go_simp
    first | done | rfl
  try simp only [Act.put, List.setIfInBounds_toArray, List.set_cons_zero, List.set_cons_succ]
  refine wpAnyH_take (i := 1) (oi := { dst := some 6, op := _, type := _, pos := _, after := _, guard := _ }) (v := ?_) rfl (by kernel_rfl) (by kernel_rfl) (by kernel_rfl) (fun _ _ _ h => h) (Or.inl ⟨by rfl, ?_⟩) hHeld ?_
  rotate_left
  · intro W hSw
    have d0 : W.cell? ⟨w.heap.size, 0, none⟩ = some (.int .i64 7) := by rw [← HK.out]; exact (hSw.2.2 0 _ rfl).1
    have d1 : W.cell? ⟨w.heap.size, 1, none⟩ = some (.int .i64 m.f) := (hSw.2.2 1 _ rfl).1
    have d9 : W.cell? ⟨w.heap.size, 9, none⟩ = some (.int .i64 m.pn) := (hSw.2.2 9 _ rfl).1
    go_simp
    first | done | rfl
  try simp only [Act.put, List.setIfInBounds_toArray, List.set_cons_zero, List.set_cons_succ]
  refine wpAnyH_take (i := 2) (oi := { dst := some 7, op := _, type := _, pos := _, after := _, guard := _ }) (v := ?_) rfl (by kernel_rfl) (by kernel_rfl) (by kernel_rfl) (fun _ _ _ h => h) (Or.inl ⟨by rfl, ?_⟩) hHeld ?_
  rotate_left
  · intro W hSw
    have d0 : W.cell? ⟨w.heap.size, 0, none⟩ = some (.int .i64 7) := by rw [← HK.out]; exact (hSw.2.2 0 _ rfl).1
    have d1 : W.cell? ⟨w.heap.size, 1, none⟩ = some (.int .i64 m.f) := (hSw.2.2 1 _ rfl).1
    have d9 : W.cell? ⟨w.heap.size, 9, none⟩ = some (.int .i64 m.pn) := (hSw.2.2 9 _ rfl).1
    go_simp
    first | done | rfl
  try simp only [Act.put, List.setIfInBounds_toArray, List.set_cons_zero, List.set_cons_succ]
  refine wpAnyH_take (i := 3) (oi := { dst := some 8, op := _, type := _, pos := _, after := _, guard := _ }) (v := ?_) rfl (by kernel_rfl) (by kernel_rfl) (by kernel_rfl) (fun _ _ _ h => h) (Or.inl ⟨by rfl, ?_⟩) hHeld ?_
  rotate_left
  · intro W hSw
    have d0 : W.cell? ⟨w.heap.size, 0, none⟩ = some (.int .i64 7) := by rw [← HK.out]; exact (hSw.2.2 0 _ rfl).1
    have d1 : W.cell? ⟨w.heap.size, 1, none⟩ = some (.int .i64 m.f) := (hSw.2.2 1 _ rfl).1
    have d9 : W.cell? ⟨w.heap.size, 9, none⟩ = some (.int .i64 m.pn) := (hSw.2.2 9 _ rfl).1
    go_simp
    first | done | rfl
  try simp only [Act.put, List.setIfInBounds_toArray, List.set_cons_zero, List.set_cons_succ]
  refine wpAnyH_take (i := 4) (oi := { dst := some 9, op := _, type := _, pos := _, after := _, guard := _ }) (v := ?_) rfl (by kernel_rfl) (by kernel_rfl) (by kernel_rfl) (fun _ _ _ h => h) (Or.inl ⟨by rfl, ?_⟩) hHeld ?_
  rotate_left
  · intro W hSw
    have d0 : W.cell? ⟨w.heap.size, 0, none⟩ = some (.int .i64 7) := by rw [← HK.out]; exact (hSw.2.2 0 _ rfl).1
    have d1 : W.cell? ⟨w.heap.size, 1, none⟩ = some (.int .i64 m.f) := (hSw.2.2 1 _ rfl).1
    have d9 : W.cell? ⟨w.heap.size, 9, none⟩ = some (.int .i64 m.pn) := (hSw.2.2 9 _ rfl).1
    go_simp
    first | done | rfl
  try simp only [Act.put, List.setIfInBounds_toArray, List.set_cons_zero, List.set_cons_succ]
  refine wpAnyH_take (i := 5) (oi := { dst := some 10, op := _, type := _, pos := _, after := _, guard := _ }) (v := ?_) rfl (by kernel_rfl) (by kernel_rfl) (by kernel_rfl) (fun _ _ _ h => h) (Or.inl ⟨by rfl, ?_⟩) hHeld ?_
  rotate_left
  · intro W hSw
    have d0 : W.cell? ⟨w.heap.size, 0, none⟩ = some (.int .i64 7) := by rw [← HK.out]; exact (hSw.2.2 0 _ rfl).1
    have d1 : W.cell? ⟨w.heap.size, 1, none⟩ = some (.int .i64 m.f) := (hSw.2.2 1 _ rfl).1
    have d9 : W.cell? ⟨w.heap.size, 9, none⟩ = some (.int .i64 m.pn) := (hSw.2.2 9 _ rfl).1
    go_simp
    first | done | rfl
  try simp only [Act.put, List.setIfInBounds_toArray, List.set_cons_zero, List.set_cons_succ]
  refine wpAnyH_take (i := 6) (oi := { dst := some 11, op := _, type := _, pos := _, after := _, guard := _ }) (v := ?_) rfl (by kernel_rfl) (by kernel_rfl) (by kernel_rfl) (fun _ _ _ h => h) (Or.inl ⟨by rfl, ?_⟩) hHeld ?_
  rotate_left
  · intro W hSw
    have d0 : W.cell? ⟨w.heap.size, 0, none⟩ = some (.int .i64 7) := by rw [← HK.out]; exact (hSw.2.2 0 _ rfl).1
    have d1 : W.cell? ⟨w.heap.size, 1, none⟩ = some (.int .i64 m.f) := (hSw.2.2 1 _ rfl).1
    have d9 : W.cell? ⟨w.heap.size, 9, none⟩ = some (.int .i64 m.pn) := (hSw.2.2 9 _ rfl).1
    go_simp
    first | done | rfl
  try simp only [Act.put, List.setIfInBounds_toArray, List.set_cons_zero, List.set_cons_succ]
  refine wpAnyH_take (i := 7) (oi := { dst := some 12, op := _, type := _, pos := _, after := _, guard := _ }) (v := ?_) rfl (by kernel_rfl) (by kernel_rfl) (by kernel_rfl) (fun _ _ _ h => h) (Or.inl ⟨by rfl, ?_⟩) hHeld ?_
  rotate_left
  · intro W hSw
    have d0 : W.cell? ⟨w.heap.size, 0, none⟩ = some (.int .i64 7) := by rw [← HK.out]; exact (hSw.2.2 0 _ rfl).1
    have d1 : W.cell? ⟨w.heap.size, 1, none⟩ = some (.int .i64 m.f) := (hSw.2.2 1 _ rfl).1
    have d9 : W.cell? ⟨w.heap.size, 9, none⟩ = some (.int .i64 m.pn) := (hSw.2.2 9 _ rfl).1
    go_simp
    first | done | rfl
  try simp only [Act.put, List.setIfInBounds_toArray, List.set_cons_zero, List.set_cons_succ]
  refine wpAnyH_take (i := 8) (oi := { dst := some 13, op := _, type := _, pos := _, after := _, guard := _ }) (v := ?_) rfl (by kernel_rfl) (by kernel_rfl) (by kernel_rfl) (fun _ _ _ h => h) (Or.inl ⟨by rfl, ?_⟩) hHeld ?_
  rotate_left
  · intro W hSw
    have d0 : W.cell? ⟨w.heap.size, 0, none⟩ = some (.int .i64 7) := by rw [← HK.out]; exact (hSw.2.2 0 _ rfl).1
    have d1 : W.cell? ⟨w.heap.size, 1, none⟩ = some (.int .i64 m.f) := (hSw.2.2 1 _ rfl).1
    have d9 : W.cell? ⟨w.heap.size, 9, none⟩ = some (.int .i64 m.pn) := (hSw.2.2 9 _ rfl).1
    go_simp
    first | done | rfl
  try simp only [Act.put, List.setIfInBounds_toArray, List.set_cons_zero, List.set_cons_succ]
  refine wpAnyH_take (i := 9) (oi := { dst := some 14, op := _, type := _, pos := _, after := _, guard := _ }) (v := ?_) rfl (by kernel_rfl) (by kernel_rfl) (by kernel_rfl) (fun _ _ _ h => h) (Or.inl ⟨by rfl, ?_⟩) hHeld ?_
  rotate_left
  · intro W hSw
    have d0 : W.cell? ⟨w.heap.size, 0, none⟩ = some (.int .i64 7) := by rw [← HK.out]; exact (hSw.2.2 0 _ rfl).1
    have d1 : W.cell? ⟨w.heap.size, 1, none⟩ = some (.int .i64 m.f) := (hSw.2.2 1 _ rfl).1
    have d9 : W.cell? ⟨w.heap.size, 9, none⟩ = some (.int .i64 m.pn) := (hSw.2.2 9 _ rfl).1
    go_simp
    first | done | rfl
  try simp only [Act.put, List.setIfInBounds_toArray, List.set_cons_zero, List.set_cons_succ]
  refine wpAnyH_take (i := 10) (oi := { dst := some 15, op := _, type := _, pos := _, after := _, guard := _ }) (v := ?_) rfl (by kernel_rfl) (by kernel_rfl) (by kernel_rfl) (fun _ _ _ h => h) (Or.inl ⟨by rfl, ?_⟩) hHeld ?_
  rotate_left
  · intro W hSw
    have d0 : W.cell? ⟨w.heap.size, 0, none⟩ = some (.int .i64 7) := by rw [← HK.out]; exact (hSw.2.2 0 _ rfl).1
    have d1 : W.cell? ⟨w.heap.size, 1, none⟩ = some (.int .i64 m.f) := (hSw.2.2 1 _ rfl).1
    have d9 : W.cell? ⟨w.heap.size, 9, none⟩ = some (.int .i64 m.pn) := (hSw.2.2 9 _ rfl).1
    go_simp
    first | done | rfl
  try simp only [Act.put, List.setIfInBounds_toArray, List.set_cons_zero, List.set_cons_succ]
  refine wpAnyH_take (i := 11) (oi := { dst := some 16, op := _, type := _, pos := _, after := _, guard := _ }) (v := .bool false) rfl (by kernel_rfl) (by kernel_rfl) (by kernel_rfl) (fun _ _ _ h => h) (Or.inl ⟨by rfl, ?_⟩) hHeld ?_
  · intro W hSw
    have d0 : W.cell? ⟨w.heap.size, 0, none⟩ = some (.int .i64 7) := by rw [← HK.out]; exact (hSw.2.2 0 _ rfl).1
    have d1 : W.cell? ⟨w.heap.size, 1, none⟩ = some (.int .i64 m.f) := (hSw.2.2 1 _ rfl).1
    have d9 : W.cell? ⟨w.heap.size, 9, none⟩ = some (.int .i64 m.pn) := (hSw.2.2 9 _ rfl).1
    go_simp
    first | done | rfl | (rw [decide_eq_false (by omega)]) | (simp only [decide_eq_false_iff]; omega)
  try simp only [Act.put, List.setIfInBounds_toArray, List.set_cons_zero, List.set_cons_succ]
  refine wpAnyH_take (i := 12) (oi := { dst := some 17, op := _, type := _, pos := _, after := _, guard := _ }) (v := ?_) rfl (by kernel_rfl) (by kernel_rfl) (by kernel_rfl) (fun _ _ _ h => h) (Or.inl ⟨by rfl, ?_⟩) hHeld ?_
  rotate_left
  · intro W hSw
    have d0 : W.cell? ⟨w.heap.size, 0, none⟩ = some (.int .i64 7) := by rw [← HK.out]; exact (hSw.2.2 0 _ rfl).1
    have d1 : W.cell? ⟨w.heap.size, 1, none⟩ = some (.int .i64 m.f) := (hSw.2.2 1 _ rfl).1
    have d9 : W.cell? ⟨w.heap.size, 9, none⟩ = some (.int .i64 m.pn) := (hSw.2.2 9 _ rfl).1
    go_simp
    first | done | rfl
  try simp only [Act.put, List.setIfInBounds_toArray, List.set_cons_zero, List.set_cons_succ]
  refine wpAnyH_take (i := 13) (oi := { dst := some 18, op := _, type := _, pos := _, after := _, guard := _ }) (v := ?_) rfl (by kernel_rfl) (by kernel_rfl) (by kernel_rfl) (fun _ _ _ h => h) (Or.inl ⟨by rfl, ?_⟩) hHeld ?_
  rotate_left
  · intro W hSw
    have d0 : W.cell? ⟨w.heap.size, 0, none⟩ = some (.int .i64 7) := by rw [← HK.out]; exact (hSw.2.2 0 _ rfl).1
    have d1 : W.cell? ⟨w.heap.size, 1, none⟩ = some (.int .i64 m.f) := (hSw.2.2 1 _ rfl).1
    have d9 : W.cell? ⟨w.heap.size, 9, none⟩ = some (.int .i64 m.pn) := (hSw.2.2 9 _ rfl).1
    go_simp
    first | done | rfl
  try simp only [Act.put, List.setIfInBounds_toArray, List.set_cons_zero, List.set_cons_succ]
  refine wpAnyH_take (i := 14) (oi := { dst := some 19, op := _, type := _, pos := _, after := _, guard := _ }) (v := ?_) rfl (by kernel_rfl) (by kernel_rfl) (by kernel_rfl) (fun _ _ _ h => h) (Or.inl ⟨by rfl, ?_⟩) hHeld ?_
  rotate_left
  · intro W hSw
    have d0 : W.cell? ⟨w.heap.size, 0, none⟩ = some (.int .i64 7) := by rw [← HK.out]; exact (hSw.2.2 0 _ rfl).1
    have d1 : W.cell? ⟨w.heap.size, 1, none⟩ = some (.int .i64 m.f) := (hSw.2.2 1 _ rfl).1
    have d9 : W.cell? ⟨w.heap.size, 9, none⟩ = some (.int .i64 m.pn) := (hSw.2.2 9 _ rfl).1
    go_simp
    first | done | rfl
  try simp only [Act.put, List.setIfInBounds_toArray, List.set_cons_zero, List.set_cons_succ]
  refine wpAnyH_take (i := 15) (oi := { dst := some 20, op := _, type := _, pos := _, after := _, guard := _ }) (v := ?_) rfl (by kernel_rfl) (by kernel_rfl) (by kernel_rfl) (fun _ _ _ h => h) (Or.inl ⟨by rfl, ?_⟩) hHeld ?_
  rotate_left
  · intro W hSw
    have d0 : W.cell? ⟨w.heap.size, 0, none⟩ = some (.int .i64 7) := by rw [← HK.out]; exact (hSw.2.2 0 _ rfl).1
    have d1 : W.cell? ⟨w.heap.size, 1, none⟩ = some (.int .i64 m.f) := (hSw.2.2 1 _ rfl).1
    have d9 : W.cell? ⟨w.heap.size, 9, none⟩ = some (.int .i64 m.pn) := (hSw.2.2 9 _ rfl).1
    go_simp
    first | done | rfl
  try simp only [Act.put, List.setIfInBounds_toArray, List.set_cons_zero, List.set_cons_succ]
  refine wpAnyH_take (i := 16) (oi := { dst := some 21, op := _, type := _, pos := _, after := _, guard := _ }) (v := .bool false) rfl (by kernel_rfl) (by kernel_rfl) (by kernel_rfl) (fun _ _ _ h => h) (Or.inl ⟨by rfl, ?_⟩) hHeld ?_
  · intro W hSw
    have d0 : W.cell? ⟨w.heap.size, 0, none⟩ = some (.int .i64 7) := by rw [← HK.out]; exact (hSw.2.2 0 _ rfl).1
    have d1 : W.cell? ⟨w.heap.size, 1, none⟩ = some (.int .i64 m.f) := (hSw.2.2 1 _ rfl).1
    have d9 : W.cell? ⟨w.heap.size, 9, none⟩ = some (.int .i64 m.pn) := (hSw.2.2 9 _ rfl).1
    go_simp
    first | done | rfl | (rw [decide_eq_false (by omega)]) | (simp only [decide_eq_false_iff]; omega)
  try simp only [Act.put, List.setIfInBounds_toArray, List.set_cons_zero, List.set_cons_succ]
  refine wpAnyH_take (i := 17) (oi := { dst := some 22, op := _, type := _, pos := _, after := _, guard := _ }) (v := ?_) rfl (by kernel_rfl) (by kernel_rfl) (by kernel_rfl) (fun _ _ _ h => h) (Or.inl ⟨by rfl, ?_⟩) hHeld ?_
  rotate_left
  · intro W hSw
    have d0 : W.cell? ⟨w.heap.size, 0, none⟩ = some (.int .i64 7) := by rw [← HK.out]; exact (hSw.2.2 0 _ rfl).1
    have d1 : W.cell? ⟨w.heap.size, 1, none⟩ = some (.int .i64 m.f) := (hSw.2.2 1 _ rfl).1
    have d9 : W.cell? ⟨w.heap.size, 9, none⟩ = some (.int .i64 m.pn) := (hSw.2.2 9 _ rfl).1
    go_simp
    first | done | rfl
  try simp only [Act.put, List.setIfInBounds_toArray, List.set_cons_zero, List.set_cons_succ]
  refine wpAnyH_take (i := 18) (oi := { dst := some 23, op := _, type := _, pos := _, after := _, guard := _ }) (v := ?_) rfl (by kernel_rfl) (by kernel_rfl) (by kernel_rfl) (fun _ _ _ h => h) (Or.inl ⟨by rfl, ?_⟩) hHeld ?_
  rotate_left
  · intro W hSw
    have d0 : W.cell? ⟨w.heap.size, 0, none⟩ = some (.int .i64 7) := by rw [← HK.out]; exact (hSw.2.2 0 _ rfl).1
    have d1 : W.cell? ⟨w.heap.size, 1, none⟩ = some (.int .i64 m.f) := (hSw.2.2 1 _ rfl).1
    have d9 : W.cell? ⟨w.heap.size, 9, none⟩ = some (.int .i64 m.pn) := (hSw.2.2 9 _ rfl).1
    go_simp
    first | done | rfl
  try simp only [Act.put, List.setIfInBounds_toArray, List.set_cons_zero, List.set_cons_succ]
  refine wpAnyH_take (i := 19) (oi := { dst := some 24, op := _, type := _, pos := _, after := _, guard := _ }) (v := ?_) rfl (by kernel_rfl) (by kernel_rfl) (by kernel_rfl) (fun _ _ _ h => h) (Or.inl ⟨by rfl, ?_⟩) hHeld ?_
  rotate_left
  · intro W hSw
    have d0 : W.cell? ⟨w.heap.size, 0, none⟩ = some (.int .i64 7) := by rw [← HK.out]; exact (hSw.2.2 0 _ rfl).1
    have d1 : W.cell? ⟨w.heap.size, 1, none⟩ = some (.int .i64 m.f) := (hSw.2.2 1 _ rfl).1
    have d9 : W.cell? ⟨w.heap.size, 9, none⟩ = some (.int .i64 m.pn) := (hSw.2.2 9 _ rfl).1
    go_simp
    first | done | rfl
  try simp only [Act.put, List.setIfInBounds_toArray, List.set_cons_zero, List.set_cons_succ]
  refine wpAnyH_take (i := 20) (oi := { dst := some 25, op := _, type := _, pos := _, after := _, guard := _ }) (v := ?_) rfl (by kernel_rfl) (by kernel_rfl) (by kernel_rfl) (fun _ _ _ h => h) (Or.inl ⟨by rfl, ?_⟩) hHeld ?_
  rotate_left
  · intro W hSw
    have d0 : W.cell? ⟨w.heap.size, 0, none⟩ = some (.int .i64 7) := by rw [← HK.out]; exact (hSw.2.2 0 _ rfl).1
    have d1 : W.cell? ⟨w.heap.size, 1, none⟩ = some (.int .i64 m.f) := (hSw.2.2 1 _ rfl).1
    have d9 : W.cell? ⟨w.heap.size, 9, none⟩ = some (.int .i64 m.pn) := (hSw.2.2 9 _ rfl).1
    go_simp
    first | done | rfl
  try simp only [Act.put, List.setIfInBounds_toArray, List.set_cons_zero, List.set_cons_succ]
  refine wpAnyH_take (i := 21) (oi := { dst := some 26, op := _, type := _, pos := _, after := _, guard := _ }) (v := .bool false) rfl (by kernel_rfl) (by kernel_rfl) (by kernel_rfl) (fun _ _ _ h => h) (Or.inl ⟨by rfl, ?_⟩) hHeld ?_
  · intro W hSw
    have d0 : W.cell? ⟨w.heap.size, 0, none⟩ = some (.int .i64 7) := by rw [← HK.out]; exact (hSw.2.2 0 _ rfl).1
    have d1 : W.cell? ⟨w.heap.size, 1, none⟩ = some (.int .i64 m.f) := (hSw.2.2 1 _ rfl).1
    have d9 : W.cell? ⟨w.heap.size, 9, none⟩ = some (.int .i64 m.pn) := (hSw.2.2 9 _ rfl).1
    go_simp
    first | done | rfl | (rw [decide_eq_false (by omega)]) | (simp only [decide_eq_false_iff]; omega)
  try simp only [Act.put, List.setIfInBounds_toArray, List.set_cons_zero, List.set_cons_succ]
  refine wpAnyH_take (i := 22) (oi := { dst := some 27, op := _, type := _, pos := _, after := _, guard := _ }) (v := ?_) rfl (by kernel_rfl) (by kernel_rfl) (by kernel_rfl) (fun _ _ _ h => h) (Or.inl ⟨by rfl, ?_⟩) hHeld ?_
  rotate_left
  · intro W hSw
    have d0 : W.cell? ⟨w.heap.size, 0, none⟩ = some (.int .i64 7) := by rw [← HK.out]; exact (hSw.2.2 0 _ rfl).1
    have d1 : W.cell? ⟨w.heap.size, 1, none⟩ = some (.int .i64 m.f) := (hSw.2.2 1 _ rfl).1
    have d9 : W.cell? ⟨w.heap.size, 9, none⟩ = some (.int .i64 m.pn) := (hSw.2.2 9 _ rfl).1
    go_simp
    first | done | rfl
  try simp only [Act.put, List.setIfInBounds_toArray, List.set_cons_zero, List.set_cons_succ]
  refine wpAnyH_take (i := 23) (oi := { dst := some 28, op := _, type := _, pos := _, after := _, guard := _ }) (v := ?_) rfl (by kernel_rfl) (by kernel_rfl) (by kernel_rfl) (fun _ _ _ h => h) (Or.inl ⟨by rfl, ?_⟩) hHeld ?_
  rotate_left
  · intro W hSw
    have d0 : W.cell? ⟨w.heap.size, 0, none⟩ = some (.int .i64 7) := by rw [← HK.out]; exact (hSw.2.2 0 _ rfl).1
    have d1 : W.cell? ⟨w.heap.size, 1, none⟩ = some (.int .i64 m.f) := (hSw.2.2 1 _ rfl).1
    have d9 : W.cell? ⟨w.heap.size, 9, none⟩ = some (.int .i64 m.pn) := (hSw.2.2 9 _ rfl).1
    go_simp
    first | done | rfl
  try simp only [Act.put, List.setIfInBounds_toArray, List.set_cons_zero, List.set_cons_succ]
  refine wpAnyH_take (i := 24) (oi := { dst := some 29, op := _, type := _, pos := _, after := _, guard := _ }) (v := ?_) rfl (by kernel_rfl) (by kernel_rfl) (by kernel_rfl) (fun _ _ _ h => h) (Or.inl ⟨by rfl, ?_⟩) hHeld ?_
  rotate_left
  · intro W hSw
    have d0 : W.cell? ⟨w.heap.size, 0, none⟩ = some (.int .i64 7) := by rw [← HK.out]; exact (hSw.2.2 0 _ rfl).1
    have d1 : W.cell? ⟨w.heap.size, 1, none⟩ = some (.int .i64 m.f) := (hSw.2.2 1 _ rfl).1
    have d9 : W.cell? ⟨w.heap.size, 9, none⟩ = some (.int .i64 m.pn) := (hSw.2.2 9 _ rfl).1
    go_simp
    first | done | rfl
  try simp only [Act.put, List.setIfInBounds_toArray, List.set_cons_zero, List.set_cons_succ]
  refine wpAnyH_take (i := 25) (oi := { dst := some 30, op := _, type := _, pos := _, after := _, guard := _ }) (v := ?_) rfl (by kernel_rfl) (by kernel_rfl) (by kernel_rfl) (fun _ _ _ h => h) (Or.inl ⟨by rfl, ?_⟩) hHeld ?_
  rotate_left
  · intro W hSw
    have d0 : W.cell? ⟨w.heap.size, 0, none⟩ = some (.int .i64 7) := by rw [← HK.out]; exact (hSw.2.2 0 _ rfl).1
    have d1 : W.cell? ⟨w.heap.size, 1, none⟩ = some (.int .i64 m.f) := (hSw.2.2 1 _ rfl).1
    have d9 : W.cell? ⟨w.heap.size, 9, none⟩ = some (.int .i64 m.pn) := (hSw.2.2 9 _ rfl).1
    go_simp
    first | done | rfl
  try simp only [Act.put, List.setIfInBounds_toArray, List.set_cons_zero, List.set_cons_succ]
  refine wpAnyH_take (i := 26) (oi := { dst := some 31, op := _, type := _, pos := _, after := _, guard := _ }) (v := .bool false) rfl (by kernel_rfl) (by kernel_rfl) (by kernel_rfl) (fun _ _ _ h => h) (Or.inl ⟨by rfl, ?_⟩) hHeld ?_
  · intro W hSw
    have d0 : W.cell? ⟨w.heap.size, 0, none⟩ = some (.int .i64 7) := by rw [← HK.out]; exact (hSw.2.2 0 _ rfl).1
    have d1 : W.cell? ⟨w.heap.size, 1, none⟩ = some (.int .i64 m.f) := (hSw.2.2 1 _ rfl).1
    have d9 : W.cell? ⟨w.heap.size, 9, none⟩ = some (.int .i64 m.pn) := (hSw.2.2 9 _ rfl).1
    go_simp
    first | done | rfl | (rw [decide_eq_false (by omega)]) | (simp only [decide_eq_false_iff]; omega)
  try simp only [Act.put, List.setIfInBounds_toArray, List.set_cons_zero, List.set_cons_succ]
  refine wpAnyH_take (i := 27) (oi := { dst := some 32, op := _, type := _, pos := _, after := _, guard := _ }) (v := ?_) rfl (by kernel_rfl) (by kernel_rfl) (by kernel_rfl) (fun _ _ _ h => h) (Or.inl ⟨by rfl, ?_⟩) hHeld ?_
  rotate_left
  · intro W hSw
    have d0 : W.cell? ⟨w.heap.size, 0, none⟩ = some (.int .i64 7) := by rw [← HK.out]; exact (hSw.2.2 0 _ rfl).1
    have d1 : W.cell? ⟨w.heap.size, 1, none⟩ = some (.int .i64 m.f) := (hSw.2.2 1 _ rfl).1
    have d9 : W.cell? ⟨w.heap.size, 9, none⟩ = some (.int .i64 m.pn) := (hSw.2.2 9 _ rfl).1
    go_simp
    first | done | rfl
  try simp only [Act.put, List.setIfInBounds_toArray, List.set_cons_zero, List.set_cons_succ]
  refine wpAnyH_take (i := 28) (oi := { dst := some 33, op := _, type := _, pos := _, after := _, guard := _ }) (v := ?_) rfl (by kernel_rfl) (by kernel_rfl) (by kernel_rfl) (fun _ _ _ h => h) (Or.inl ⟨by rfl, ?_⟩) hHeld ?_
  rotate_left
  · intro W hSw
    have d0 : W.cell? ⟨w.heap.size, 0, none⟩ = some (.int .i64 7) := by rw [← HK.out]; exact (hSw.2.2 0 _ rfl).1
    have d1 : W.cell? ⟨w.heap.size, 1, none⟩ = some (.int .i64 m.f) := (hSw.2.2 1 _ rfl).1
    have d9 : W.cell? ⟨w.heap.size, 9, none⟩ = some (.int .i64 m.pn) := (hSw.2.2 9 _ rfl).1
    go_simp
    first | done | rfl
  try simp only [Act.put, List.setIfInBounds_toArray, List.set_cons_zero, List.set_cons_succ]
  refine wpAnyH_take (i := 29) (oi := { dst := some 34, op := _, type := _, pos := _, after := _, guard := _ }) (v := .agg m.row) rfl (by kernel_rfl) (by kernel_rfl) (by kernel_rfl) (fun _ _ _ h => h) (Or.inl ⟨by rfl, ?_⟩) hHeld ?_
  · intro W hSw
    have d0 : W.cell? ⟨w.heap.size, 0, none⟩ = some (.int .i64 7) := by rw [← HK.out]; exact (hSw.2.2 0 _ rfl).1
    have d1 : W.cell? ⟨w.heap.size, 1, none⟩ = some (.int .i64 m.f) := (hSw.2.2 1 _ rfl).1
    have d9 : W.cell? ⟨w.heap.size, 9, none⟩ = some (.int .i64 m.pn) := (hSw.2.2 9 _ rfl).1
    exact exec_load 45 (Operand.tmp 1) rfl rfl (m_load hSw.2)
  try simp only [Act.put, List.setIfInBounds_toArray, List.set_cons_zero, List.set_cons_succ]
  refine wpAnyH_take (i := 30) (oi := { dst := some 35, op := _, type := _, pos := _, after := _, guard := _ }) (v := .agg m.row) rfl (by kernel_rfl) (by kernel_rfl) (by kernel_rfl) (fun _ _ _ h => h) (Or.inl ⟨by rfl, ?_⟩) hHeld ?_
  · intro W hSw
    have d0 : W.cell? ⟨w.heap.size, 0, none⟩ = some (.int .i64 7) := by rw [← HK.out]; exact (hSw.2.2 0 _ rfl).1
    have d1 : W.cell? ⟨w.heap.size, 1, none⟩ = some (.int .i64 m.f) := (hSw.2.2 1 _ rfl).1
    have d9 : W.cell? ⟨w.heap.size, 9, none⟩ = some (.int .i64 m.pn) := (hSw.2.2 9 _ rfl).1
    exact exec_load 45 (Operand.tmp 1) rfl rfl (m_load hSw.2)
  try simp only [Act.put, List.setIfInBounds_toArray, List.set_cons_zero, List.set_cons_succ]
  refine wpAnyH_ready (rs := [31]) (by kernel_rfl) (by simp) ?_
  refine AllReadyH.cons (o := { dst := some 36, op := _, type := _, pos := _, after := _, guard := _ }) rfl (fun K hK => ?_) AllReadyH.nil
  go_simp
  refine (kept_any m _ HK.out).mono ?_
  rintro e wx ⟨rfl, hbx⟩
  have hS1 : Below w.heap.size w wx ∧ Blk wx w.heap.size m.row := ⟨hHeld.1.trans (hbx.mono hHeld.1.size), hHeld.2.later hbx⟩
  clear hbx
  refine hK.out _ _ hS1 (fun _ => ?_)
  clear hK K
  try simp only [Act.put, List.setIfInBounds_toArray, List.set_cons_zero, List.set_cons_succ]
  refine wpAnyH_ready (rs := [32]) (by kernel_rfl) (by simp) ?_
  refine AllReadyH.cons (o := { dst := some 37, op := _, type := _, pos := _, after := _, guard := _ }) rfl (fun K hK => ?_) AllReadyH.nil
  go_simp
  refine (same17_kept m _ HK.out (HIN.out.below hS1.1 (Nat.le_refl _))).mono ?_
  rintro e wx ⟨rfl, hbx⟩
  have hS2 : Below w.heap.size w wx ∧ Blk wx w.heap.size m.row := ⟨hS1.1.trans (hbx.mono hS1.1.size), hS1.2.later hbx⟩
  clear hbx
  rw [HSB.out]
  refine hK.out _ _ hS2 (fun _ => ?_)
  clear hK K
  try simp only [Act.put, List.setIfInBounds_toArray, List.set_cons_zero, List.set_cons_succ]
  refine wpAnyH_take (i := 33) (oi := { dst := some 38, op := _, type := _, pos := _, after := _, guard := _ }) (v := ?_) rfl (by kernel_rfl) (by kernel_rfl) (by kernel_rfl) (fun _ _ _ h => h) (Or.inl ⟨by rfl, ?_⟩) hS2 ?_
  rotate_left
  · intro W hSw
    have d0 : W.cell? ⟨w.heap.size, 0, none⟩ = some (.int .i64 7) := by rw [← HK.out]; exact (hSw.2.2 0 _ rfl).1
    have d1 : W.cell? ⟨w.heap.size, 1, none⟩ = some (.int .i64 m.f) := (hSw.2.2 1 _ rfl).1
    have d9 : W.cell? ⟨w.heap.size, 9, none⟩ = some (.int .i64 m.pn) := (hSw.2.2 9 _ rfl).1
    go_simp
    first | done | rfl
  try simp only [Act.put, List.setIfInBounds_toArray, List.set_cons_zero, List.set_cons_succ]
  refine wpAnyH_take (i := 34) (oi := { dst := some 39, op := _, type := _, pos := _, after := _, guard := _ }) (v := ?_) rfl (by kernel_rfl) (by kernel_rfl) (by kernel_rfl) (fun _ _ _ h => h) (Or.inl ⟨by rfl, ?_⟩) hS2 ?_
  rotate_left
  · intro W hSw
    have d0 : W.cell? ⟨w.heap.size, 0, none⟩ = some (.int .i64 7) := by rw [← HK.out]; exact (hSw.2.2 0 _ rfl).1
    have d1 : W.cell? ⟨w.heap.size, 1, none⟩ = some (.int .i64 m.f) := (hSw.2.2 1 _ rfl).1
    have d9 : W.cell? ⟨w.heap.size, 9, none⟩ = some (.int .i64 m.pn) := (hSw.2.2 9 _ rfl).1
    go_simp
    first | done | rfl
  try simp only [Act.put, List.setIfInBounds_toArray, List.set_cons_zero, List.set_cons_succ]
  refine wpAnyH_done (by kernel_rfl) ?_ _
  refine NoPanic.normal ?_
  go_wp2_with fail
  go_ret
  exact ⟨by rw [HV.out]; rfl, hS2.1⟩

end Go.Proofs.YtpbjjmenkoigjaaDoor

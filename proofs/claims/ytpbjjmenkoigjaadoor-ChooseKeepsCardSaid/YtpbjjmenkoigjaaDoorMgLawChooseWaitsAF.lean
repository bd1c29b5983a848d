/- Right of the reference, of a log that is kept whole. -/
import Derived.Test.YtpbjjmenkoigjaaDoorMgLawChooseWaitsAE
namespace Go.Proofs.YtpbjjmenkoigjaaDoor
open Go.RowKit
set_option linter.unusedVariables false
set_option maxRecDepth 100000 in
set_option maxHeartbeats 40000000 in
theorem r17_yes (m : Mst) (w : World) (hk : m.k = 7) (hin : m.In w) (hf0 : 0 ≤ m.f) (hf1 : m.f ≤ 255) (hp0 : 0 ≤ m.pn) (hp1 : m.pn ≤ 255) (hs : sameP m) : Calls Tryd.prog 32 #[.agg m.row] w fun e w' => e = .returned (.bool (rightB m)) ∧ Below w.heap.size w w' := by
  have HIN := Lib.hid hin
  have HSB : Hid (sameB m = true) := Lib.hid (decide_eq_true hs)
  have HF : Hid (0 ≤ m.f ∧ m.f ≤ 255) := Lib.hid ⟨hf0, hf1⟩
  have HSP := Lib.hid hs
  clear hin hs
  have H0 : Hid (Below w.heap.size w (w.alloc (.cells m.row 45)) ∧ Blk (w.alloc (.cells m.row 45)) w.heap.size m.row) := Lib.hid ⟨(Below.refl _ _).alloc (Nat.le_refl _) _, Blk.new _ _ _ _ rfl⟩
  have HK := Lib.hid hk
  clear hk
  go_enter Tryd.func32, Tryd.ntmps32
  go_wp2_with fail
  refine wp_region_noPanic ?_
  refine wp_region_held_drew (S := fun W => Below w.heap.size w W ∧ Blk W w.heap.size m.row) (by kernel_rfl) (show Below w.heap.size w (w.alloc (.cells m.row 45)).drew ∧ Blk (w.alloc (.cells m.row 45)).drew w.heap.size m.row from ⟨H0.out.1.trans ⟨rfl, rfl, rfl, Nat.le_refl _, fun _ _ => rfl⟩, H0.out.2.later ⟨rfl, rfl, rfl, Nat.le_refl _, fun _ _ => rfl⟩⟩) (fun hHeld => ?_)
  generalize (w.alloc (.cells m.row 45)).drew = w2 at *
  refine wpAnyH_take (i := 0) (oi := { dst := some 5, op := _, type := _, pos := _, after := _, guard := _ }) (v := ?_) rfl (by kernel_rfl) (by kernel_rfl) (by kernel_rfl) (fun _ _ _ h => h) (Or.inl ⟨by rfl, ?_⟩) hHeld ?_
  rotate_left
  · intro W hSw
    have d0 : W.cell? ⟨w.heap.size, 0, none⟩ = some (.int .i64 7) := by rw [← HK.out]; exact (hSw.2.2 0 _ rfl).1
    have d1 : W.cell? ⟨w.heap.size, 1, none⟩ = some (.int .i64 m.f) := (hSw.2.2 1 _ rfl).1
    have d9 : W.cell? ⟨w.heap.size, 9, none⟩ = some (.int .i64 m.pn) := (hSw.2.2 9 _ rfl).1
    go_simp
    first | done | rfl
  try simp only [Act.put, List.setIfInBounds_toArray, List.set_cons_zero, List.set_cons_succ]
  refine wpAnyH_take (i := 1) (oi := { dst := some 6, op := _, type := _, pos := _, after := _, guard := _ }) (v := ?_) rfl (by kernel_rfl) (by kernel_rfl) (by kernel_rfl) (fun _ _ _ h => h) (Or.inl ⟨by rfl, ?_⟩) hHeld ?_
  rotate_left
  · intro W hSw
    have d0 : W.cell? ⟨w.heap.size, 0, none⟩ = some (.int .i64 7) := by rw [← HK.out]; exact (hSw.2.2 0 _ rfl).1
    have d1 : W.cell? ⟨w.heap.size, 1, none⟩ = some (.int .i64 m.f) := (hSw.2.2 1 _ rfl).1
    have d9 : W.cell? ⟨w.heap.size, 9, none⟩ = some (.int .i64 m.pn) := (hSw.2.2 9 _ rfl).1
    go_simp
    first | done | rfl
  try simp only [Act.put, List.setIfInBounds_toArray, List.set_cons_zero, List.set_cons_succ]
  refine wpAnyH_take (i := 2) (oi := { dst := some 7, op := _, type := _, pos := _, after := _, guard := _ }) (v := ?_) rfl (by kernel_rfl) (by kernel_rfl) (by kernel_rfl) (fun _ _ _ h => h) (Or.inl ⟨by rfl, ?_⟩) hHeld ?_
  rotate_left
  · intro W hSw
    have d0 : W.cell? ⟨w.heap.size, 0, none⟩ = some (.int .i64 7) := by rw [← HK.out]; exact (hSw.2.2 0 _ rfl).1
    have d1 : W.cell? ⟨w.heap.size, 1, none⟩ = some (.int .i64 m.f) := (hSw.2.2 1 _ rfl).1
    have d9 : W.cell? ⟨w.heap.size, 9, none⟩ = some (.int .i64 m.pn) := (hSw.2.2 9 _ rfl).1
    go_simp
    first | done | rfl
  try simp only [Act.put, List.setIfInBounds_toArray, List.set_cons_zero, List.set_cons_succ]
  refine wpAnyH_take (i := 3) (oi := { dst := some 8, op := _, type := _, pos := _, after := _, guard := _ }) (v := ?_) rfl (by kernel_rfl) (by kernel_rfl) (by kernel_rfl) (fun _ _ _ h => h) (Or.inl ⟨by rfl, ?_⟩) hHeld ?_
  rotate_left
  · intro W hSw
    have d0 : W.cell? ⟨w.heap.size, 0, none⟩ = some (.int .i64 7) := by rw [← HK.out]; exact (hSw.2.2 0 _ rfl).1
    have d1 : W.cell? ⟨w.heap.size, 1, none⟩ = some (.int .i64 m.f) := (hSw.2.2 1 _ rfl).1
    have d9 : W.cell? ⟨w.heap.size, 9, none⟩ = some (.int .i64 m.pn) := (hSw.2.2 9 _ rfl).1
    go_simp
    first | done | rfl
  try simp only [Act.put, List.setIfInBounds_toArray, List.set_cons_zero, List.set_cons_succ]
  refine wpAnyH_take (i := 4) (oi := { dst := some 9, op := _, type := _, pos := _, after := _, guard := _ }) (v := ?_) rfl (by kernel_rfl) (by kernel_rfl) (by kernel_rfl) (fun _ _ _ h => h) (Or.inl ⟨by rfl, ?_⟩) hHeld ?_
  rotate_left
  · intro W hSw
    have d0 : W.cell? ⟨w.heap.size, 0, none⟩ = some (.int .i64 7) := by rw [← HK.out]; exact (hSw.2.2 0 _ rfl).1
    have d1 : W.cell? ⟨w.heap.size, 1, none⟩ = some (.int .i64 m.f) := (hSw.2.2 1 _ rfl).1
    have d9 : W.cell? ⟨w.heap.size, 9, none⟩ = some (.int .i64 m.pn) := (hSw.2.2 9 _ rfl).1
    go_simp
    first | done | rfl
  try simp only [Act.put, List.setIfInBounds_toArray, List.set_cons_zero, List.set_cons_succ]
  refine wpAnyH_take (i := 5) (oi := { dst := some 10, op := _, type := _, pos := _, after := _, guard := _ }) (v := ?_) rfl (by kernel_rfl) (by kernel_rfl) (by kernel_rfl) (fun _ _ _ h => h) (Or.inl ⟨by rfl, ?_⟩) hHeld ?_
  rotate_left
  · intro W hSw
    have d0 : W.cell? ⟨w.heap.size, 0, none⟩ = some (.int .i64 7) := by rw [← HK.out]; exact (hSw.2.2 0 _ rfl).1
    have d1 : W.cell? ⟨w.heap.size, 1, none⟩ = some (.int .i64 m.f) := (hSw.2.2 1 _ rfl).1
    have d9 : W.cell? ⟨w.heap.size, 9, none⟩ = some (.int .i64 m.pn) := (hSw.2.2 9 _ rfl).1
    go_simp
    first | done | rfl
  try simp only [Act.put, List.setIfInBounds_toArray, List.set_cons_zero, List.set_cons_succ]
  refine wpAnyH_take (i := 6) (oi := { dst := some 11, op := _, type := _, pos := _, after := _, guard := _ }) (v := ?_) rfl (by kernel_rfl) (by kernel_rfl) (by kernel_rfl) (fun _ _ _ h => h) (Or.inl ⟨by rfl, ?_⟩) hHeld ?_
  rotate_left
  · intro W hSw
    have d0 : W.cell? ⟨w.heap.size, 0, none⟩ = some (.int .i64 7) := by rw [← HK.out]; exact (hSw.2.2 0 _ rfl).1
    have d1 : W.cell? ⟨w.heap.size, 1, none⟩ = some (.int .i64 m.f) := (hSw.2.2 1 _ rfl).1
    have d9 : W.cell? ⟨w.heap.size, 9, none⟩ = some (.int .i64 m.pn) := (hSw.2.2 9 _ rfl).1
    go_simp
    first | done | rfl
  try simp only [Act.put, List.setIfInBounds_toArray, List.set_cons_zero, List.set_cons_succ]
  refine wpAnyH_take (i := 7) (oi := { dst := some 12, op := _, type := _, pos := _, after := _, guard := _ }) (v := ?_) rfl (by kernel_rfl) (by kernel_rfl) (by kernel_rfl) (fun _ _ _ h => h) (Or.inl ⟨by rfl, ?_⟩) hHeld ?_
  rotate_left
  · intro W hSw
    have d0 : W.cell? ⟨w.heap.size, 0, none⟩ = some (.int .i64 7) := by rw [← HK.out]; exact (hSw.2.2 0 _ rfl).1
    have d1 : W.cell? ⟨w.heap.size, 1, none⟩ = some (.int .i64 m.f) := (hSw.2.2 1 _ rfl).1
    have d9 : W.cell? ⟨w.heap.size, 9, none⟩ = some (.int .i64 m.pn) := (hSw.2.2 9 _ rfl).1
    go_simp
    first | done | rfl
  try simp only [Act.put, List.setIfInBounds_toArray, List.set_cons_zero, List.set_cons_succ]
  refine wpAnyH_take (i := 8) (oi := { dst := some 13, op := _, type := _, pos := _, after := _, guard := _ }) (v := ?_) rfl (by kernel_rfl) (by kernel_rfl) (by kernel_rfl) (fun _ _ _ h => h) (Or.inl ⟨by rfl, ?_⟩) hHeld ?_
  rotate_left
  · intro W hSw
    have d0 : W.cell? ⟨w.heap.size, 0, none⟩ = some (.int .i64 7) := by rw [← HK.out]; exact (hSw.2.2 0 _ rfl).1
    have d1 : W.cell? ⟨w.heap.size, 1, none⟩ = some (.int .i64 m.f) := (hSw.2.2 1 _ rfl).1
    have d9 : W.cell? ⟨w.heap.size, 9, none⟩ = some (.int .i64 m.pn) := (hSw.2.2 9 _ rfl).1
    go_simp
    first | done | rfl
  try simp only [Act.put, List.setIfInBounds_toArray, List.set_cons_zero, List.set_cons_succ]
  refine wpAnyH_take (i := 9) (oi := { dst := some 14, op := _, type := _, pos := _, after := _, guard := _ }) (v := ?_) rfl (by kernel_rfl) (by kernel_rfl) (by kernel_rfl) (fun _ _ _ h => h) (Or.inl ⟨by rfl, ?_⟩) hHeld ?_
  rotate_left
  · intro W hSw
    have d0 : W.cell? ⟨w.heap.size, 0, none⟩ = some (.int .i64 7) := by rw [← HK.out]; exact (hSw.2.2 0 _ rfl).1
    have d1 : W.cell? ⟨w.heap.size, 1, none⟩ = some (.int .i64 m.f) := (hSw.2.2 1 _ rfl).1
    have d9 : W.cell? ⟨w.heap.size, 9, none⟩ = some (.int .i64 m.pn) := (hSw.2.2 9 _ rfl).1
    go_simp
    first | done | rfl
  try simp only [Act.put, List.setIfInBounds_toArray, List.set_cons_zero, List.set_cons_succ]
  refine wpAnyH_take (i := 10) (oi := { dst := some 15, op := _, type := _, pos := _, after := _, guard := _ }) (v := ?_) rfl (by kernel_rfl) (by kernel_rfl) (by kernel_rfl) (fun _ _ _ h => h) (Or.inl ⟨by rfl, ?_⟩) hHeld ?_
  rotate_left
  · intro W hSw
    have d0 : W.cell? ⟨w.heap.size, 0, none⟩ = some (.int .i64 7) := by rw [← HK.out]; exact (hSw.2.2 0 _ rfl).1
    have d1 : W.cell? ⟨w.heap.size, 1, none⟩ = some (.int .i64 m.f) := (hSw.2.2 1 _ rfl).1
    have d9 : W.cell? ⟨w.heap.size, 9, none⟩ = some (.int .i64 m.pn) := (hSw.2.2 9 _ rfl).1
    go_simp
    first | done | rfl
  try simp only [Act.put, List.setIfInBounds_toArray, List.set_cons_zero, List.set_cons_succ]
  refine wpAnyH_take (i := 11) (oi := { dst := some 16, op := _, type := _, pos := _, after := _, guard := _ }) (v := .bool false) rfl (by kernel_rfl) (by kernel_rfl) (by kernel_rfl) (fun _ _ _ h => h) (Or.inl ⟨by rfl, ?_⟩) hHeld ?_
  · intro W hSw
    have d0 : W.cell? ⟨w.heap.size, 0, none⟩ = some (.int .i64 7) := by rw [← HK.out]; exact (hSw.2.2 0 _ rfl).1
    have d1 : W.cell? ⟨w.heap.size, 1, none⟩ = some (.int .i64 m.f) := (hSw.2.2 1 _ rfl).1
    have d9 : W.cell? ⟨w.heap.size, 9, none⟩ = some (.int .i64 m.pn) := (hSw.2.2 9 _ rfl).1
    go_simp
    first | done | rfl | (rw [decide_eq_false (by omega)]) | (simp only [decide_eq_false_iff]; omega)
  try simp only [Act.put, List.setIfInBounds_toArray, List.set_cons_zero, List.set_cons_succ]
  refine wpAnyH_take (i := 12) (oi := { dst := some 17, op := _, type := _, pos := _, after := _, guard := _ }) (v := ?_) rfl (by kernel_rfl) (by kernel_rfl) (by kernel_rfl) (fun _ _ _ h => h) (Or.inl ⟨by rfl, ?_⟩) hHeld ?_
  rotate_left
  · intro W hSw
    have d0 : W.cell? ⟨w.heap.size, 0, none⟩ = some (.int .i64 7) := by rw [← HK.out]; exact (hSw.2.2 0 _ rfl).1
    have d1 : W.cell? ⟨w.heap.size, 1, none⟩ = some (.int .i64 m.f) := (hSw.2.2 1 _ rfl).1
    have d9 : W.cell? ⟨w.heap.size, 9, none⟩ = some (.int .i64 m.pn) := (hSw.2.2 9 _ rfl).1
    go_simp
    first | done | rfl
  try simp only [Act.put, List.setIfInBounds_toArray, List.set_cons_zero, List.set_cons_succ]
  refine wpAnyH_take (i := 13) (oi := { dst := some 18, op := _, type := _, pos := _, after := _, guard := _ }) (v := ?_) rfl (by kernel_rfl) (by kernel_rfl) (by kernel_rfl) (fun _ _ _ h => h) (Or.inl ⟨by rfl, ?_⟩) hHeld ?_
  rotate_left
  · intro W hSw
    have d0 : W.cell? ⟨w.heap.size, 0, none⟩ = some (.int .i64 7) := by rw [← HK.out]; exact (hSw.2.2 0 _ rfl).1
    have d1 : W.cell? ⟨w.heap.size, 1, none⟩ = some (.int .i64 m.f) := (hSw.2.2 1 _ rfl).1
    have d9 : W.cell? ⟨w.heap.size, 9, none⟩ = some (.int .i64 m.pn) := (hSw.2.2 9 _ rfl).1
    go_simp
    first | done | rfl
  try simp only [Act.put, List.setIfInBounds_toArray, List.set_cons_zero, List.set_cons_succ]
  refine wpAnyH_take (i := 14) (oi := { dst := some 19, op := _, type := _, pos := _, after := _, guard := _ }) (v := ?_) rfl (by kernel_rfl) (by kernel_rfl) (by kernel_rfl) (fun _ _ _ h => h) (Or.inl ⟨by rfl, ?_⟩) hHeld ?_
  rotate_left
  · intro W hSw
    have d0 : W.cell? ⟨w.heap.size, 0, none⟩ = some (.int .i64 7) := by rw [← HK.out]; exact (hSw.2.2 0 _ rfl).1
    have d1 : W.cell? ⟨w.heap.size, 1, none⟩ = some (.int .i64 m.f) := (hSw.2.2 1 _ rfl).1
    have d9 : W.cell? ⟨w.heap.size, 9, none⟩ = some (.int .i64 m.pn) := (hSw.2.2 9 _ rfl).1
    go_simp
    first | done | rfl
  try simp only [Act.put, List.setIfInBounds_toArray, List.set_cons_zero, List.set_cons_succ]
  refine wpAnyH_take (i := 15) (oi := { dst := some 20, op := _, type := _, pos := _, after := _, guard := _ }) (v := ?_) rfl (by kernel_rfl) (by kernel_rfl) (by kernel_rfl) (fun _ _ _ h => h) (Or.inl ⟨by rfl, ?_⟩) hHeld ?_
  rotate_left
  · intro W hSw
    have d0 : W.cell? ⟨w.heap.size, 0, none⟩ = some (.int .i64 7) := by rw [← HK.out]; exact (hSw.2.2 0 _ rfl).1
    have d1 : W.cell? ⟨w.heap.size, 1, none⟩ = some (.int .i64 m.f) := (hSw.2.2 1 _ rfl).1
    have d9 : W.cell? ⟨w.heap.size, 9, none⟩ = some (.int .i64 m.pn) := (hSw.2.2 9 _ rfl).1
    go_simp
    first | done | rfl
  try simp only [Act.put, List.setIfInBounds_toArray, List.set_cons_zero, List.set_cons_succ]
  refine wpAnyH_take (i := 16) (oi := { dst := some 21, op := _, type := _, pos := _, after := _, guard := _ }) (v := .bool false) rfl (by kernel_rfl) (by kernel_rfl) (by kernel_rfl) (fun _ _ _ h => h) (Or.inl ⟨by rfl, ?_⟩) hHeld ?_
  · intro W hSw
    have d0 : W.cell? ⟨w.heap.size, 0, none⟩ = some (.int .i64 7) := by rw [← HK.out]; exact (hSw.2.2 0 _ rfl).1
    have d1 : W.cell? ⟨w.heap.size, 1, none⟩ = some (.int .i64 m.f) := (hSw.2.2 1 _ rfl).1
    have d9 : W.cell? ⟨w.heap.size, 9, none⟩ = some (.int .i64 m.pn) := (hSw.2.2 9 _ rfl).1
    go_simp
    first | done | rfl | (rw [decide_eq_false (by omega)]) | (simp only [decide_eq_false_iff]; omega)
  try simp only [Act.put, List.setIfInBounds_toArray, List.set_cons_zero, List.set_cons_succ]
  refine wpAnyH_take (i := 17) (oi := { dst := some 22, op := _, type := _, pos := _, after := _, guard := _ }) (v := ?_) rfl (by kernel_rfl) (by kernel_rfl) (by kernel_rfl) (fun _ _ _ h => h) (Or.inl ⟨by rfl, ?_⟩) hHeld ?_
  rotate_left
  · intro W hSw
    have d0 : W.cell? ⟨w.heap.size, 0, none⟩ = some (.int .i64 7) := by rw [← HK.out]; exact (hSw.2.2 0 _ rfl).1
    have d1 : W.cell? ⟨w.heap.size, 1, none⟩ = some (.int .i64 m.f) := (hSw.2.2 1 _ rfl).1
    have d9 : W.cell? ⟨w.heap.size, 9, none⟩ = some (.int .i64 m.pn) := (hSw.2.2 9 _ rfl).1
    go_simp
    first | done | rfl
  try simp only [Act.put, List.setIfInBounds_toArray, List.set_cons_zero, List.set_cons_succ]
  refine wpAnyH_take (i := 18) (oi := { dst := some 23, op := _, type := _, pos := _, after := _, guard := _ }) (v := ?_) rfl (by kernel_rfl) (by kernel_rfl) (by kernel_rfl) (fun _ _ _ h => h) (Or.inl ⟨by rfl, ?_⟩) hHeld ?_
  rotate_left
  · intro W hSw
    have d0 : W.cell? ⟨w.heap.size, 0, none⟩ = some (.int .i64 7) := by rw [← HK.out]; exact (hSw.2.2 0 _ rfl).1
    have d1 : W.cell? ⟨w.heap.size, 1, none⟩ = some (.int .i64 m.f) := (hSw.2.2 1 _ rfl).1
    have d9 : W.cell? ⟨w.heap.size, 9, none⟩ = some (.int .i64 m.pn) := (hSw.2.2 9 _ rfl).1
    go_simp
    first | done | rfl
  try simp only [Act.put, List.setIfInBounds_toArray, List.set_cons_zero, List.set_cons_succ]
  refine wpAnyH_take (i := 19) (oi := { dst := some 24, op := _, type := _, pos := _, after := _, guard := _ }) (v := ?_) rfl (by kernel_rfl) (by kernel_rfl) (by kernel_rfl) (fun _ _ _ h => h) (Or.inl ⟨by rfl, ?_⟩) hHeld ?_
  rotate_left
  · intro W hSw
    have d0 : W.cell? ⟨w.heap.size, 0, none⟩ = some (.int .i64 7) := by rw [← HK.out]; exact (hSw.2.2 0 _ rfl).1
    have d1 : W.cell? ⟨w.heap.size, 1, none⟩ = some (.int .i64 m.f) := (hSw.2.2 1 _ rfl).1
    have d9 : W.cell? ⟨w.heap.size, 9, none⟩ = some (.int .i64 m.pn) := (hSw.2.2 9 _ rfl).1
    go_simp
    first | done | rfl
  try simp only [Act.put, List.setIfInBounds_toArray, List.set_cons_zero, List.set_cons_succ]
  refine wpAnyH_take (i := 20) (oi := { dst := some 25, op := _, type := _, pos := _, after := _, guard := _ }) (v := ?_) rfl (by kernel_rfl) (by kernel_rfl) (by kernel_rfl) (fun _ _ _ h => h) (Or.inl ⟨by rfl, ?_⟩) hHeld ?_
  rotate_left
  · intro W hSw
    have d0 : W.cell? ⟨w.heap.size, 0, none⟩ = some (.int .i64 7) := by rw [← HK.out]; exact (hSw.2.2 0 _ rfl).1
    have d1 : W.cell? ⟨w.heap.size, 1, none⟩ = some (.int .i64 m.f) := (hSw.2.2 1 _ rfl).1
    have d9 : W.cell? ⟨w.heap.size, 9, none⟩ = some (.int .i64 m.pn) := (hSw.2.2 9 _ rfl).1
    go_simp
    first | done | rfl
  try simp only [Act.put, List.setIfInBounds_toArray, List.set_cons_zero, List.set_cons_succ]
  refine wpAnyH_take (i := 21) (oi := { dst := some 26, op := _, type := _, pos := _, after := _, guard := _ }) (v := .bool false) rfl (by kernel_rfl) (by kernel_rfl) (by kernel_rfl) (fun _ _ _ h => h) (Or.inl ⟨by rfl, ?_⟩) hHeld ?_
  · intro W hSw
    have d0 : W.cell? ⟨w.heap.size, 0, none⟩ = some (.int .i64 7) := by rw [← HK.out]; exact (hSw.2.2 0 _ rfl).1
    have d1 : W.cell? ⟨w.heap.size, 1, none⟩ = some (.int .i64 m.f) := (hSw.2.2 1 _ rfl).1
    have d9 : W.cell? ⟨w.heap.size, 9, none⟩ = some (.int .i64 m.pn) := (hSw.2.2 9 _ rfl).1
    go_simp
    first | done | rfl | (rw [decide_eq_false (by omega)]) | (simp only [decide_eq_false_iff]; omega)
  try simp only [Act.put, List.setIfInBounds_toArray, List.set_cons_zero, List.set_cons_succ]
  refine wpAnyH_take (i := 22) (oi := { dst := some 27, op := _, type := _, pos := _, after := _, guard := _ }) (v := ?_) rfl (by kernel_rfl) (by kernel_rfl) (by kernel_rfl) (fun _ _ _ h => h) (Or.inl ⟨by rfl, ?_⟩) hHeld ?_
  rotate_left
  · intro W hSw
    have d0 : W.cell? ⟨w.heap.size, 0, none⟩ = some (.int .i64 7) := by rw [← HK.out]; exact (hSw.2.2 0 _ rfl).1
    have d1 : W.cell? ⟨w.heap.size, 1, none⟩ = some (.int .i64 m.f) := (hSw.2.2 1 _ rfl).1
    have d9 : W.cell? ⟨w.heap.size, 9, none⟩ = some (.int .i64 m.pn) := (hSw.2.2 9 _ rfl).1
    go_simp
    first | done | rfl
  try simp only [Act.put, List.setIfInBounds_toArray, List.set_cons_zero, List.set_cons_succ]
  refine wpAnyH_take (i := 23) (oi := { dst := some 28, op := _, type := _, pos := _, after := _, guard := _ }) (v := ?_) rfl (by kernel_rfl) (by kernel_rfl) (by kernel_rfl) (fun _ _ _ h => h) (Or.inl ⟨by rfl, ?_⟩) hHeld ?_
  rotate_left
  · intro W hSw
    have d0 : W.cell? ⟨w.heap.size, 0, none⟩ = some (.int .i64 7) := by rw [← HK.out]; exact (hSw.2.2 0 _ rfl).1
    have d1 : W.cell? ⟨w.heap.size, 1, none⟩ = some (.int .i64 m.f) := (hSw.2.2 1 _ rfl).1
    have d9 : W.cell? ⟨w.heap.size, 9, none⟩ = some (.int .i64 m.pn) := (hSw.2.2 9 _ rfl).1
    go_simp
    first | done | rfl
  try simp only [Act.put, List.setIfInBounds_toArray, List.set_cons_zero, List.set_cons_succ]
  refine wpAnyH_take (i := 24) (oi := { dst := some 29, op := _, type := _, pos := _, after := _, guard := _ }) (v := ?_) rfl (by kernel_rfl) (by kernel_rfl) (by kernel_rfl) (fun _ _ _ h => h) (Or.inl ⟨by rfl, ?_⟩) hHeld ?_
  rotate_left
  · intro W hSw
    have d0 : W.cell? ⟨w.heap.size, 0, none⟩ = some (.int .i64 7) := by rw [← HK.out]; exact (hSw.2.2 0 _ rfl).1
    have d1 : W.cell? ⟨w.heap.size, 1, none⟩ = some (.int .i64 m.f) := (hSw.2.2 1 _ rfl).1
    have d9 : W.cell? ⟨w.heap.size, 9, none⟩ = some (.int .i64 m.pn) := (hSw.2.2 9 _ rfl).1
    go_simp
    first | done | rfl
  try simp only [Act.put, List.setIfInBounds_toArray, List.set_cons_zero, List.set_cons_succ]
  refine wpAnyH_take (i := 25) (oi := { dst := some 30, op := _, type := _, pos := _, after := _, guard := _ }) (v := ?_) rfl (by kernel_rfl) (by kernel_rfl) (by kernel_rfl) (fun _ _ _ h => h) (Or.inl ⟨by rfl, ?_⟩) hHeld ?_
  rotate_left
  · intro W hSw
    have d0 : W.cell? ⟨w.heap.size, 0, none⟩ = some (.int .i64 7) := by rw [← HK.out]; exact (hSw.2.2 0 _ rfl).1
    have d1 : W.cell? ⟨w.heap.size, 1, none⟩ = some (.int .i64 m.f) := (hSw.2.2 1 _ rfl).1
    have d9 : W.cell? ⟨w.heap.size, 9, none⟩ = some (.int .i64 m.pn) := (hSw.2.2 9 _ rfl).1
    go_simp
    first | done | rfl
  try simp only [Act.put, List.setIfInBounds_toArray, List.set_cons_zero, List.set_cons_succ]
  refine wpAnyH_take (i := 26) (oi := { dst := some 31, op := _, type := _, pos := _, after := _, guard := _ }) (v := .bool false) rfl (by kernel_rfl) (by kernel_rfl) (by kernel_rfl) (fun _ _ _ h => h) (Or.inl ⟨by rfl, ?_⟩) hHeld ?_
  · intro W hSw
    have d0 : W.cell? ⟨w.heap.size, 0, none⟩ = some (.int .i64 7) := by rw [← HK.out]; exact (hSw.2.2 0 _ rfl).1
    have d1 : W.cell? ⟨w.heap.size, 1, none⟩ = some (.int .i64 m.f) := (hSw.2.2 1 _ rfl).1
    have d9 : W.cell? ⟨w.heap.size, 9, none⟩ = some (.int .i64 m.pn) := (hSw.2.2 9 _ rfl).1
    go_simp
    first | done | rfl | (rw [decide_eq_false (by omega)]) | (simp only [decide_eq_false_iff]; omega)
  try simp only [Act.put, List.setIfInBounds_toArray, List.set_cons_zero, List.set_cons_succ]
  refine wpAnyH_take (i := 27) (oi := { dst := some 32, op := _, type := _, pos := _, after := _, guard := _ }) (v := ?_) rfl (by kernel_rfl) (by kernel_rfl) (by kernel_rfl) (fun _ _ _ h => h) (Or.inl ⟨by rfl, ?_⟩) hHeld ?_
  rotate_left
  · intro W hSw
    have d0 : W.cell? ⟨w.heap.size, 0, none⟩ = some (.int .i64 7) := by rw [← HK.out]; exact (hSw.2.2 0 _ rfl).1
    have d1 : W.cell? ⟨w.heap.size, 1, none⟩ = some (.int .i64 m.f) := (hSw.2.2 1 _ rfl).1
    have d9 : W.cell? ⟨w.heap.size, 9, none⟩ = some (.int .i64 m.pn) := (hSw.2.2 9 _ rfl).1
    go_simp
    first | done | rfl
  try simp only [Act.put, List.setIfInBounds_toArray, List.set_cons_zero, List.set_cons_succ]
  refine wpAnyH_take (i := 28) (oi := { dst := some 33, op := _, type := _, pos := _, after := _, guard := _ }) (v := ?_) rfl (by kernel_rfl) (by kernel_rfl) (by kernel_rfl) (fun _ _ _ h => h) (Or.inl ⟨by rfl, ?_⟩) hHeld ?_
  rotate_left
  · intro W hSw
    have d0 : W.cell? ⟨w.heap.size, 0, none⟩ = some (.int .i64 7) := by rw [← HK.out]; exact (hSw.2.2 0 _ rfl).1
    have d1 : W.cell? ⟨w.heap.size, 1, none⟩ = some (.int .i64 m.f) := (hSw.2.2 1 _ rfl).1
    have d9 : W.cell? ⟨w.heap.size, 9, none⟩ = some (.int .i64 m.pn) := (hSw.2.2 9 _ rfl).1
    go_simp
    first | done | rfl
  try simp only [Act.put, List.setIfInBounds_toArray, List.set_cons_zero, List.set_cons_succ]
  refine wpAnyH_take (i := 29) (oi := { dst := some 34, op := _, type := _, pos := _, after := _, guard := _ }) (v := .agg m.row) rfl (by kernel_rfl) (by kernel_rfl) (by kernel_rfl) (fun _ _ _ h => h) (Or.inl ⟨by rfl, ?_⟩) hHeld ?_
  · intro W hSw
    have d0 : W.cell? ⟨w.heap.size, 0, none⟩ = some (.int .i64 7) := by rw [← HK.out]; exact (hSw.2.2 0 _ rfl).1
    have d1 : W.cell? ⟨w.heap.size, 1, none⟩ = some (.int .i64 m.f) := (hSw.2.2 1 _ rfl).1
    have d9 : W.cell? ⟨w.heap.size, 9, none⟩ = some (.int .i64 m.pn) := (hSw.2.2 9 _ rfl).1
    exact exec_load 45 (Operand.tmp 1) rfl rfl (m_load hSw.2)
  try simp only [Act.put, List.setIfInBounds_toArray, List.set_cons_zero, List.set_cons_succ]
  refine wpAnyH_take (i := 30) (oi := { dst := some 35, op := _, type := _, pos := _, after := _, guard := _ }) (v := .agg m.row) rfl (by kernel_rfl) (by kernel_rfl) (by kernel_rfl) (fun _ _ _ h => h) (Or.inl ⟨by rfl, ?_⟩) hHeld ?_
  · intro W hSw
    have d0 : W.cell? ⟨w.heap.size, 0, none⟩ = some (.int .i64 7) := by rw [← HK.out]; exact (hSw.2.2 0 _ rfl).1
    have d1 : W.cell? ⟨w.heap.size, 1, none⟩ = some (.int .i64 m.f) := (hSw.2.2 1 _ rfl).1
    have d9 : W.cell? ⟨w.heap.size, 9, none⟩ = some (.int .i64 m.pn) := (hSw.2.2 9 _ rfl).1
    exact exec_load 45 (Operand.tmp 1) rfl rfl (m_load hSw.2)
  try simp only [Act.put, List.setIfInBounds_toArray, List.set_cons_zero, List.set_cons_succ]
  refine wpAnyH_ready (rs := [31]) (by kernel_rfl) (by simp) ?_
  refine AllReadyH.cons (o := { dst := some 36, op := _, type := _, pos := _, after := _, guard := _ }) rfl (fun K hK => ?_) AllReadyH.nil
  go_simp
  refine (kept_any m _ HK.out).mono ?_
  rintro e wx ⟨rfl, hbx⟩
  have hS1 : Below w.heap.size w wx ∧ Blk wx w.heap.size m.row := ⟨hHeld.1.trans (hbx.mono hHeld.1.size), hHeld.2.later hbx⟩
  clear hbx
  refine hK.out _ _ hS1 (fun _ => ?_)
  clear hK K
  try simp only [Act.put, List.setIfInBounds_toArray, List.set_cons_zero, List.set_cons_succ]
  refine wpAnyH_ready (rs := [32]) (by kernel_rfl) (by simp) ?_
  refine AllReadyH.cons (o := { dst := some 37, op := _, type := _, pos := _, after := _, guard := _ }) rfl (fun K hK => ?_) AllReadyH.nil
  go_simp
  refine (same17_kept m _ HK.out (HIN.out.below hS1.1 (Nat.le_refl _))).mono ?_
  rintro e wx ⟨rfl, hbx⟩
  have hS2 : Below w.heap.size w wx ∧ Blk wx w.heap.size m.row := ⟨hS1.1.trans (hbx.mono hS1.1.size), hS1.2.later hbx⟩
  clear hbx
  rw [HSB.out]
  refine hK.out _ _ hS2 (fun _ => ?_)
  clear hK K
  try simp only [Act.put, List.setIfInBounds_toArray, List.set_cons_zero, List.set_cons_succ]
  refine wpAnyH_take (i := 33) (oi := { dst := some 38, op := _, type := _, pos := _, after := _, guard := _ }) (v := ?_) rfl (by kernel_rfl) (by kernel_rfl) (by kernel_rfl) (fun _ _ _ h => h) (Or.inl ⟨by rfl, ?_⟩) hS2 ?_
  rotate_left
  · intro W hSw
    have d0 : W.cell? ⟨w.heap.size, 0, none⟩ = some (.int .i64 7) := by rw [← HK.out]; exact (hSw.2.2 0 _ rfl).1
    have d1 : W.cell? ⟨w.heap.size, 1, none⟩ = some (.int .i64 m.f) := (hSw.2.2 1 _ rfl).1
    have d9 : W.cell? ⟨w.heap.size, 9, none⟩ = some (.int .i64 m.pn) := (hSw.2.2 9 _ rfl).1
    go_simp
    first | done | rfl
  try simp only [Act.put, List.setIfInBounds_toArray, List.set_cons_zero, List.set_cons_succ]
  refine wpAnyH_take (i := 34) (oi := { dst := some 39, op := _, type := _, pos := _, after := _, guard := _ }) (v := ?_) rfl (by kernel_rfl) (by kernel_rfl) (by kernel_rfl) (fun _ _ _ h => h) (Or.inl ⟨by rfl, ?_⟩) hS2 ?_
  rotate_left
  · intro W hSw
    have d0 : W.cell? ⟨w.heap.size, 0, none⟩ = some (.int .i64 7) := by rw [← HK.out]; exact (hSw.2.2 0 _ rfl).1
    have d1 : W.cell? ⟨w.heap.size, 1, none⟩ = some (.int .i64 m.f) := (hSw.2.2 1 _ rfl).1
    have d9 : W.cell? ⟨w.heap.size, 9, none⟩ = some (.int .i64 m.pn) := (hSw.2.2 9 _ rfl).1
    go_simp
    first | done | rfl
  try simp only [Act.put, List.setIfInBounds_toArray, List.set_cons_zero, List.set_cons_succ]
  refine wpAnyH_done (by kernel_rfl) ?_ _
  refine NoPanic.normal ?_
  have HB := Lib.hid hS2
  clear hHeld hS1 hS2 H0
  have c2 : wx.cell? ⟨w.heap.size, 2, none⟩ = some (.int .i64 m.v) := (HB.out.2.2 2 _ rfl).1
  have c3 : wx.cell? ⟨w.heap.size, 3, none⟩ = some (.int .i64 m.lv) := (HB.out.2.2 3 _ rfl).1
  have c4 : wx.cell? ⟨w.heap.size, 4, none⟩ = some (.int .i64 0) := (by have := (HB.out.2.2 4 (.int .i64 m.op) rfl).1; rwa [HSP.out.2.1] at this)
  have c5 : wx.cell? ⟨w.heap.size, 5, none⟩ = some (.int .i64 m.cm) := (HB.out.2.2 5 _ rfl).1
  have c6 : wx.cell? ⟨w.heap.size, 6, none⟩ = some (.int .i64 0) := (by have := (HB.out.2.2 6 (.int .i64 m.cl) rfl).1; rwa [HSP.out.2.2.1] at this)
  have c7 : wx.cell? ⟨w.heap.size, 7, none⟩ = some (.int .i64 0) := (by have := (HB.out.2.2 7 (.int .i64 m.se) rfl).1; rwa [HSP.out.2.2.2.1] at this)
  have c8 : wx.cell? ⟨w.heap.size, 8, none⟩ = some (.int .i64 0) := (by have := (HB.out.2.2 8 (.int .i64 m.rq) rfl).1; rwa [HSP.out.2.2.2.2.1] at this)
  have c10 : wx.cell? ⟨w.heap.size, 10, none⟩ = some (.int .i64 0) := (by have := (HB.out.2.2 10 (.int .i64 m.ix) rfl).1; rwa [HSP.out.2.2.2.2.2.2.1] at this)
  have c11 : wx.cell? ⟨w.heap.size, 11, none⟩ = some (.int .i64 0) := (by have := (HB.out.2.2 11 (.int .i64 m.sz) rfl).1; rwa [HSP.out.2.2.2.2.2.2.2.1] at this)
  have c12 : wx.cell? ⟨w.heap.size, 12, none⟩ = some (.int .i64 m.co) := (HB.out.2.2 12 _ rfl).1
  have c13 : wx.cell? ⟨w.heap.size, 13, none⟩ = some (.int .i64 m.cv) := (HB.out.2.2 13 _ rfl).1
  go_wp2_with fail
  by_cases hv : 0 ≤ m.v ∧ m.v ≤ 72057594037927935
  rotate_left
  · have HV := Lib.hid (rightB_no m HK.out (fun q => hv q.2.2.1))
    refine (rfit17_no _ _ hv).mono ?_
    clear hv
    rintro e w9 ⟨rfl, rfl⟩
    go_wp2_with fail
    go_ret
    exact ⟨by rw [HV.out]; rfl, HB.out.1⟩
  have Hv := Lib.hid hv
  clear hv
  refine (rfit17_yes _ _ Hv.out).mono ?_
  rintro e w9 ⟨rfl, rfl⟩
  go_wp2_with fail
  by_cases hlv : 0 ≤ m.lv ∧ m.lv ≤ 72057594037927935
  rotate_left
  · have HV := Lib.hid (rightB_no m HK.out (fun q => hlv q.2.2.2.1))
    refine (rfit17_no _ _ hlv).mono ?_
    clear hlv
    rintro e w9 ⟨rfl, rfl⟩
    go_wp2_with fail
    go_ret
    exact ⟨by rw [HV.out]; rfl, HB.out.1⟩
  have Hlv := Lib.hid hlv
  clear hlv
  refine (rfit17_yes _ _ Hlv.out).mono ?_
  rintro e w9 ⟨rfl, rfl⟩
  go_wp2_with fail
  refine (rfit17_yes _ _ (by decide)).mono ?_
  rintro e w9 ⟨rfl, rfl⟩
  go_wp2_with fail
  by_cases hcm : 0 ≤ m.cm ∧ m.cm ≤ 72057594037927935
  rotate_left
  · have HV := Lib.hid (rightB_no m HK.out (fun q => hcm q.2.2.2.2.1))
    refine (rfit17_no _ _ hcm).mono ?_
    clear hcm
    rintro e w9 ⟨rfl, rfl⟩
    go_wp2_with fail
    go_ret
    exact ⟨by rw [HV.out]; rfl, HB.out.1⟩
  have Hcm := Lib.hid hcm
  clear hcm
  refine (rfit17_yes _ _ Hcm.out).mono ?_
  rintro e w9 ⟨rfl, rfl⟩
  go_wp2_with fail
  refine (rfit17_yes _ _ (by decide)).mono ?_
  rintro e w9 ⟨rfl, rfl⟩
  go_wp2_with fail
  refine (rfit17_yes _ _ (by decide)).mono ?_
  rintro e w9 ⟨rfl, rfl⟩
  go_wp2_with fail
  refine (rfit17_yes _ _ (by decide)).mono ?_
  rintro e w9 ⟨rfl, rfl⟩
  go_wp2_with fail
  refine (rfit17_yes _ _ (by decide)).mono ?_
  rintro e w9 ⟨rfl, rfl⟩
  go_wp2_with fail
  refine (rfit17_yes _ _ (by decide)).mono ?_
  rintro e w9 ⟨rfl, rfl⟩
  go_wp2_with fail
  by_cases hco : 0 ≤ m.co ∧ m.co ≤ 72057594037927935
  rotate_left
  · have HV := Lib.hid (rightB_no m HK.out (fun q => hco q.2.2.2.2.2.1))
    refine (rfit17_no _ _ hco).mono ?_
    clear hco
    rintro e w9 ⟨rfl, rfl⟩
    go_wp2_with fail
    go_ret
    exact ⟨by rw [HV.out]; rfl, HB.out.1⟩
  have Hco := Lib.hid hco
  clear hco
  refine (rfit17_yes _ _ Hco.out).mono ?_
  rintro e w9 ⟨rfl, rfl⟩
  go_wp2_with fail
  by_cases hcv : 0 ≤ m.cv ∧ m.cv ≤ 72057594037927935
  rotate_left
  · have HV := Lib.hid (rightB_no m HK.out (fun q => hcv q.2.2.2.2.2.2.1))
    refine (rfit17_no _ _ hcv).mono ?_
    clear hcv
    rintro e w9 ⟨rfl, rfl⟩
    go_wp2_with fail
    go_ret
    exact ⟨by rw [HV.out]; rfl, HB.out.1⟩
  have Hcv := Lib.hid hcv
  clear hcv
  refine (rfit17_yes _ _ Hcv.out).mono ?_
  rintro e w9 ⟨rfl, rfl⟩
  clear c2 c3 c4 c5 c6 c7 c8 c10 c11 c12 c13
  have c0 : wx.cell? ⟨w.heap.size, 0, none⟩ = some (.int .i64 7) := by rw [← HK.out]; exact (HB.out.2.2 0 _ rfl).1
  have c32 : wx.cell? ⟨w.heap.size, 32, none⟩ = some (.string ⟨#[]⟩) := by have := (HB.out.2.2 32 (.string m.b) rfl).1; rwa [HSP.out.2.2.2.2.2.2.2.2.2.2] at this
  have c30 : wx.cell? ⟨w.heap.size, 30, none⟩ = some (.slice m.ea 0 m.ec) := by have := (HB.out.2.2 30 (.slice m.ea m.es.length m.ec) rfl).1; rwa [HSP.out.1] at this
  obtain ⟨N, hN⟩ : ∃ N, N = m.is.length := ⟨_, rfl⟩
  have c31 : wx.cell? ⟨w.heap.size, 31, none⟩ = some (.slice m.ia N m.ic) := by rw [hN]; exact (HB.out.2.2 31 _ rfl).1
  have hNc : N ≤ m.ic := by rw [hN]; exact HIN.out.ic
  have HN := Lib.hid hN
  clear hN
  by_cases h8 : N = 8
  rotate_left
  · have HV := Lib.hid (rightB_no m HK.out (fun q => h8 (HN.out.trans q.2.2.2.2.2.2.2.1)))
    have q1 : ((N : Int) == 8) = false := beq_eq_false_iff_ne.2 (by omega)
    have q2 : ¬ ((N : Int) = 8) := by omega
    clear h8
    go_wp2_with fail
    go_ret
    exact ⟨by rw [HV.out]; rfl, HB.out.1⟩
  subst h8
  go_wp2_with fail
  clear c0 c32 c30 c31
  go_loopw [3] (fun iv wr => iv = .int .i64 0 ∧ Below w.heap.size w wr ∧ Blk wr w.heap.size m.row) (fun _ _ => 0)
  case atStart => exact ⟨rfl, HB.out⟩
  case round =>
    clear HB
    obtain ⟨rfl, hbw⟩ := hrel
    have HB := Lib.hid hbw
    clear hbw
    have c30 : wr.cell? ⟨w.heap.size, 30, none⟩ = some (.slice m.ea 0 m.ec) := by have := (HB.out.2.2 30 (.slice m.ea m.es.length m.ec) rfl).1; rwa [HSP.out.1] at this
    go_wp2_with fail
    clear c30
    go_loopw [4] (fun iv wr => ∃ j : Nat, j ≤ 8 ∧ iv = .int .i64 (j : Int) ∧ (m.is.take j).all itemB = true ∧ Below w.heap.size w wr ∧ Blk wr w.heap.size m.row) (fun iv _ => 8 - (intOf iv).toNat)
    case atStart => exact ⟨0, by omega, rfl, by simp, HB.out⟩
    case round =>
      clear HB
      obtain ⟨j, hj, rfl, hall, hbw⟩ := hrel
      have HALL := Lib.hid hall
      have HB := Lib.hid hbw
      have c31 : wr.cell? ⟨w.heap.size, 31, none⟩ = some (.slice m.ia 8 m.ic) := by rw [HN.out]; exact (HB.out.2.2 31 _ rfl).1
      by_cases hlt : j < 8
      · obtain ⟨x, hx⟩ : ∃ x, m.is[j]? = some x := ⟨m.is[j]'(by rw [← HN.out]; exact hlt), List.getElem?_eq_getElem _⟩
        have hLw := HIN.out.below hbw.1 (Nat.le_refl _)
        obtain ⟨b, off, hd, hbl, hra⟩ := hLw.is.range (i := j) (x := x.row) (by rw [List.getElem?_map, hx]; rfl)
        rw [hd] at c31
        have HX := Lib.hid hx
        have HDD := Lib.hid hd
        clear hd
        have l1 := Lib.hid (load_at 40 _ hra Tryd.underlying40 rfl (by kernel_rfl))
        have HRT := Lib.hid (fun W => ritem_any x W (HIN.out.iok x (List.mem_of_getElem? hx)))
        clear hra hLw hbw hx hall
        go_wp2_with (first | (guard_target =~ wpList _ _ _ (⟨_, Op.load _ (Operand.tmp 162), _, _, _, _⟩ :: _) _ _; refine wpList_load_eq 40 (Operand.tmp 162) rfl rfl l1.out rfl ?_) | (guard_target =~ wpList _ _ _ (⟨_, Op.load _ (Operand.tmp 162), _, _, _, _⟩ :: _) _ _; refine wpList_load_w 40 (Operand.tmp 162) (by kernel_rfl) rfl l1.out rfl ?_))
        refine (HRT.out _).mono ?_
        rintro e w2 ⟨rfl, hb2⟩
        have H2 := Lib.hid (And.intro (HB.out.1.trans (hb2.mono HB.out.1.size)) (HB.out.2.later hb2))
        clear hb2
        cases hB : itemB x
        · have HV := Lib.hid (rightB_no m HK.out (fun q => by have := all_no HX.out hB; rw [q.2.2.2.2.2.2.2.2] at this; exact absurd this (by decide)))
          go_wp2_with fail
          go_ret
          exact ⟨by rw [HV.out]; rfl, H2.out.1⟩
        · go_wp2_with fail
          go_roundw
          case rel => exact ⟨j + 1, by omega, by go_num, all_snoc HX.out HALL.out hB, H2.out.1, H2.out.2⟩
          case measure => simp [intOf]; omega
      · obtain rfl : j = 8 := by omega
        have HI : Hid (m.is.all itemB = true) := Lib.hid (by have := HALL.out; rw [List.take_of_length_le (by rw [← HN.out]; exact Nat.le_refl _)] at this; exact this)
        have c0 : wr.cell? ⟨w.heap.size, 0, none⟩ = some (.int .i64 7) := by rw [← HK.out]; exact (HB.out.2.2 0 _ rfl).1
        have HV : Hid (rightB m = true) := Lib.hid ((rightB_iff m HK.out).2 ⟨HF.out, HSP.out, Hv.out, Hlv.out, Hcm.out, Hco.out, Hcv.out, HN.out.symm, HI.out⟩)
        clear hall hbw
        go_wp2_with fail
        go_ret
        exact ⟨by rw [HV.out]; rfl, HB.out.1⟩

/-- Right of the reference says of a log what the program's says. -/
theorem rright17_any (m : Mst) (w : World) (hk : m.k = 7) (hin : m.In w) : Calls Tryd.prog 32 #[.agg m.row] w fun e w' => e = .returned (.bool (rightB m)) ∧ Below w.heap.size w w' := by
  by_cases h0 : m.f < 0
  · exact r17_f0 m w hk h0 (Lib.hid (rightB_no m hk (fun q => by have := q.1; omega)))
  by_cases h1 : 255 < m.f
  · exact r17_f1 m w hk (by omega) h1 (Lib.hid (rightB_no m hk (fun q => by have := q.1; omega)))
  by_cases h2 : m.pn < 0
  · exact r17_p0 m w hk (by omega) (by omega) h2 (Lib.hid (rightB_no m hk (fun q => by have := q.2.1.2.2.2.2.2.1; omega)))
  by_cases h3 : 255 < m.pn
  · exact r17_p1 m w hk (by omega) (by omega) (by omega) h3 (Lib.hid (rightB_no m hk (fun q => by have := q.2.1.2.2.2.2.2.1; omega)))
  by_cases hs : sameP m
  · exact r17_yes m w hk hin (by omega) (by omega) (by omega) (by omega) hs
  · exact r17_s0 m w hk hin (by omega) (by omega) (by omega) (by omega) (Lib.hid (decide_eq_false hs)) (Lib.hid (rightB_no m hk (fun q => hs q.2.1)))
end Go.Proofs.YtpbjjmenkoigjaaDoor

/- The law's steps; awake. -/
import Derived.Test.YtecaahcmebdglaaBudG
import Derived.Test.YtecaahcmebdglaaBudD
import Derived.Deep.RegionHeld3
import Derived.RowKit3
namespace Go.Proofs.Ytecaahcmebdglaa
open Go.RowKit
set_option linter.unusedVariables false
def rotS (who n : Int) : Bst := ⟨11, who, 0, n, 0, 1, 0, ⟨#[]⟩, none, 0, 0⟩
theorem results_step {tmps : Array Value} {w : World} {g : Nat} {who n : Int} (hp : tmps[4]?.getD undef = .pointer (some ⟨g, 0, none⟩)) (hB : Blk w g #[.int .i64 11, .int .i64 who, .int .i64 0, .int .i64 n, .int .i64 0, .int .i64 1, .int .i64 0, .string ⟨#[]⟩, .slice none 0 0]) :
    (results Try.f33 tmps).run Try.prog w = .ok (.agg #[.int .i64 11, .int .i64 who, .int .i64 0, .int .i64 n, .int .i64 0, .int .i64 1, .int .i64 0, .string ⟨#[]⟩, .slice none 0 0]) w := by
  have hl := run_loadVar_mid (P := Try.prog) w g 0 34 [.int .i64 11, .int .i64 who, .int .i64 0, .int .i64 n, .int .i64 0, .int .i64 1, .int .i64 0, .string ⟨#[]⟩, .slice none 0 0] _ (fun j v hv => by rw [Nat.zero_add]; exact (hB.2 j v (by simpa using hv)).1) Try.underlying34 rfl (by kernel_rfl)
  rw [show results Try.f33 tmps = (do loadVar 34 (← asAddr (tmps[4]?.getD undef))) from by simp [results], hp]
  simp [asAddr, hl]
set_option maxHeartbeats 2000000 in
theorem lrot_any (who n : Int) (w : World) : Calls Try.prog 33 #[.int .i64 who, .int .i64 n] w fun e w' => e = .returned (.agg #[.int .i64 11, .int .i64 who, .int .i64 0, .int .i64 n, .int .i64 0, .int .i64 1, .int .i64 0, .string ⟨#[]⟩, .slice none 0 0]) ∧ Below w.heap.size w w' := by
  go_enter Try.func33, Try.ntmps33
  go_wp2_with fail
  refine bodyPost_ret (results_step rfl (Blk.new _ _ _ _ rfl)) rfl ?_
  exact ⟨rfl, (Below.refl _ _).alloc (Nat.le_refl _) _⟩
theorem steps_new (w : World) (l : List Bst) (t : TypeId) (cs : Array Value) (hcs : cs = (l.flatMap Bst.row).toArray) : StepsAt (w.alloc (.cells cs t)) (some ⟨w.heap.size, 0, none⟩) l := by
  subst hcs
  intro i x hx
  refine ⟨w.heap.size, 0, rfl, by simp, fun j u hu => ?_⟩
  rw [Nat.zero_add, cell_of_row _ _ _ _ _ _ (heap_alloc_new w _)]
  simp only [List.getElem?_toArray]
  have hrow : ∀ y : Bst, y.row.length = 9 := fun y => rfl
  have hj : j < 9 := by
    have := (List.getElem?_eq_some_iff.1 hu).1
    rwa [hrow] at this
  clear w t
  induction l generalizing i with
  | nil => simp at hx
  | cons y l ih =>
    rw [List.flatMap_cons]
    cases i with
    | zero =>
      simp at hx
      subst hx
      rw [List.getElem?_append_left (by rw [hrow]; omega), Nat.zero_mul, Nat.zero_add]
      exact hu
    | succ i =>
      rw [List.getElem?_append_right (by rw [hrow]; omega), hrow, show (i + 1) * 9 + j - 9 = i * 9 + j by omega]
      exact ih i (by simpa using hx)
theorem awk1 : Bud.within 3 1 [rotS 1 5] = true := Bud.within_yes ((Bud.within_iff _ (by decide)).2 (by decide))
theorem awk2 : Bud.within 3 1 [rotS 1 5, rotS 2 13] = false := Bud.within_no (fun h => absurd ((Bud.within_iff _ (by decide)).1 h) (by decide))
theorem awk3 : Bud.within 3 1 [rotS 1 5, rotS 2 6] = true := Bud.within_yes ((Bud.within_iff _ (by decide)).2 (by decide))
theorem awkc1 (w : World) (g cap : Nat) (h : StepsAt w (some ⟨g, 0, none⟩) [rotS 1 5]) (hc : 1 ≤ cap) : Calls Try.prog 27 #[.agg #[.int .i64 3, .int .i64 1], .slice (some ⟨g, 0, none⟩) 1 cap] w fun e w' => e = .returned (.bool true) ∧ Below w.heap.size w w' := by
  have := bwithin_any 3 1 _ cap _ w h (by decide) hc
  rwa [awk1] at this
theorem awkc2 (w : World) (g cap : Nat) (h : StepsAt w (some ⟨g, 0, none⟩) [rotS 1 5, rotS 2 13]) (hc : 2 ≤ cap) : Calls Try.prog 27 #[.agg #[.int .i64 3, .int .i64 1], .slice (some ⟨g, 0, none⟩) 2 cap] w fun e w' => e = .returned (.bool false) ∧ Below w.heap.size w w' := by
  have := bwithin_any 3 1 _ cap _ w h (by decide) hc
  rwa [awk2] at this
theorem awkc3 (w : World) (g cap : Nat) (h : StepsAt w (some ⟨g, 0, none⟩) [rotS 1 5, rotS 2 6]) (hc : 2 ≤ cap) : Calls Try.prog 27 #[.agg #[.int .i64 3, .int .i64 1], .slice (some ⟨g, 0, none⟩) 2 cap] w fun e w' => e = .returned (.bool true) ∧ Below w.heap.size w w' := by
  have := bwithin_any 3 1 _ cap _ w h (by decide) hc
  rwa [awk3] at this
set_option maxHeartbeats 8000000 in
set_option maxRecDepth 100000 in
theorem awake25_any (w : World) : Calls Try.prog 26 #[] w fun e w' => e = .returned (.bool true) ∧ Below w.heap.size w w' := by
  go_enter Try.func26, Try.ntmps26
  go_wp2_with fail
  refine wp_region_noPanic ?_
  refine wp_region_held_drew (S := fun W => Bs w W 3 1) (by kernel_rfl) (Bs.start w 3 1 _).drew (fun hHeld => ?_)
  generalize (w.alloc (.cells #[.int .i64 3, .int .i64 1] 29)).drew = w1 at *
  refine wpAnyH_take (i := 0) (oi := { dst := some 3, op := _, type := _, pos := _, after := _, guard := _ }) (v := ?_) rfl (by kernel_rfl) (by kernel_rfl) (by kernel_rfl) (fun _ _ _ h => h) (Or.inl ⟨by rfl, ?_⟩) hHeld ?_
  rotate_left
  · intro W hSw
    have hSr := hSw.2.2
    go_simp
    first | done | rfl
  try simp only [Act.put, List.setIfInBounds_toArray, List.set_cons_zero, List.set_cons_succ]
  refine wpAnyH_ready (rs := [1]) (by kernel_rfl) (by simp) ?_
  refine AllReadyH.cons (o := { dst := some 4, op := _, type := _, pos := _, after := _, guard := _ }) rfl (fun K hK => ?_) AllReadyH.nil
  go_simp
  refine (lrot_any 1 5 _).mono ?_
  rintro e wx1 ⟨rfl, hb1⟩
  have hS1 : Bs w wx1 3 1 := hHeld.later hb1
  clear hb1 hHeld
  refine hK.out _ _ hS1 (fun _ => ?_)
  clear hK K
  try simp only [Act.put, List.setIfInBounds_toArray, List.set_cons_zero, List.set_cons_succ]
  refine wpAnyH_ready (rs := [2]) (by kernel_rfl) (by simp) ?_
  refine AllReadyH.cons (o := { dst := some 5, op := _, type := _, pos := _, after := _, guard := _ }) rfl (fun K hK => ?_) AllReadyH.nil
  go_simp
  have HA2 := Lib.hid (steps_new wx1 [rotS 1 5] 34 #[.int .i64 11, .int .i64 1, .int .i64 0, .int .i64 5, .int .i64 0, .int .i64 1, .int .i64 0, .string ⟨#[]⟩, .slice none 0 0] rfl)
  have hS2 : Bs w (wx1.alloc (.cells #[.int .i64 11, .int .i64 1, .int .i64 0, .int .i64 5, .int .i64 0, .int .i64 1, .int .i64 0, .string ⟨#[]⟩, .slice none 0 0] 34)) 3 1 := hS1.later ((Below.refl _ _).alloc (Nat.le_refl _) _)
  generalize wx1.alloc (.cells #[.int .i64 11, .int .i64 1, .int .i64 0, .int .i64 5, .int .i64 0, .int .i64 1, .int .i64 0, .string ⟨#[]⟩, .slice none 0 0] 34) = wx2 at *
  clear hS1
  refine hK.out _ _ hS2 (fun _ => ?_)
  clear hK K
  try simp only [Act.put, List.setIfInBounds_toArray, List.set_cons_zero, List.set_cons_succ]
  refine wpAnyH_ready (rs := [3]) (by kernel_rfl) (by simp) ?_
  refine AllReadyH.cons (o := { dst := some 6, op := _, type := _, pos := _, after := _, guard := _ }) rfl (fun K hK => ?_) AllReadyH.nil
  go_simp
  refine (awkc1 _ _ _ HA2.out (by decide)).mono ?_
  rintro e wx3 ⟨rfl, hb3⟩
  have hS3 : Bs w wx3 3 1 := hS2.later hb3
  clear hb3 hS2
  refine hK.out _ _ hS3 (fun _ => ?_)
  clear hK K
  try simp only [Act.put, List.setIfInBounds_toArray, List.set_cons_zero, List.set_cons_succ]
  refine wpAnyH_take (i := 4) (oi := { dst := some 7, op := _, type := _, pos := _, after := _, guard := _ }) (v := ?_) rfl (by kernel_rfl) (by kernel_rfl) (by kernel_rfl) (fun _ _ _ h => h) (Or.inl ⟨by rfl, ?_⟩) hS3 ?_
  rotate_left
  · intro W hSw
    have hSr := hSw.2.2
    go_simp
    first | done | rfl
  try simp only [Act.put, List.setIfInBounds_toArray, List.set_cons_zero, List.set_cons_succ]
  refine wpAnyH_take (i := 5) (oi := { dst := some 8, op := _, type := _, pos := _, after := _, guard := _ }) (v := ?_) rfl (by kernel_rfl) (by kernel_rfl) (by kernel_rfl) (fun _ _ _ h => h) (Or.inl ⟨by rfl, ?_⟩) hS3 ?_
  rotate_left
  · intro W hSw
    have hSr := hSw.2.2
    go_simp
    first | done | rfl
  try simp only [Act.put, List.setIfInBounds_toArray, List.set_cons_zero, List.set_cons_succ]
  refine wpAnyH_ready (rs := [6]) (by kernel_rfl) (by simp) ?_
  refine AllReadyH.cons (o := { dst := some 9, op := _, type := _, pos := _, after := _, guard := _ }) rfl (fun K hK => ?_) AllReadyH.nil
  go_simp
  refine (lrot_any 1 5 _).mono ?_
  rintro e wx6 ⟨rfl, hb6⟩
  have hS6 : Bs w wx6 3 1 := hS3.later hb6
  clear hb6 hS3
  refine hK.out _ _ hS6 (fun _ => ?_)
  clear hK K
  try simp only [Act.put, List.setIfInBounds_toArray, List.set_cons_zero, List.set_cons_succ]
  refine wpAnyH_ready (rs := [7]) (by kernel_rfl) (by simp) ?_
  refine AllReadyH.cons (o := { dst := some 10, op := _, type := _, pos := _, after := _, guard := _ }) rfl (fun K hK => ?_) AllReadyH.nil
  go_simp
  refine (lrot_any 2 13 _).mono ?_
  rintro e wx7 ⟨rfl, hb7⟩
  have hS7 : Bs w wx7 3 1 := hS6.later hb7
  clear hb7 hS6
  refine hK.out _ _ hS7 (fun _ => ?_)
  clear hK K
  try simp only [Act.put, List.setIfInBounds_toArray, List.set_cons_zero, List.set_cons_succ]
  refine wpAnyH_ready (rs := [8]) (by kernel_rfl) (by simp) ?_
  refine AllReadyH.cons (o := { dst := some 11, op := _, type := _, pos := _, after := _, guard := _ }) rfl (fun K hK => ?_) AllReadyH.nil
  go_simp
  have HA8 := Lib.hid (steps_new wx7 [rotS 1 5, rotS 2 13] 34 #[.int .i64 11, .int .i64 1, .int .i64 0, .int .i64 5, .int .i64 0, .int .i64 1, .int .i64 0, .string ⟨#[]⟩, .slice none 0 0, .int .i64 11, .int .i64 2, .int .i64 0, .int .i64 13, .int .i64 0, .int .i64 1, .int .i64 0, .string ⟨#[]⟩, .slice none 0 0] rfl)
  have hS8 : Bs w (wx7.alloc (.cells #[.int .i64 11, .int .i64 1, .int .i64 0, .int .i64 5, .int .i64 0, .int .i64 1, .int .i64 0, .string ⟨#[]⟩, .slice none 0 0, .int .i64 11, .int .i64 2, .int .i64 0, .int .i64 13, .int .i64 0, .int .i64 1, .int .i64 0, .string ⟨#[]⟩, .slice none 0 0] 34)) 3 1 := hS7.later ((Below.refl _ _).alloc (Nat.le_refl _) _)
  generalize wx7.alloc (.cells #[.int .i64 11, .int .i64 1, .int .i64 0, .int .i64 5, .int .i64 0, .int .i64 1, .int .i64 0, .string ⟨#[]⟩, .slice none 0 0, .int .i64 11, .int .i64 2, .int .i64 0, .int .i64 13, .int .i64 0, .int .i64 1, .int .i64 0, .string ⟨#[]⟩, .slice none 0 0] 34) = wx8 at *
  clear hS7
  refine hK.out _ _ hS8 (fun _ => ?_)
  clear hK K
  try simp only [Act.put, List.setIfInBounds_toArray, List.set_cons_zero, List.set_cons_succ]
  refine wpAnyH_ready (rs := [9]) (by kernel_rfl) (by simp) ?_
  refine AllReadyH.cons (o := { dst := some 12, op := _, type := _, pos := _, after := _, guard := _ }) rfl (fun K hK => ?_) AllReadyH.nil
  go_simp
  refine (awkc2 _ _ _ HA8.out (by decide)).mono ?_
  rintro e wx9 ⟨rfl, hb9⟩
  have hS9 : Bs w wx9 3 1 := hS8.later hb9
  clear hb9 hS8
  refine hK.out _ _ hS9 (fun _ => ?_)
  clear hK K
  try simp only [Act.put, List.setIfInBounds_toArray, List.set_cons_zero, List.set_cons_succ]
  refine wpAnyH_take (i := 10) (oi := { dst := some 13, op := _, type := _, pos := _, after := _, guard := _ }) (v := ?_) rfl (by kernel_rfl) (by kernel_rfl) (by kernel_rfl) (fun _ _ _ h => h) (Or.inl ⟨by rfl, ?_⟩) hS9 ?_
  rotate_left
  · intro W hSw
    have hSr := hSw.2.2
    go_simp
    first | done | rfl
  try simp only [Act.put, List.setIfInBounds_toArray, List.set_cons_zero, List.set_cons_succ]
  refine wpAnyH_take (i := 11) (oi := { dst := some 14, op := _, type := _, pos := _, after := _, guard := _ }) (v := ?_) rfl (by kernel_rfl) (by kernel_rfl) (by kernel_rfl) (fun _ _ _ h => h) (Or.inl ⟨by rfl, ?_⟩) hS9 ?_
  rotate_left
  · intro W hSw
    have hSr := hSw.2.2
    go_simp
    first | done | rfl
  try simp only [Act.put, List.setIfInBounds_toArray, List.set_cons_zero, List.set_cons_succ]
  refine wpAnyH_take (i := 12) (oi := { dst := some 15, op := _, type := _, pos := _, after := _, guard := _ }) (v := ?_) rfl (by kernel_rfl) (by kernel_rfl) (by kernel_rfl) (fun _ _ _ h => h) (Or.inl ⟨by rfl, ?_⟩) hS9 ?_
  rotate_left
  · intro W hSw
    have hSr := hSw.2.2
    go_simp
    first | done | rfl
  try simp only [Act.put, List.setIfInBounds_toArray, List.set_cons_zero, List.set_cons_succ]
  refine wpAnyH_take (i := 13) (oi := { dst := some 16, op := _, type := _, pos := _, after := _, guard := _ }) (v := ?_) rfl (by kernel_rfl) (by kernel_rfl) (by kernel_rfl) (fun _ _ _ h => h) (Or.inl ⟨by rfl, ?_⟩) hS9 ?_
  rotate_left
  · intro W hSw
    have hSr := hSw.2.2
    go_simp
    first | done | rfl
  try simp only [Act.put, List.setIfInBounds_toArray, List.set_cons_zero, List.set_cons_succ]
  refine wpAnyH_ready (rs := [14]) (by kernel_rfl) (by simp) ?_
  refine AllReadyH.cons (o := { dst := some 17, op := _, type := _, pos := _, after := _, guard := _ }) rfl (fun K hK => ?_) AllReadyH.nil
  go_simp
  refine (lrot_any 1 5 _).mono ?_
  rintro e wx14 ⟨rfl, hb14⟩
  have hS14 : Bs w wx14 3 1 := hS9.later hb14
  clear hb14 hS9
  refine hK.out _ _ hS14 (fun _ => ?_)
  clear hK K
  try simp only [Act.put, List.setIfInBounds_toArray, List.set_cons_zero, List.set_cons_succ]
  refine wpAnyH_ready (rs := [15]) (by kernel_rfl) (by simp) ?_
  refine AllReadyH.cons (o := { dst := some 18, op := _, type := _, pos := _, after := _, guard := _ }) rfl (fun K hK => ?_) AllReadyH.nil
  go_simp
  refine (lrot_any 2 6 _).mono ?_
  rintro e wx15 ⟨rfl, hb15⟩
  have hS15 : Bs w wx15 3 1 := hS14.later hb15
  clear hb15 hS14
  refine hK.out _ _ hS15 (fun _ => ?_)
  clear hK K
  try simp only [Act.put, List.setIfInBounds_toArray, List.set_cons_zero, List.set_cons_succ]
  refine wpAnyH_ready (rs := [16]) (by kernel_rfl) (by simp) ?_
  refine AllReadyH.cons (o := { dst := some 19, op := _, type := _, pos := _, after := _, guard := _ }) rfl (fun K hK => ?_) AllReadyH.nil
  go_simp
  have HA16 := Lib.hid (steps_new wx15 [rotS 1 5, rotS 2 6] 34 #[.int .i64 11, .int .i64 1, .int .i64 0, .int .i64 5, .int .i64 0, .int .i64 1, .int .i64 0, .string ⟨#[]⟩, .slice none 0 0, .int .i64 11, .int .i64 2, .int .i64 0, .int .i64 6, .int .i64 0, .int .i64 1, .int .i64 0, .string ⟨#[]⟩, .slice none 0 0] rfl)
  have hS16 : Bs w (wx15.alloc (.cells #[.int .i64 11, .int .i64 1, .int .i64 0, .int .i64 5, .int .i64 0, .int .i64 1, .int .i64 0, .string ⟨#[]⟩, .slice none 0 0, .int .i64 11, .int .i64 2, .int .i64 0, .int .i64 6, .int .i64 0, .int .i64 1, .int .i64 0, .string ⟨#[]⟩, .slice none 0 0] 34)) 3 1 := hS15.later ((Below.refl _ _).alloc (Nat.le_refl _) _)
  generalize wx15.alloc (.cells #[.int .i64 11, .int .i64 1, .int .i64 0, .int .i64 5, .int .i64 0, .int .i64 1, .int .i64 0, .string ⟨#[]⟩, .slice none 0 0, .int .i64 11, .int .i64 2, .int .i64 0, .int .i64 6, .int .i64 0, .int .i64 1, .int .i64 0, .string ⟨#[]⟩, .slice none 0 0] 34) = wx16 at *
  clear hS15
  refine hK.out _ _ hS16 (fun _ => ?_)
  clear hK K
  try simp only [Act.put, List.setIfInBounds_toArray, List.set_cons_zero, List.set_cons_succ]
  refine wpAnyH_ready (rs := [17]) (by kernel_rfl) (by simp) ?_
  refine AllReadyH.cons (o := { dst := some 20, op := _, type := _, pos := _, after := _, guard := _ }) rfl (fun K hK => ?_) AllReadyH.nil
  go_simp
  refine (awkc3 _ _ _ HA16.out (by decide)).mono ?_
  rintro e wx17 ⟨rfl, hb17⟩
  have hS17 : Bs w wx17 3 1 := hS16.later hb17
  clear hb17 hS16
  refine hK.out _ _ hS17 (fun _ => ?_)
  clear hK K
  try simp only [Act.put, List.setIfInBounds_toArray, List.set_cons_zero, List.set_cons_succ]
  refine wpAnyH_take (i := 18) (oi := { dst := some 21, op := _, type := _, pos := _, after := _, guard := _ }) (v := ?_) rfl (by kernel_rfl) (by kernel_rfl) (by kernel_rfl) (fun _ _ _ h => h) (Or.inl ⟨by rfl, ?_⟩) hS17 ?_
  rotate_left
  · intro W hSw
    have hSr := hSw.2.2
    go_simp
    first | done | rfl
  try simp only [Act.put, List.setIfInBounds_toArray, List.set_cons_zero, List.set_cons_succ]
  refine wpAnyH_take (i := 19) (oi := { dst := some 0, op := _, type := _, pos := _, after := _, guard := _ }) (v := ?_) rfl (by kernel_rfl) (by kernel_rfl) (by kernel_rfl) (fun _ _ _ h => h) (Or.inl ⟨by rfl, ?_⟩) hS17 ?_
  rotate_left
  · intro W hSw
    have hSr := hSw.2.2
    go_simp
    first | done | rfl
  try simp only [Act.put, List.setIfInBounds_toArray, List.set_cons_zero, List.set_cons_succ]
  refine wpAnyH_done (by kernel_rfl) ?_ _
  refine NoPanic.normal ?_
  go_wp2_with fail
  go_ret
  exact ⟨rfl, hS17.1⟩
end Go.Proofs.Ytecaahcmebdglaa

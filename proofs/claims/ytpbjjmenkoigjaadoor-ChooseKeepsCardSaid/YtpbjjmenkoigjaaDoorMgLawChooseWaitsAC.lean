/- Same of the reference, at a log and what is kept of it. -/
import Derived.Test.YtpbjjmenkoigjaaDoorMgLawChooseWaitsAB
import Derived.Test.YtpbjjmenkoigjaaDoorMgLawChooseTurnsAN
namespace Go.Proofs.YtpbjjmenkoigjaaDoor
open Go.RowKit
set_option linter.unusedVariables false
theorem ne_ist (x : Ist) : NeFact 40 x.row x.row false := by
  intro xo yo W
  obtain ⟨a1, ⟨b1, b2, b3, b4, b5⟩, ⟨c1, c2, c3, c4, c5, c6, c7, c8, c9⟩⟩ := x
  unfold Ist.row
  simp [go_sem]
theorem same09_nil (ad : Option Addr) (n cap : Nat) (w : World) (hn : (n : Int) ≤ 9223372036854775807) : Calls Tryd.prog 35 #[.slice ad n cap, .slice none 0 0] w fun e w' => e = .returned (.bool (decide (n = 0))) ∧ Below w.heap.size w w' := by
  by_cases h : n = 0
  · subst h
    rw [decide_eq_true rfl]
    exact same09_eq ad none cap 0 [] w (RowsAt.nil _ _ _) (RowsAt.nil _ _ _) (Nat.zero_le _) (Nat.le_refl _) (Nat.zero_le _)
  · rw [decide_eq_false h]
    have q : ((n : Int) == 0) = false := beq_eq_false_iff_ne.2 (by omega)
    have q2 : ¬ ((n : Int) = 0) := by omega
    go_enter Tryd.func35, Tryd.ntmps35
    go_wp2_with fail
    go_ret
    exact ⟨rfl, Below.refl _ _⟩
def sameP (m : Mst) : Prop := m.es.length = 0 ∧ m.op = 0 ∧ m.cl = 0 ∧ m.se = 0 ∧ m.rq = 0 ∧ m.pn = 0 ∧ m.ix = 0 ∧ m.sz = 0 ∧ (m.s0 = 0 ∧ m.s1 = 0 ∧ m.s2 = 0 ∧ m.s3 = 0 ∧ m.s4 = 0 ∧ m.s5 = 0) ∧ m.e = Est.zero ∧ m.b = ⟨#[]⟩
instance (m : Mst) : Decidable (sameP m) := by unfold sameP; exact inferInstance
def sameB (m : Mst) : Bool := decide (sameP m)
theorem sameB_no (m : Mst) (h : ¬ sameP m) : sameB m = false := decide_eq_false h
theorem sums_load {m : Mst} {b : Nat} {w : World} (h : Blk w b m.row) : (Instr.loadAt 42 (.pointer (some ⟨b, 15, none⟩))).run Tryd.prog w = .ok (.agg #[.int .u64 m.s0, .int .u64 m.s1, .int .u64 m.s2, .int .u64 m.s3, .int .u64 m.s4, .int .u64 m.s5]) w :=
  load_at (cs := #[.int .u64 m.s0, .int .u64 m.s1, .int .u64 m.s2, .int .u64 m.s3, .int .u64 m.s4, .int .u64 m.s5]) (o := 15) 42 _ (h.midrange 15 _ (fun k hk => by match k, hk with | 0, _ => rfl | 1, _ => rfl | 2, _ => rfl | 3, _ => rfl | 4, _ => rfl | 5, _ => rfl)) Tryd.underlying42 rfl (by kernel_rfl)
theorem ment_load {m : Mst} {b : Nat} {w : World} (h : Blk w b m.row) : (Instr.loadAt 35 (.pointer (some ⟨b, 21, none⟩))).run Tryd.prog w = .ok (.agg m.e.row) w :=
  load_at (cs := m.e.row) (o := 21) 35 _ (h.midrange 21 _ (fun k hk => by match k, hk with | 0, _ => rfl | 1, _ => rfl | 2, _ => rfl | 3, _ => rfl | 4, _ => rfl | 5, _ => rfl | 6, _ => rfl | 7, _ => rfl | 8, _ => rfl)) Tryd.underlying35 rfl (by kernel_rfl)
set_option maxRecDepth 100000 in
set_option maxHeartbeats 40000000 in
theorem same17_kept (m : Mst) (w : World) (hk : m.k = 7) (hin : m.In w) : Calls Tryd.prog 42 #[.agg m.row, .agg (keptM m).row] w fun e w' => e = .returned (.bool (sameB m)) ∧ Below w.heap.size w w' := by
  have H0 : Hid (Below w.heap.size w ((w.alloc (.cells m.row 45)).alloc (.cells (keptM m).row 45)) ∧ Blk ((w.alloc (.cells m.row 45)).alloc (.cells (keptM m).row 45)) w.heap.size m.row ∧ Blk ((w.alloc (.cells m.row 45)).alloc (.cells (keptM m).row 45)) (w.heap.size + 1) (keptM m).row) := Lib.hid ⟨((Below.refl _ _).alloc (Nat.le_refl _) _).alloc (by simp) _, Blk.alloc (Blk.new _ _ _ _ rfl) _, Blk.new _ _ _ _ (by simp)⟩
  have HK := Lib.hid hk
  have HIN := Lib.hid hin
  obtain ⟨N, hN⟩ : ∃ N, N = m.is.length := ⟨_, rfl⟩
  have hNl : (N : Int) ≤ 9223372036854775807 := by have := hin.il; omega
  have hEl : (m.es.length : Int) ≤ 9223372036854775807 := by have := hin.el; omega
  have hNc : N ≤ m.ic := by rw [hN]; exact hin.ic
  have HN := Lib.hid hN
  have x31 : ((w.alloc (.cells m.row 45)).alloc (.cells (keptM m).row 45)).cell? ⟨w.heap.size, 31, none⟩ = some (.slice m.ia N m.ic) := by rw [hN]; exact (H0.out.2.1.2 31 _ rfl).1
  have y31 : ((w.alloc (.cells m.row 45)).alloc (.cells (keptM m).row 45)).cell? ⟨w.heap.size + 1, 31, none⟩ = some (.slice m.ia N m.ic) := by rw [hN]; exact (H0.out.2.2.2 31 _ rfl).1
  have x30 : ((w.alloc (.cells m.row 45)).alloc (.cells (keptM m).row 45)).cell? ⟨w.heap.size, 30, none⟩ = some (.slice m.ea m.es.length m.ec) := (H0.out.2.1.2 30 _ rfl).1
  have y30 : ((w.alloc (.cells m.row 45)).alloc (.cells (keptM m).row 45)).cell? ⟨w.heap.size + 1, 30, none⟩ = some (.slice none 0 0) := (H0.out.2.2.2 30 _ rfl).1
  clear hk hin hN
  go_enter Tryd.func42, Tryd.ntmps42
  go_wp2_with fail
  clear x31 y31 x30 y30
  generalize ((w.alloc (.cells m.row 45)).alloc (.cells (keptM m).row 45)) = w1 at *
  refine (same09_nil _ _ _ _ hEl).mono ?_
  rintro e w2 ⟨rfl, hb2⟩
  have H2 : Hid (Below w.heap.size w w2 ∧ Blk w2 w.heap.size m.row ∧ Blk w2 (w.heap.size + 1) (keptM m).row) := Lib.hid ⟨H0.out.1.trans (hb2.mono H0.out.1.size), H0.out.2.1.later hb2, H0.out.2.2.later hb2⟩
  clear hb2 H0
  by_cases he : m.es.length = 0
  rotate_left
  · have HV := Lib.hid (sameB_no m (fun q => he q.1))
    rw [decide_eq_false he]
    go_wp2_with fail
    go_ret
    exact ⟨by rw [HV.out]; rfl, H2.out.1⟩
  rw [decide_eq_true he]
  have HE := Lib.hid he
  clear he hEl
  go_wp2_with fail
  go_loopw [5] (fun iv wr => ∃ j : Nat, j ≤ N ∧ iv = .int .i64 (j : Int) ∧ Below w.heap.size w wr ∧ Blk wr w.heap.size m.row ∧ Blk wr (w.heap.size + 1) (keptM m).row) (fun iv _ => N - (intOf iv).toNat)
  case atStart => exact ⟨0, by omega, rfl, H2.out⟩
  case round =>
    obtain ⟨j, hj, rfl, hbw⟩ := hrel
    have HB := Lib.hid hbw
    clear hbw
    have x31 : wr.cell? ⟨w.heap.size, 31, none⟩ = some (.slice m.ia N m.ic) := by rw [HN.out]; exact (HB.out.2.1.2 31 _ rfl).1
    by_cases hlt : j < N
    · have hlti : (j : Int) < (N : Int) := by omega
      obtain ⟨x, hx⟩ : ∃ x, m.is[j]? = some x := ⟨m.is[j]'(by rw [← HN.out]; exact hlt), List.getElem?_eq_getElem _⟩
      obtain ⟨b, off, had, hbl, hra⟩ := HIN.out.is.range (i := j) (x := x.row) (by rw [List.getElem?_map, hx]; rfl)
      have HLD : Hid (∀ W, Below w.heap.size w W → (Instr.loadAt 40 (.pointer (some ⟨b, off + j * 15, none⟩))).run Tryd.prog W = .ok (.agg x.row) W) := Lib.hid (fun W hW => load_at 40 _ (rangeAt.later hra hbl hW) Tryd.underlying40 rfl (by kernel_rfl))
      have HR0 : Hid (m.row[31]? = some (.slice (some ⟨b, off, none⟩) N m.ic)) := Lib.hid (by rw [HN.out, ← had]; rfl)
      have HR1 : Hid ((keptM m).row[31]? = some (.slice (some ⟨b, off, none⟩) N m.ic)) := Lib.hid (by rw [HN.out, ← had]; rfl)
      clear hra hx hbl had
      go_wp2_with fail
      refine wp_region_noPanic ?_
      refine wp_region_held_drew (S := fun W => Below w.heap.size w W ∧ Blk W w.heap.size m.row ∧ Blk W (w.heap.size + 1) (keptM m).row) (by kernel_rfl) (show Below w.heap.size w wr.drew ∧ Blk wr.drew w.heap.size m.row ∧ Blk wr.drew (w.heap.size + 1) (keptM m).row from ⟨HB.out.1.trans ⟨rfl, rfl, rfl, Nat.le_refl _, fun _ _ => rfl⟩, HB.out.2.1.later ⟨rfl, rfl, rfl, Nat.le_refl _, fun _ _ => rfl⟩, HB.out.2.2.later ⟨rfl, rfl, rfl, Nat.le_refl _, fun _ _ => rfl⟩⟩) (fun hHeld => ?_)
      generalize wr.drew = w3 at *
      refine wpAnyH_take (i := 0) (oi := { dst := some 28, op := _, type := _, pos := _, after := _, guard := _ }) (v := ?_) rfl (by kernel_rfl) (by kernel_rfl) (by kernel_rfl) (fun _ _ _ h => h) (Or.inl ⟨by rfl, ?_⟩) hHeld ?_
      rotate_left
      · intro W hSw
        have d0 : W.cell? ⟨w.heap.size, 31, none⟩ = some (.slice (some ⟨b, off, none⟩) N m.ic) := (hSw.2.1.2 31 _ HR0.out).1
        have d1 : W.cell? ⟨w.heap.size + 1, 31, none⟩ = some (.slice (some ⟨b, off, none⟩) N m.ic) := (hSw.2.2.2 31 _ HR1.out).1
        go_simp
        first | done | rfl
      try simp only [Act.put, List.setIfInBounds_toArray, List.set_cons_zero, List.set_cons_succ]
      refine wpAnyH_take (i := 2) (oi := { dst := some 30, op := _, type := _, pos := _, after := _, guard := _ }) (v := ?_) rfl (by kernel_rfl) (by kernel_rfl) (by kernel_rfl) (fun _ _ _ h => h) (Or.inl ⟨by rfl, ?_⟩) hHeld ?_
      rotate_left
      · intro W hSw
        have d0 : W.cell? ⟨w.heap.size, 31, none⟩ = some (.slice (some ⟨b, off, none⟩) N m.ic) := (hSw.2.1.2 31 _ HR0.out).1
        have d1 : W.cell? ⟨w.heap.size + 1, 31, none⟩ = some (.slice (some ⟨b, off, none⟩) N m.ic) := (hSw.2.2.2 31 _ HR1.out).1
        go_simp
        first | done | rfl
      try simp only [Act.put, List.setIfInBounds_toArray, List.set_cons_zero, List.set_cons_succ]
      refine wpAnyH_take (i := 5) (oi := { dst := some 33, op := _, type := _, pos := _, after := _, guard := _ }) (v := ?_) rfl (by kernel_rfl) (by kernel_rfl) (by kernel_rfl) (fun _ _ _ h => h) (Or.inl ⟨by rfl, ?_⟩) hHeld ?_
      rotate_left
      · intro W hSw
        have d0 : W.cell? ⟨w.heap.size, 31, none⟩ = some (.slice (some ⟨b, off, none⟩) N m.ic) := (hSw.2.1.2 31 _ HR0.out).1
        have d1 : W.cell? ⟨w.heap.size + 1, 31, none⟩ = some (.slice (some ⟨b, off, none⟩) N m.ic) := (hSw.2.2.2 31 _ HR1.out).1
        go_simp
        first | done | rfl
      try simp only [Act.put, List.setIfInBounds_toArray, List.set_cons_zero, List.set_cons_succ]
      refine wpAnyH_take (i := 7) (oi := { dst := some 35, op := _, type := _, pos := _, after := _, guard := _ }) (v := ?_) rfl (by kernel_rfl) (by kernel_rfl) (by kernel_rfl) (fun _ _ _ h => h) (Or.inl ⟨by rfl, ?_⟩) hHeld ?_
      rotate_left
      · intro W hSw
        have d0 : W.cell? ⟨w.heap.size, 31, none⟩ = some (.slice (some ⟨b, off, none⟩) N m.ic) := (hSw.2.1.2 31 _ HR0.out).1
        have d1 : W.cell? ⟨w.heap.size + 1, 31, none⟩ = some (.slice (some ⟨b, off, none⟩) N m.ic) := (hSw.2.2.2 31 _ HR1.out).1
        go_simp
        first | done | rfl
      try simp only [Act.put, List.setIfInBounds_toArray, List.set_cons_zero, List.set_cons_succ]
      refine wpAnyH_take (i := 1) (oi := { dst := some 29, op := _, type := _, pos := _, after := _, guard := _ }) (v := ?_) rfl (by kernel_rfl) (by kernel_rfl) (by kernel_rfl) (fun _ _ _ h => h) (Or.inl ⟨by rfl, ?_⟩) hHeld ?_
      rotate_left
      · intro W hSw
        have d0 : W.cell? ⟨w.heap.size, 31, none⟩ = some (.slice (some ⟨b, off, none⟩) N m.ic) := (hSw.2.1.2 31 _ HR0.out).1
        have d1 : W.cell? ⟨w.heap.size + 1, 31, none⟩ = some (.slice (some ⟨b, off, none⟩) N m.ic) := (hSw.2.2.2 31 _ HR1.out).1
        go_simp
        first | done | rfl
      try simp only [Act.put, List.setIfInBounds_toArray, List.set_cons_zero, List.set_cons_succ]
      refine wpAnyH_take (i := 6) (oi := { dst := some 34, op := _, type := _, pos := _, after := _, guard := _ }) (v := ?_) rfl (by kernel_rfl) (by kernel_rfl) (by kernel_rfl) (fun _ _ _ h => h) (Or.inl ⟨by rfl, ?_⟩) hHeld ?_
      rotate_left
      · intro W hSw
        have d0 : W.cell? ⟨w.heap.size, 31, none⟩ = some (.slice (some ⟨b, off, none⟩) N m.ic) := (hSw.2.1.2 31 _ HR0.out).1
        have d1 : W.cell? ⟨w.heap.size + 1, 31, none⟩ = some (.slice (some ⟨b, off, none⟩) N m.ic) := (hSw.2.2.2 31 _ HR1.out).1
        go_simp
        first | done | rfl
      try simp only [Act.put, List.setIfInBounds_toArray, List.set_cons_zero, List.set_cons_succ]
      refine wpAnyH_take (i := 3) (oi := { dst := some 31, op := _, type := _, pos := _, after := _, guard := _ }) (v := ?_) rfl (by kernel_rfl) (by kernel_rfl) (by kernel_rfl) (fun _ _ _ h => h) (Or.inl ⟨by rfl, ?_⟩) hHeld ?_
      rotate_left
      · intro W hSw
        have d0 : W.cell? ⟨w.heap.size, 31, none⟩ = some (.slice (some ⟨b, off, none⟩) N m.ic) := (hSw.2.1.2 31 _ HR0.out).1
        have d1 : W.cell? ⟨w.heap.size + 1, 31, none⟩ = some (.slice (some ⟨b, off, none⟩) N m.ic) := (hSw.2.2.2 31 _ HR1.out).1
        go_simp
        first | done | rfl
      try simp only [Act.put, List.setIfInBounds_toArray, List.set_cons_zero, List.set_cons_succ]
      refine wpAnyH_take (i := 8) (oi := { dst := some 36, op := _, type := _, pos := _, after := _, guard := _ }) (v := ?_) rfl (by kernel_rfl) (by kernel_rfl) (by kernel_rfl) (fun _ _ _ h => h) (Or.inl ⟨by rfl, ?_⟩) hHeld ?_
      rotate_left
      · intro W hSw
        have d0 : W.cell? ⟨w.heap.size, 31, none⟩ = some (.slice (some ⟨b, off, none⟩) N m.ic) := (hSw.2.1.2 31 _ HR0.out).1
        have d1 : W.cell? ⟨w.heap.size + 1, 31, none⟩ = some (.slice (some ⟨b, off, none⟩) N m.ic) := (hSw.2.2.2 31 _ HR1.out).1
        go_simp
        first | done | rfl
      try simp only [Act.put, List.setIfInBounds_toArray, List.set_cons_zero, List.set_cons_succ]
      refine wpAnyH_take (i := 4) (oi := { dst := some 32, op := _, type := _, pos := _, after := _, guard := _ }) (v := .agg x.row) rfl (by kernel_rfl) (by kernel_rfl) (by kernel_rfl) (fun _ _ _ h => h) (Or.inl ⟨by rfl, ?_⟩) hHeld ?_
      · intro W hSw
        have d0 : W.cell? ⟨w.heap.size, 31, none⟩ = some (.slice (some ⟨b, off, none⟩) N m.ic) := (hSw.2.1.2 31 _ HR0.out).1
        have d1 : W.cell? ⟨w.heap.size + 1, 31, none⟩ = some (.slice (some ⟨b, off, none⟩) N m.ic) := (hSw.2.2.2 31 _ HR1.out).1
        exact exec_load 40 (Operand.tmp 31) rfl rfl (HLD.out W hSw.1)
      try simp only [Act.put, List.setIfInBounds_toArray, List.set_cons_zero, List.set_cons_succ]
      refine wpAnyH_take (i := 9) (oi := { dst := some 37, op := _, type := _, pos := _, after := _, guard := _ }) (v := .agg x.row) rfl (by kernel_rfl) (by kernel_rfl) (by kernel_rfl) (fun _ _ _ h => h) (Or.inl ⟨by rfl, ?_⟩) hHeld ?_
      · intro W hSw
        have d0 : W.cell? ⟨w.heap.size, 31, none⟩ = some (.slice (some ⟨b, off, none⟩) N m.ic) := (hSw.2.1.2 31 _ HR0.out).1
        have d1 : W.cell? ⟨w.heap.size + 1, 31, none⟩ = some (.slice (some ⟨b, off, none⟩) N m.ic) := (hSw.2.2.2 31 _ HR1.out).1
        exact exec_load 40 (Operand.tmp 36) rfl rfl (HLD.out W hSw.1)
      try simp only [Act.put, List.setIfInBounds_toArray, List.set_cons_zero, List.set_cons_succ]
      refine wpAnyH_take (i := 10) (oi := { dst := some 38, op := _, type := _, pos := _, after := _, guard := _ }) (v := .bool false) rfl (by kernel_rfl) (by kernel_rfl) (by kernel_rfl) (fun _ _ _ h => h) (Or.inl ⟨by rfl, ?_⟩) hHeld ?_
      · intro W hSw
        have d0 : W.cell? ⟨w.heap.size, 31, none⟩ = some (.slice (some ⟨b, off, none⟩) N m.ic) := (hSw.2.1.2 31 _ HR0.out).1
        have d1 : W.cell? ⟨w.heap.size + 1, 31, none⟩ = some (.slice (some ⟨b, off, none⟩) N m.ic) := (hSw.2.2.2 31 _ HR1.out).1
        exact exec_neq 40 _ (Operand.tmp 32) (Operand.tmp 37) rfl rfl rfl (ne_ist x)
      try simp only [Act.put, List.setIfInBounds_toArray, List.set_cons_zero, List.set_cons_succ]
      refine wpAnyH_done (by kernel_rfl) ?_ _
      refine NoPanic.normal ?_
      go_wp2_with fail
      go_roundw
      case rel => exact ⟨j + 1, by omega, by go_num, hHeld⟩
      case measure => simp [intOf]; omega

    · obtain rfl : N = j := by omega
      have a0 : wr.cell? ⟨w.heap.size, 0, none⟩ = some (.int .i64 7) := (by rw [← HK.out]; exact (HB.out.2.1.2 0 _ rfl).1)
      have b0 : wr.cell? ⟨w.heap.size + 1, 0, none⟩ = some (.int .i64 7) := (HB.out.2.2.2 0 _ rfl).1
      have a1 : wr.cell? ⟨w.heap.size, 1, none⟩ = some (.int .i64 m.f) := (HB.out.2.1.2 1 _ rfl).1
      have b1 : wr.cell? ⟨w.heap.size + 1, 1, none⟩ = some (.int .i64 m.f) := (HB.out.2.2.2 1 _ rfl).1
      have a2 : wr.cell? ⟨w.heap.size, 2, none⟩ = some (.int .i64 m.v) := (HB.out.2.1.2 2 _ rfl).1
      have b2 : wr.cell? ⟨w.heap.size + 1, 2, none⟩ = some (.int .i64 m.v) := (HB.out.2.2.2 2 _ rfl).1
      have a3 : wr.cell? ⟨w.heap.size, 3, none⟩ = some (.int .i64 m.lv) := (HB.out.2.1.2 3 _ rfl).1
      have b3 : wr.cell? ⟨w.heap.size + 1, 3, none⟩ = some (.int .i64 m.lv) := (HB.out.2.2.2 3 _ rfl).1
      have a4 : wr.cell? ⟨w.heap.size, 4, none⟩ = some (.int .i64 m.op) := (HB.out.2.1.2 4 _ rfl).1
      have b4 : wr.cell? ⟨w.heap.size + 1, 4, none⟩ = some (.int .i64 0) := (HB.out.2.2.2 4 _ rfl).1
      have a5 : wr.cell? ⟨w.heap.size, 5, none⟩ = some (.int .i64 m.cm) := (HB.out.2.1.2 5 _ rfl).1
      have b5 : wr.cell? ⟨w.heap.size + 1, 5, none⟩ = some (.int .i64 m.cm) := (HB.out.2.2.2 5 _ rfl).1
      have a6 : wr.cell? ⟨w.heap.size, 6, none⟩ = some (.int .i64 m.cl) := (HB.out.2.1.2 6 _ rfl).1
      have b6 : wr.cell? ⟨w.heap.size + 1, 6, none⟩ = some (.int .i64 0) := (HB.out.2.2.2 6 _ rfl).1
      have a7 : wr.cell? ⟨w.heap.size, 7, none⟩ = some (.int .i64 m.se) := (HB.out.2.1.2 7 _ rfl).1
      have b7 : wr.cell? ⟨w.heap.size + 1, 7, none⟩ = some (.int .i64 0) := (HB.out.2.2.2 7 _ rfl).1
      have a8 : wr.cell? ⟨w.heap.size, 8, none⟩ = some (.int .i64 m.rq) := (HB.out.2.1.2 8 _ rfl).1
      have b8 : wr.cell? ⟨w.heap.size + 1, 8, none⟩ = some (.int .i64 0) := (HB.out.2.2.2 8 _ rfl).1
      have a9 : wr.cell? ⟨w.heap.size, 9, none⟩ = some (.int .i64 m.pn) := (HB.out.2.1.2 9 _ rfl).1
      have b9 : wr.cell? ⟨w.heap.size + 1, 9, none⟩ = some (.int .i64 0) := (HB.out.2.2.2 9 _ rfl).1
      have a10 : wr.cell? ⟨w.heap.size, 10, none⟩ = some (.int .i64 m.ix) := (HB.out.2.1.2 10 _ rfl).1
      have b10 : wr.cell? ⟨w.heap.size + 1, 10, none⟩ = some (.int .i64 0) := (HB.out.2.2.2 10 _ rfl).1
      have a11 : wr.cell? ⟨w.heap.size, 11, none⟩ = some (.int .i64 m.sz) := (HB.out.2.1.2 11 _ rfl).1
      have b11 : wr.cell? ⟨w.heap.size + 1, 11, none⟩ = some (.int .i64 0) := (HB.out.2.2.2 11 _ rfl).1
      by_cases hop : m.op = 0
      rotate_left
      · have HV := Lib.hid (sameB_no m (fun q => hop q.2.1))
        have q1 : (m.op == 0) = false := beq_eq_false_iff_ne.2 hop
        go_wp2_with fail
        go_ret
        exact ⟨by rw [HV.out]; rfl, HB.out.1⟩
      have Hop := Lib.hid hop
      rw [hop] at a4
      clear hop
      by_cases hcl : m.cl = 0
      rotate_left
      · have HV := Lib.hid (sameB_no m (fun q => hcl q.2.2.1))
        have q1 : (m.cl == 0) = false := beq_eq_false_iff_ne.2 hcl
        go_wp2_with fail
        go_ret
        exact ⟨by rw [HV.out]; rfl, HB.out.1⟩
      have Hcl := Lib.hid hcl
      rw [hcl] at a6
      clear hcl
      by_cases hse : m.se = 0
      rotate_left
      · have HV := Lib.hid (sameB_no m (fun q => hse q.2.2.2.1))
        have q1 : (m.se == 0) = false := beq_eq_false_iff_ne.2 hse
        go_wp2_with fail
        go_ret
        exact ⟨by rw [HV.out]; rfl, HB.out.1⟩
      have Hse := Lib.hid hse
      rw [hse] at a7
      clear hse
      by_cases hrq : m.rq = 0
      rotate_left
      · have HV := Lib.hid (sameB_no m (fun q => hrq q.2.2.2.2.1))
        have q1 : (m.rq == 0) = false := beq_eq_false_iff_ne.2 hrq
        go_wp2_with fail
        go_ret
        exact ⟨by rw [HV.out]; rfl, HB.out.1⟩
      have Hrq := Lib.hid hrq
      rw [hrq] at a8
      clear hrq
      by_cases hpn : m.pn = 0
      rotate_left
      · have HV := Lib.hid (sameB_no m (fun q => hpn q.2.2.2.2.2.1))
        have q1 : (m.pn == 0) = false := beq_eq_false_iff_ne.2 hpn
        go_wp2_with fail
        go_ret
        exact ⟨by rw [HV.out]; rfl, HB.out.1⟩
      have Hpn := Lib.hid hpn
      rw [hpn] at a9
      clear hpn
      by_cases hix : m.ix = 0
      rotate_left
      · have HV := Lib.hid (sameB_no m (fun q => hix q.2.2.2.2.2.2.1))
        have q1 : (m.ix == 0) = false := beq_eq_false_iff_ne.2 hix
        go_wp2_with fail
        go_ret
        exact ⟨by rw [HV.out]; rfl, HB.out.1⟩
      have Hix := Lib.hid hix
      rw [hix] at a10
      clear hix
      by_cases hsz : m.sz = 0
      rotate_left
      · have HV := Lib.hid (sameB_no m (fun q => hsz q.2.2.2.2.2.2.2.1))
        have q1 : (m.sz == 0) = false := beq_eq_false_iff_ne.2 hsz
        go_wp2_with fail
        go_ret
        exact ⟨by rw [HV.out]; rfl, HB.out.1⟩
      have Hsz := Lib.hid hsz
      rw [hsz] at a11
      clear hsz
      have lm := Lib.hid (mark_load HB.out.2.1)
      have lm2 := Lib.hid (mark_load HB.out.2.2)
      have ls := Lib.hid (sums_load HB.out.2.1)
      have ls2 := Lib.hid (sums_load HB.out.2.2)
      have le := Lib.hid (ment_load HB.out.2.1)
      have le2 := Lib.hid (ment_load HB.out.2.2)
      have eM : EqFact 27 #[.int .i64 m.co, .int .i64 m.cv, .int .u64 m.cs] #[.int .i64 m.co, .int .i64 m.cv, .int .u64 m.cs] true := by have := eq_mark m.co m.cv m.cs m.co m.cv m.cs; rw [decide_eq_true ⟨rfl, rfl, rfl⟩] at this; exact this
      have eM := Lib.hid eM
      have aS : wr.cell? ⟨w.heap.size, 32, none⟩ = some (.string m.b) := (HB.out.2.1.2 32 _ rfl).1
      have bS : wr.cell? ⟨w.heap.size + 1, 32, none⟩ = some (.string ⟨#[]⟩) := (HB.out.2.2.2 32 _ rfl).1
      by_cases hS : m.s0 = 0 ∧ m.s1 = 0 ∧ m.s2 = 0 ∧ m.s3 = 0 ∧ m.s4 = 0 ∧ m.s5 = 0
      rotate_left
      · have HV := Lib.hid (sameB_no m (fun q => hS q.2.2.2.2.2.2.2.2.1))
        have eS : Hid (EqFact 42 #[.int .u64 m.s0, .int .u64 m.s1, .int .u64 m.s2, .int .u64 m.s3, .int .u64 m.s4, .int .u64 m.s5] #[.int .u64 0, .int .u64 0, .int .u64 0, .int .u64 0, .int .u64 0, .int .u64 0] false) := Lib.hid (by have := eq_sums m.s0 m.s1 m.s2 m.s3 m.s4 m.s5 0 0 0 0 0 0; rw [decide_eq_false hS] at this; exact this)
        clear hS
        go_wp2_with (first | (guard_target =~ wpList _ _ _ (⟨_, Op.load _ (Operand.tmp 119), _, _, _, _⟩ :: _) _ _; refine wpList_load_w 27 (Operand.tmp 119) (by kernel_rfl) rfl lm.out rfl ?_) | (guard_target =~ wpList _ _ _ (⟨_, Op.load _ (Operand.tmp 121), _, _, _, _⟩ :: _) _ _; refine wpList_load_w 27 (Operand.tmp 121) (by kernel_rfl) rfl lm2.out rfl ?_) | (guard_target =~ wpList _ _ _ (⟨_, Op.binOp _ _ (Operand.tmp 120) (Operand.tmp 122) _, _, _, _, _⟩ :: _) _ _; refine wpList_eql 27 _ (Operand.tmp 120) (Operand.tmp 122) (by kernel_rfl) rfl eM.out rfl rfl ?_) | (guard_target =~ wpList _ _ _ (⟨_, Op.load _ (Operand.tmp 125), _, _, _, _⟩ :: _) _ _; refine wpList_load_w 42 (Operand.tmp 125) (by kernel_rfl) rfl ls.out rfl ?_) | (guard_target =~ wpList _ _ _ (⟨_, Op.load _ (Operand.tmp 127), _, _, _, _⟩ :: _) _ _; refine wpList_load_w 42 (Operand.tmp 127) (by kernel_rfl) rfl ls2.out rfl ?_) | (guard_target =~ wpList _ _ _ (⟨_, Op.binOp _ _ (Operand.tmp 126) (Operand.tmp 128) _, _, _, _, _⟩ :: _) _ _; refine wpList_eql 42 _ (Operand.tmp 126) (Operand.tmp 128) (by kernel_rfl) rfl eS.out rfl rfl ?_) | (guard_target =~ wpList _ _ _ (⟨_, Op.load _ (Operand.tmp 132), _, _, _, _⟩ :: _) _ _; refine wpList_load_w 35 (Operand.tmp 132) (by kernel_rfl) rfl le.out rfl ?_) | (guard_target =~ wpList _ _ _ (⟨_, Op.load _ (Operand.tmp 134), _, _, _, _⟩ :: _) _ _; refine wpList_load_w 35 (Operand.tmp 134) (by kernel_rfl) rfl le2.out rfl ?_) | (guard_target =~ wpList _ _ _ (⟨_, Op.binOp _ _ (Operand.tmp 133) (Operand.tmp 135) _, _, _, _, _⟩ :: _) _ _; refine wpList_eql 35 _ (Operand.tmp 133) (Operand.tmp 135) (by kernel_rfl) rfl eX.out rfl rfl ?_))
        go_ret
        exact ⟨by rw [HV.out]; rfl, HB.out.1⟩
      have HS := Lib.hid hS
      have eS : Hid (EqFact 42 #[.int .u64 m.s0, .int .u64 m.s1, .int .u64 m.s2, .int .u64 m.s3, .int .u64 m.s4, .int .u64 m.s5] #[.int .u64 0, .int .u64 0, .int .u64 0, .int .u64 0, .int .u64 0, .int .u64 0] true) := Lib.hid (by have := eq_sums m.s0 m.s1 m.s2 m.s3 m.s4 m.s5 0 0 0 0 0 0; rw [decide_eq_true hS] at this; exact this)
      clear hS
      by_cases hX : m.e = Est.zero
      rotate_left
      · have HV := Lib.hid (sameB_no m (fun q => hX q.2.2.2.2.2.2.2.2.2.1))
        have eX : Hid (EqFact 35 m.e.row Est.zero.row false) := Lib.hid (by have := eq_est m.e Est.zero; rw [decide_eq_false hX] at this; exact this)
        clear hX
        go_wp2_with (first | (guard_target =~ wpList _ _ _ (⟨_, Op.load _ (Operand.tmp 119), _, _, _, _⟩ :: _) _ _; refine wpList_load_w 27 (Operand.tmp 119) (by kernel_rfl) rfl lm.out rfl ?_) | (guard_target =~ wpList _ _ _ (⟨_, Op.load _ (Operand.tmp 121), _, _, _, _⟩ :: _) _ _; refine wpList_load_w 27 (Operand.tmp 121) (by kernel_rfl) rfl lm2.out rfl ?_) | (guard_target =~ wpList _ _ _ (⟨_, Op.binOp _ _ (Operand.tmp 120) (Operand.tmp 122) _, _, _, _, _⟩ :: _) _ _; refine wpList_eql 27 _ (Operand.tmp 120) (Operand.tmp 122) (by kernel_rfl) rfl eM.out rfl rfl ?_) | (guard_target =~ wpList _ _ _ (⟨_, Op.load _ (Operand.tmp 125), _, _, _, _⟩ :: _) _ _; refine wpList_load_w 42 (Operand.tmp 125) (by kernel_rfl) rfl ls.out rfl ?_) | (guard_target =~ wpList _ _ _ (⟨_, Op.load _ (Operand.tmp 127), _, _, _, _⟩ :: _) _ _; refine wpList_load_w 42 (Operand.tmp 127) (by kernel_rfl) rfl ls2.out rfl ?_) | (guard_target =~ wpList _ _ _ (⟨_, Op.binOp _ _ (Operand.tmp 126) (Operand.tmp 128) _, _, _, _, _⟩ :: _) _ _; refine wpList_eql 42 _ (Operand.tmp 126) (Operand.tmp 128) (by kernel_rfl) rfl eS.out rfl rfl ?_) | (guard_target =~ wpList _ _ _ (⟨_, Op.load _ (Operand.tmp 132), _, _, _, _⟩ :: _) _ _; refine wpList_load_w 35 (Operand.tmp 132) (by kernel_rfl) rfl le.out rfl ?_) | (guard_target =~ wpList _ _ _ (⟨_, Op.load _ (Operand.tmp 134), _, _, _, _⟩ :: _) _ _; refine wpList_load_w 35 (Operand.tmp 134) (by kernel_rfl) rfl le2.out rfl ?_) | (guard_target =~ wpList _ _ _ (⟨_, Op.binOp _ _ (Operand.tmp 133) (Operand.tmp 135) _, _, _, _, _⟩ :: _) _ _; refine wpList_eql 35 _ (Operand.tmp 133) (Operand.tmp 135) (by kernel_rfl) rfl eX.out rfl rfl ?_))
        go_ret
        exact ⟨by rw [HV.out]; rfl, HB.out.1⟩
      have HX := Lib.hid hX
      have eX : Hid (EqFact 35 m.e.row Est.zero.row true) := Lib.hid (by have := eq_est m.e Est.zero; rw [decide_eq_true hX] at this; exact this)
      clear hX
      go_wp2_with (first | (guard_target =~ wpList _ _ _ (⟨_, Op.load _ (Operand.tmp 119), _, _, _, _⟩ :: _) _ _; refine wpList_load_w 27 (Operand.tmp 119) (by kernel_rfl) rfl lm.out rfl ?_) | (guard_target =~ wpList _ _ _ (⟨_, Op.load _ (Operand.tmp 121), _, _, _, _⟩ :: _) _ _; refine wpList_load_w 27 (Operand.tmp 121) (by kernel_rfl) rfl lm2.out rfl ?_) | (guard_target =~ wpList _ _ _ (⟨_, Op.binOp _ _ (Operand.tmp 120) (Operand.tmp 122) _, _, _, _, _⟩ :: _) _ _; refine wpList_eql 27 _ (Operand.tmp 120) (Operand.tmp 122) (by kernel_rfl) rfl eM.out rfl rfl ?_) | (guard_target =~ wpList _ _ _ (⟨_, Op.load _ (Operand.tmp 125), _, _, _, _⟩ :: _) _ _; refine wpList_load_w 42 (Operand.tmp 125) (by kernel_rfl) rfl ls.out rfl ?_) | (guard_target =~ wpList _ _ _ (⟨_, Op.load _ (Operand.tmp 127), _, _, _, _⟩ :: _) _ _; refine wpList_load_w 42 (Operand.tmp 127) (by kernel_rfl) rfl ls2.out rfl ?_) | (guard_target =~ wpList _ _ _ (⟨_, Op.binOp _ _ (Operand.tmp 126) (Operand.tmp 128) _, _, _, _, _⟩ :: _) _ _; refine wpList_eql 42 _ (Operand.tmp 126) (Operand.tmp 128) (by kernel_rfl) rfl eS.out rfl rfl ?_) | (guard_target =~ wpList _ _ _ (⟨_, Op.load _ (Operand.tmp 132), _, _, _, _⟩ :: _) _ _; refine wpList_load_w 35 (Operand.tmp 132) (by kernel_rfl) rfl le.out rfl ?_) | (guard_target =~ wpList _ _ _ (⟨_, Op.load _ (Operand.tmp 134), _, _, _, _⟩ :: _) _ _; refine wpList_load_w 35 (Operand.tmp 134) (by kernel_rfl) rfl le2.out rfl ?_) | (guard_target =~ wpList _ _ _ (⟨_, Op.binOp _ _ (Operand.tmp 133) (Operand.tmp 135) _, _, _, _, _⟩ :: _) _ _; refine wpList_eql 35 _ (Operand.tmp 133) (Operand.tmp 135) (by kernel_rfl) rfl eX.out rfl rfl ?_))
      go_ret
      refine ⟨?_, HB.out.1⟩
      have hs : sameB m = m.b.toList.isEmpty := by
        rw [bytes_isEmpty]
        unfold sameB
        refine decide_eq_decide.2 ⟨fun q => q.2.2.2.2.2.2.2.2.2.2, fun q => ⟨HE.out, Hop.out, Hcl.out, Hse.out, Hrq.out, Hpn.out, Hix.out, Hsz.out, HS.out, HX.out, q⟩⟩
      rw [hs]
      rfl
end Go.Proofs.YtpbjjmenkoigjaaDoor

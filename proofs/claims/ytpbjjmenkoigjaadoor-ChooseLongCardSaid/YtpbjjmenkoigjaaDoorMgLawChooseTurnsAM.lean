/- awake of the law: the walk. -/
import Derived.Test.YtpbjjmenkoigjaaDoorMgLawChooseTurnsAL
namespace Go.Proofs.YtpbjjmenkoigjaaDoor
open Go.RowKit
set_option linter.unusedVariables false
structure AwI (w wr : World) (p2 p3 ga gb : Nat) (isb : List Ist) : Prop where
  below : Below w.heap.size w wr
  a : Blk wr p2 (logM 1 1 ga isA).row
  b : Blk wr p3 (logM 2 2 gb isB).row
  ia : RowB 15 wr ga (isA.map Ist.row)
  ib : RowB 15 wr gb (isb.map Ist.row)
  gl : Gl wr
theorem AwI.later {w wr w' : World} {p2 p3 ga gb : Nat} {isb : List Ist} (h : AwI w wr p2 p3 ga gb isb) (hb : Below wr.heap.size wr w') : AwI w w' p2 p3 ga gb isb :=
  ⟨h.below.trans (hb.mono h.below.size), h.a.later hb, h.b.later hb, h.ia.later hb, h.ib.later hb, h.gl.later hb⟩
structure AwJ (w wr : World) (p2 p3 p4 p5 ga gb : Nat) (X Y : Array Value) : Prop where
  i : AwI w wr p2 p3 ga gb isU
  x : Blk wr p4 X
  y : Blk wr p5 Y
theorem AwJ.below {w wr : World} {p2 p3 p4 p5 ga gb : Nat} {X Y : Array Value} (h : AwJ w wr p2 p3 p4 p5 ga gb X Y) : Below w.heap.size w wr := h.i.below
theorem AwJ.gl {w wr : World} {p2 p3 p4 p5 ga gb : Nat} {X Y : Array Value} (h : AwJ w wr p2 p3 p4 p5 ga gb X Y) : Gl wr := h.i.gl
theorem AwJ.later {w wr w' : World} {p2 p3 p4 p5 ga gb : Nat} {X Y : Array Value} (h : AwJ w wr p2 p3 p4 p5 ga gb X Y) (hb : Below wr.heap.size wr w') : AwJ w w' p2 p3 p4 p5 ga gb X Y := ⟨h.i.later hb, h.x.later hb, h.y.later hb⟩
theorem AwJ.turned {p6 : Nat} {w wr w' : World} {p2 p3 p4 p5 ga gb : Nat} {X Y : Array Value} (h : AwJ w wr p2 p3 p4 p5 ga gb X Y) (ht : Turned (fun q => q = p6) wr w') (h2 : p2 ≠ p6) (h3 : p3 ≠ p6) (h4 : p4 ≠ p6) (h5 : p5 ≠ p6) (ha : ga ≠ p6) (hb : gb ≠ p6) (h0 : 0 ≠ p6) (hw : ∀ q, q = p6 → w.heap.size ≤ q) : AwJ w w' p2 p3 p4 p5 ga gb X Y :=
  ⟨⟨h.i.below.trans (ht.below hw h.i.below.size), h.i.a.turned ht h2, h.i.b.turned ht h3, h.i.ia.turned ht ha, h.i.ib.turned ht hb, (ht.cell (p := ⟨0, 6, none⟩) (cell_lt h.i.gl) h0).trans h.i.gl⟩, h.x.turned ht h4, h.y.turned ht h5⟩
theorem rowU (gb : Nat) : (logM 2 2 gb isU).row = (logM 2 2 gb isB).row := logM_row _ _ _ _ _ rfl
theorem logs2 {w wr : World} {p2 p3 ga gb g : Nat} {isb : List Ist} (h : AwI w wr p2 p3 ga gb isb) (hr : RowB 33 wr g ([logM 1 1 ga isA, logM 2 2 gb isB].map Mst.row)) (h8 : isb.length = 8) (hok : ∀ x ∈ isb, x.Ok) : LogsAt wr (some ⟨g, 0, none⟩) 2 [logM 1 1 ga isA, logM 2 2 gb isb] := by
  refine ⟨?_, Nat.le_refl _, by show 2 ≤ 1000; decide, fun m hm => ?_⟩
  · have : [logM 1 1 ga isA, logM 2 2 gb isb].map Mst.row = [logM 1 1 ga isA, logM 2 2 gb isB].map Mst.row := by
      simp only [List.map_cons, List.map_nil]
      rw [logM_row 2 2 gb isb isB (by rw [h8]; rfl)]
    rw [this]
    exact hr.rowsAt
  · simp only [List.mem_cons, List.not_mem_nil, or_false] at hm
    rcases hm with rfl | rfl
    · exact logM_in h.ia (by decide) isA_ok
    · exact logM_in h.ib (by omega) hok
theorem logs3 {w wr : World} {p2 p3 p4 p5 ga gb gc g : Nat} {X Y : Array Value} (h : AwJ w wr p2 p3 p4 p5 ga gb X Y) (hr : RowB 33 wr g ([logM 1 1 ga isA, logM 2 2 gb isB, logM 3 0 gc isZ].map Mst.row)) (hc : RowB 15 wr gc (isZ.map Ist.row)) : LogsAt wr (some ⟨g, 0, none⟩) 3 [logM 1 1 ga isA, logM 2 2 gb isU, logM 3 0 gc isZ] := by
  refine ⟨?_, Nat.le_refl _, by show 3 ≤ 1000; decide, fun m hm => ?_⟩
  · have : [logM 1 1 ga isA, logM 2 2 gb isU, logM 3 0 gc isZ].map Mst.row = [logM 1 1 ga isA, logM 2 2 gb isB, logM 3 0 gc isZ].map Mst.row := by
      simp only [List.map_cons, List.map_nil]
      rw [rowU]
    rw [this]
    exact hr.rowsAt
  · simp only [List.mem_cons, List.not_mem_nil, or_false] at hm
    rcases hm with rfl | rfl | rfl
    · exact logM_in h.i.ia (by decide) isA_ok
    · exact logM_in h.i.ib (by decide) isU_ok
    · exact logM_in hc (by decide) isZ_ok
set_option maxRecDepth 100000 in
set_option maxHeartbeats 20000000 in
theorem awake18_any (w : World) (hg : Gl w) : Calls Tryd.prog 8 #[] w fun e w' => e = .returned (.bool true) ∧ Below w.heap.size w w' := by
  have HCH : Hid (∀ W, Calls Tryd.prog 22 #[.int .i64 2] W fun e w' => (∃ ad cap, e = .returned (.slice ad 2 cap) ∧ RowsAt 9 w' ad ([E1, E2].map Est.row) ∧ 2 ≤ cap) ∧ Below W.heap.size W w') := Lib.hid (fun W => by have := lchain_any 2 W (by decide); rw [chain2] at this; exact this)
  have HLZ : Hid (∀ W, Calls Tryd.prog 21 #[.int .i64 3, .int .i64 0, .slice none 0 0] W fun e w' => (∃ g, e = .returned (.agg (logM 3 0 g isZ).row) ∧ RowB 15 w' g (isZ.map Ist.row) ∧ W.heap.size ≤ g) ∧ Below W.heap.size W w') := Lib.hid (fun W => log_any 3 0 none 0 [] W (RowsAt.nil _ _ _) (by decide) (by decide) (fun e he => by cases he))
  go_enter Tryd.func8, Tryd.ntmps8
  go_wp2_with fail
  refine (HCH.out _).mono ?_
  rintro e w1 ⟨⟨ad, cap, rfl, hr, hc⟩, hb1⟩
  obtain ⟨b, off, rfl, hbl, hra⟩ := hr.range (i := 0) (x := E1.row) rfl
  have HLA : Hid (Calls Tryd.prog 21 #[.int .i64 1, .int .i64 1, .slice (some ⟨b, off, none⟩) 2 cap] w1 fun e w' => (∃ g, e = .returned (.agg (logM 1 1 g isA).row) ∧ RowB 15 w' g (isA.map Ist.row) ∧ w1.heap.size ≤ g) ∧ Below w1.heap.size w1 w') := Lib.hid (log_any 1 1 _ cap [E1, E2] w1 hr hc (by decide) (fun e he => by simp at he; rcases he with rfl | rfl; exact E1ok; exact E2ok))
  have hr1 : RowsAt 9 w1 (some ⟨b, off, none⟩) ([E1].map Est.row) := fun i x hx => by
    match i, hx with
    | 0, hx => exact hr 0 x hx
    | i + 1, hx => simp at hx
  have HB1 := Lib.hid hb1
  have HR1 := Lib.hid hr1
  have HG := Lib.hid hg
  have HCAP := Lib.hid hc
  clear hr hc hbl hra hr1 hb1 hg
  go_wp2_with fail
  refine HLA.out.mono ?_
  rintro e w2 ⟨⟨ga, rfl, hia, hga⟩, hb2⟩
  obtain ⟨W3, st2, hW3, hB3, hz3⟩ := fresh w2 #[.int .i64 0, .int .i64 0, .int .i64 0, .int .i64 0, .int .i64 0, .int .i64 0, .int .i64 0, .int .i64 0, .int .i64 0, .int .i64 0, .int .i64 0, .int .i64 0, .int .i64 0, .int .i64 0, .int .u64 0, .int .u64 0, .int .u64 0, .int .u64 0, .int .u64 0, .int .u64 0, .int .u64 0, .int .i64 0, .int .i64 0, .int .i64 0, .int .u64 0, .int .i64 0, .int .i64 0, .int .i64 0, .int .i64 0, .string ⟨#[]⟩, .slice none 0 0, .slice none 0 0, .string ⟨#[]⟩] (logM 1 1 ga isA).row 45 rfl (by kernel_rfl) (Mst.row_one _)
  have hbw3 := (HB1.out.trans (hb2.mono HB1.out.size)).trans (hW3.mono (HB1.out.trans (hb2.mono HB1.out.size)).size)
  have H3 : Hid (Below w.heap.size w W3 ∧ Blk W3 w2.heap.size (logM 1 1 ga isA).row ∧ RowB 15 W3 ga (isA.map Ist.row)) := Lib.hid ⟨hbw3, hB3, hia.later hW3⟩
  have HLB : Hid (Calls Tryd.prog 21 #[.int .i64 2, .int .i64 2, .slice (some ⟨b, off, none⟩) 1 cap] W3 fun e w' => (∃ g, e = .returned (.agg (logM 2 2 g isB).row) ∧ RowB 15 w' g (isB.map Ist.row) ∧ W3.heap.size ≤ g) ∧ Below W3.heap.size W3 w') := Lib.hid (log_any 2 2 _ cap [E1] W3 ((HR1.out.later hb2).later hW3) (by have := HCAP.out; show 1 ≤ cap; omega) (by decide) (fun e he => by simp at he; subst he; exact E1ok))
  have hcap2 : 1 ≤ cap := by have := HCAP.out; omega
  have st2 := Lib.hid st2
  clear hia hga hb2 hW3 hB3 hz3 hbw3 HLA HR1
  go_wp2_with (first | (guard_target =~ wpList _ _ _ (⟨_, Op.store _ (Operand.tmp 2) (Operand.tmp 9), _, _, _, _⟩ :: _) _ _; refine wpList_store_eq 45 (Operand.tmp 2) (Operand.tmp 9) rfl rfl st2.out rfl rfl ?_))
  refine HLB.out.mono ?_
  rintro e w4 ⟨⟨gb, rfl, hib, hgb⟩, hb4⟩
  obtain ⟨W5, st3, hW5, hB5, hz5⟩ := fresh w4 #[.int .i64 0, .int .i64 0, .int .i64 0, .int .i64 0, .int .i64 0, .int .i64 0, .int .i64 0, .int .i64 0, .int .i64 0, .int .i64 0, .int .i64 0, .int .i64 0, .int .i64 0, .int .i64 0, .int .u64 0, .int .u64 0, .int .u64 0, .int .u64 0, .int .u64 0, .int .u64 0, .int .u64 0, .int .i64 0, .int .i64 0, .int .i64 0, .int .u64 0, .int .i64 0, .int .i64 0, .int .i64 0, .int .i64 0, .string ⟨#[]⟩, .slice none 0 0, .slice none 0 0, .string ⟨#[]⟩] (logM 2 2 gb isB).row 45 rfl (by kernel_rfl) (Mst.row_one _)
  obtain ⟨W6, mk2, hrb2, hb6⟩ := mk_two (logM 1 1 ga isA) (logM 2 2 gb isB) W5
  have hbw4 := H3.out.1.trans (hb4.mono H3.out.1.size)
  have hbw5 := hbw4.trans (hW5.mono hbw4.size)
  have hI5 : AwI w W5 w2.heap.size w4.heap.size ga gb isB := ⟨hbw5, (H3.out.2.1.later hb4).later hW5, hB5, (H3.out.2.2.later hb4).later hW5, hib.later hW5, HG.out.later hbw5⟩
  have hI6 := hI5.later hb6
  have HX := Lib.hid (choose_any 3 _ 2 [logM 1 1 ga isA, logM 2 2 gb isB] W6 (logs2 hI6 hrb2 rfl isB_ok) hI6.gl)
  have lA := Lib.hid (m_load hI5.a)
  have lB := Lib.hid (m_load hI5.b)
  have st3 := Lib.hid st3
  have mk2 := Lib.hid mk2
  have HI6 := Lib.hid hI6
  have HGB : Hid (w2.heap.size < w4.heap.size ∧ w4.heap.size < W5.heap.size ∧ gb < w4.heap.size ∧ w2.heap.size < gb ∧ ga < gb) := Lib.hid ⟨by have := H3.out.2.1.1; have := hb4.size; omega, hz5, hib.1, by have := H3.out.2.1.1; omega, by have := H3.out.2.2.1; omega⟩
  have HGC : Hid (w.heap.size ≤ gb) := Lib.hid (by have := hbw4.size; have := H3.out.1.size; omega)
  clear hib hgb hb4 hW5 hB5 hz5 hrb2 hb6 hbw4 hbw5 hI5 hI6 HLB H3 st2
  generalize w2.heap.size = p2 at *
  go_wp2_with (first | (guard_target =~ wpList _ _ _ (⟨_, Op.store _ (Operand.tmp 3) (Operand.tmp 12), _, _, _, _⟩ :: _) _ _; refine wpList_store_eq 45 (Operand.tmp 3) (Operand.tmp 12) rfl rfl st3.out rfl rfl ?_) | (guard_target =~ wpList _ _ _ (⟨_, Op.load _ (Operand.tmp 2), _, _, _, _⟩ :: _) _ _; refine wpList_load_eq 45 (Operand.tmp 2) rfl rfl lA.out rfl ?_) | (guard_target =~ wpList _ _ _ (⟨_, Op.load _ (Operand.tmp 3), _, _, _, _⟩ :: _) _ _; refine wpList_load_eq 45 (Operand.tmp 3) rfl rfl lB.out rfl ?_) | (guard_target =~ wpList _ _ _ (⟨_, Op.buildSlice _ 2 _, _, _, _, _⟩ :: _) _ _; refine wpList_bs2_eq 22 (Operand.tmp 13) (Operand.tmp 14) rfl rfl rfl rfl mk2.out ?_))
  generalize w4.heap.size = p3 at *
  have hx := chooseX ga gb
  have hcp := HX.out
  generalize chooseV 3 [logM 1 1 ga isA, logM 2 2 gb isB] = c1 at *
  refine hcp.mono ?_
  rintro e w7 ⟨⟨ea, cx, rfl, hrx, hcx⟩, hb7⟩
  rw [hx.1, hx.2]
  obtain ⟨W8, st4, hW8, hB8, hz8⟩ := fresh w7 #[.bool false, .int .i64 0, .int .i64 0, .int .u64 0, .int .i64 0, .slice none 0 0] (crow true c1.co c1.cv c1.cs c1.cm ea 1 cx) 30 rfl (by kernel_rfl) (crow_one _ _ _ _ _ _ _ _)
  have hI8 := (HI6.out.later hb7).later hW8
  have hgb := HGB.out
  have hz5 : gb < w7.heap.size := by have := HI6.out.b.1; have := hb7.size; omega
  have hc15 : W8.cell? ⟨gb, 15, none⟩ = some (.int .i64 0) := (hI8.ib.2.2 1 Ist.zero.row rfl 0 _ rfl).1
  have hf15 : W8.frozen? ⟨gb, 15, none⟩ = false := (hI8.ib.2.2 1 Ist.zero.row rfl 0 _ rfl).2
  have st20 : (Instr.storeAt 3 (.pointer (some ⟨gb, 15, none⟩)) (.int .i64 3)).run Tryd.prog W8 = .ok () (W8.setCell ⟨gb, 1 * 15 + 0, none⟩ (.int .i64 3)) := by simp [go_sem, hc15, hf15]
  have hT9 : Turned (fun q => q = gb) W8 (W8.setCell ⟨gb, 1 * 15 + 0, none⟩ (.int .i64 3)) := Turned.setCell _ _ rfl
  have hib9 : RowB 15 (W8.setCell ⟨gb, 1 * 15 + 0, none⟩ (.int .i64 3)) gb (isU.map Ist.row) := hI8.ib.setCell (j := 1) (r0 := 0) (x0 := Ist.zero.row) rfl (by decide) (.int .i64 3)
  have c31 : W8.cell? ⟨p3, 31, none⟩ = some (.slice (some ⟨gb, 0, none⟩) 8 8) := (hI8.b.2 31 _ rfl).1
  generalize W8.setCell ⟨gb, 1 * 15 + 0, none⟩ (.int .i64 3) = W9 at *
  have hbw9 : Below w.heap.size w W9 := hI8.below.trans (hT9.below (fun q hq => by have := HGC.out; omega) hI8.below.size)
  have hI9 : AwI w W9 p2 p3 ga gb isU := ⟨hbw9, hI8.a.turned hT9 (by omega), hI8.b.turned hT9 (by omega), hI8.ia.turned hT9 (by omega), hib9, HG.out.later hbw9⟩
  have hx9 : Blk W9 w7.heap.size (crow true c1.co c1.cv c1.cs c1.cm ea 1 cx) := hB8.turned hT9 (by omega)
  obtain ⟨W10, mk2b, hrb10, hb10⟩ := mk_two (logM 1 1 ga isA) (logM 2 2 gb isB) W9
  have hI10 := hI9.later hb10
  have HY := Lib.hid (choose_any 3 _ 2 [logM 1 1 ga isA, logM 2 2 gb isU] W10 (logs2 hI10 hrb10 rfl isU_ok) hI10.gl)
  have HI10 := Lib.hid (And.intro hI10 (hx9.later hb10))
  have lA9 := Lib.hid (m_load hI9.a)
  have lB9 := Lib.hid (m_load hI9.b)
  have ST4 := Lib.hid st4
  have ST20 := Lib.hid st20
  have MK2 := Lib.hid mk2b
  clear st4 st20 mk2b hx9 hI9 hI10 hrb10 hb10 hbw9 hib9 hT9 hc15 hf15 hI8 hB8 hz8 hW8 hrx hcx hb7 HX hcp hgb hz5 HI6 lA lB mk2 st3
  go_wp2_with (first | (guard_target =~ wpList _ _ _ (⟨_, Op.store _ (Operand.tmp 4) (Operand.tmp 16), _, _, _, _⟩ :: _) _ _; refine wpList_store_eq 30 (Operand.tmp 4) (Operand.tmp 16) rfl rfl ST4.out rfl rfl ?_) | (guard_target =~ wpList _ _ _ (⟨_, Op.store _ (Operand.tmp 20) _, _, _, _, _⟩ :: _) _ _; refine wpList_store_eq 3 (Operand.tmp 20) _ rfl rfl ST20.out rfl rfl ?_) | (guard_target =~ wpList _ _ _ (⟨_, Op.load _ (Operand.tmp 2), _, _, _, _⟩ :: _) _ _; refine wpList_load_eq 45 (Operand.tmp 2) rfl rfl lA9.out rfl ?_) | (guard_target =~ wpList _ _ _ (⟨_, Op.load _ (Operand.tmp 3), _, _, _, _⟩ :: _) _ _; refine wpList_load_eq 45 (Operand.tmp 3) rfl rfl lB9.out rfl ?_) | (guard_target =~ wpList _ _ _ (⟨_, Op.buildSlice _ 2 _, _, _, _, _⟩ :: _) _ _; refine wpList_bs2_eq 22 (Operand.tmp 21) (Operand.tmp 22) rfl rfl rfl rfl MK2.out ?_))
  generalize w7.heap.size = p4 at *
  have hy := chooseY ga gb
  have hcp := HY.out
  generalize chooseV 3 [logM 1 1 ga isA, logM 2 2 gb isU] = c2 at *
  refine hcp.mono ?_
  rintro e w11 ⟨⟨ey, cy, rfl, hry, hcy⟩, hb11⟩
  rw [hy]
  obtain ⟨W12, st5, hW12, hB12, hz12⟩ := fresh w11 #[.bool false, .int .i64 0, .int .i64 0, .int .u64 0, .int .i64 0, .slice none 0 0] (crow false c2.co c2.cv c2.cs c2.cm ey c2.es.length cy) 30 rfl (by kernel_rfl) (crow_one _ _ _ _ _ _ _ _)
  have HJ := Lib.hid (show AwJ w W12 p2 p3 p4 w11.heap.size ga gb _ _ from ⟨(HI10.out.1.later hb11).later hW12, (HI10.out.2.later hb11).later hW12, hB12⟩)
  have ST5 := Lib.hid st5
  generalize hn2 : c2.es.length = n2 at *
  clear st5 hW12 hB12 hz12 hry hcy hb11 HY hcp HI10 lA9 lB9 MK2 hy c31 hn2
  go_wp2_with (first | (guard_target =~ wpList _ _ _ (⟨_, Op.store _ (Operand.tmp 5) (Operand.tmp 24), _, _, _, _⟩ :: _) _ _; refine wpList_store_eq 30 (Operand.tmp 5) (Operand.tmp 24) rfl rfl ST5.out rfl rfl ?_))
  generalize w11.heap.size = p5 at *
  try simp only [Act.put, List.setIfInBounds_toArray, List.set_cons_zero, List.set_cons_succ]
  refine wp_region_noPanic ?_
  refine wp_region_held_drew (S := fun W => AwJ w W p2 p3 p4 p5 ga gb (crow true c1.co c1.cv c1.cs c1.cm ea 1 cx) (crow false c2.co c2.cv c2.cs c2.cm ey n2 cy)) (by kernel_rfl) (show AwJ w W12.drew p2 p3 p4 p5 ga gb (crow true c1.co c1.cv c1.cs c1.cm ea 1 cx) (crow false c2.co c2.cv c2.cs c2.cm ey n2 cy) from HJ.out.later ⟨rfl, rfl, rfl, Nat.le_refl _, fun _ _ => rfl⟩) (fun hHeld => ?_)
  have HLT : Hid (p2 < W12.heap.size ∧ p3 < W12.heap.size ∧ p4 < W12.heap.size ∧ p5 < W12.heap.size ∧ ga < W12.heap.size ∧ gb < W12.heap.size ∧ 0 < W12.heap.size ∧ w.heap.size ≤ W12.heap.size) := Lib.hid ⟨HJ.out.i.a.1, HJ.out.i.b.1, HJ.out.x.1, HJ.out.y.1, HJ.out.i.ia.1, HJ.out.i.ib.1, cell_lt HJ.out.gl, HJ.out.below.size⟩
  have hs0 : W12.heap.size ≤ W12.drew.heap.size := Nat.le_refl _
  generalize W12.drew = cw at *
  generalize W12.heap.size = s0 at *
  have hS := hHeld
  refine wpAnyH_take (i := 0) (oi := { dst := some 25, op := _, type := _, pos := _, after := _, guard := _ }) (v := .agg (logM 1 1 ga isA).row) rfl (by kernel_rfl) (by kernel_rfl) (by kernel_rfl) (fun _ _ _ h => h) (Or.inl ⟨by rfl, ?_⟩) hS ?_
  · intro W hSw
    skip
    exact exec_load 45 (Operand.tmp 2) rfl rfl (m_load hSw.i.a)
  try simp only [Act.put, List.setIfInBounds_toArray, List.set_cons_zero, List.set_cons_succ]
  refine wpAnyH_take (i := 1) (oi := { dst := some 26, op := _, type := _, pos := _, after := _, guard := _ }) (v := .agg (logM 2 2 gb isB).row) rfl (by kernel_rfl) (by kernel_rfl) (by kernel_rfl) (fun _ _ _ h => h) (Or.inl ⟨by rfl, ?_⟩) hS ?_
  · intro W hSw
    skip
    exact exec_load 45 (Operand.tmp 3) rfl rfl (m_load hSw.i.b)
  try simp only [Act.put, List.setIfInBounds_toArray, List.set_cons_zero, List.set_cons_succ]
  refine wpAnyH_ready (rs := [2, 5]) (by kernel_rfl) (by simp) ?_
  refine AllReadyH.cons (o := { dst := some 27, op := _, type := _, pos := _, after := _, guard := _ }) rfl (fun K hK => ?_) ?_
  · go_simp
    refine (HLZ.out _).mono ?_
    rintro ev cw ⟨⟨gc, rfl, hic, hgc⟩, hb⟩
    replace hS := hS.later hb
    replace hs0 := Nat.le_trans hs0 hb.size
    clear hgc hb
    refine hK.out _ _ hS (fun _ => ?_)
    clear hK K
    try simp only [Act.put, List.setIfInBounds_toArray, List.set_cons_zero, List.set_cons_succ]
    refine wpAnyH_ready (rs := [3, 5]) (by kernel_rfl) (by simp) ?_
    refine AllReadyH.cons (o := { dst := some 28, op := _, type := _, pos := _, after := _, guard := _ }) rfl (fun K hK => ?_) ?_
    · obtain ⟨cw, mk3, hrb3, hb⟩ := mk_three (logM 1 1 ga isA) (logM 2 2 gb isB) (logM 3 0 gc isZ) cw
      replace hS := hS.later hb
      replace hs0 := Nat.le_trans hs0 hb.size
      have hLZ := logs3 hS hrb3 (hic.later hb)
      refine wp_bs3_eq 22 (Operand.tmp 25) (Operand.tmp 26) (Operand.tmp 27) rfl rfl rfl rfl mk3 ?_
      clear hb hic hrb3
      refine hK.out _ _ hS (fun _ => ?_)
      clear hK K
      try simp only [Act.put, List.setIfInBounds_toArray, List.set_cons_zero, List.set_cons_succ]
      refine wpAnyH_ready (rs := [4, 5]) (by kernel_rfl) (by simp) ?_
      refine AllReadyH.cons (o := { dst := some 29, op := _, type := _, pos := _, after := _, guard := _ }) rfl (fun K hK => ?_) ?_
      · go_simp
        have hch := choose_any 3 _ 3 [logM 1 1 ga isA, logM 2 2 gb isU, logM 3 0 gc isZ] cw hLZ hS.gl
        have hz := chooseZ ga gb gc
        generalize chooseV 3 [logM 1 1 ga isA, logM 2 2 gb isU, logM 3 0 gc isZ] = c3 at *
        refine hch.mono ?_
        rintro ev cw ⟨⟨ez, cz, rfl, hrz, hcz⟩, hb⟩
        replace hS := hS.later hb
        replace hs0 := Nat.le_trans hs0 hb.size
        rw [hz.1, hz.2]
        clear hb hrz hcz hch hz hLZ
        refine hK.out _ _ hS (fun _ => ?_)
        clear hK K
        try simp only [Act.put, List.setIfInBounds_toArray, List.set_cons_zero, List.set_cons_succ]
        refine wpAnyH_ready (rs := [5]) (by kernel_rfl) (by simp) ?_
        refine AllReadyH.cons (o := { dst := some 6, op := _, type := _, pos := _, after := _, guard := _ }) rfl (fun K hK => ?_) AllReadyH.nil
        have hb : Below cw.heap.size cw (cw.alloc (.cells #[.bool false, .int .i64 0, .int .i64 0, .int .u64 0, .int .i64 0, .slice none 0 0] 30)) := (Below.refl cw.heap.size cw).alloc (Nat.le_refl _) _
        have hA : Blk (cw.alloc (.cells #[.bool false, .int .i64 0, .int .i64 0, .int .u64 0, .int .i64 0, .slice none 0 0] 30)) cw.heap.size #[.bool false, .int .i64 0, .int .i64 0, .int .u64 0, .int .i64 0, .slice none 0 0] := Blk.new _ _ _ _ rfl
        have hp6 := hs0
        replace hS := hS.later hb
        replace hs0 := Nat.le_trans hs0 hb.size
        go_simp
        generalize cw.heap.size = p6 at hA hp6 ⊢
        generalize cw.alloc (.cells #[.bool false, .int .i64 0, .int .i64 0, .int .u64 0, .int .i64 0, .slice none 0 0] 30) = cw at *
        clear hb
        refine hK.out _ _ hS (fun _ => ?_)
        clear hK K
        try simp only [Act.put, List.setIfInBounds_toArray, List.set_cons_zero, List.set_cons_succ]
        refine wpAnyH_ready (rs := [6]) (by kernel_rfl) (by simp) ?_
        refine AllReadyH.cons (o := { dst := none, op := _, type := _, pos := _, after := _, guard := _ }) rfl (fun K hK => ?_) AllReadyH.nil
        obtain ⟨cw, st6, hB16, hT16⟩ := refillT (cs := crow true c3.co c3.cv c3.cs c3.cm ez 2 cz) 30 hA rfl (by kernel_rfl) (crow_one _ _ _ _ _ _ _ _)
        have hlt := HLT.out
        replace hS := hS.turned hT16 (by omega) (by omega) (by omega) (by omega) (by omega) (by omega) (by omega) (fun q hq => by omega)
        refine wp_store_eq 30 (Operand.tmp 6) (Operand.tmp 29) rfl st6 rfl rfl ?_
        refine hK.out _ _ hS (fun _ => ?_)
        clear hK K
        try simp only [Act.put, List.setIfInBounds_toArray, List.set_cons_zero, List.set_cons_succ]
        refine wpAnyH_done (by kernel_rfl) ?_ _
        refine NoPanic.normal ?_
        have x0 : cw.cell? ⟨p4, 0, none⟩ = some (.bool true) := (hS.x.2 0 _ rfl).1
        have x5 : cw.cell? ⟨p4, 5, none⟩ = some (.slice ea 1 cx) := (hS.x.2 5 _ rfl).1
        have y0 : cw.cell? ⟨p5, 0, none⟩ = some (.bool false) := (hS.y.2 0 _ rfl).1
        have z0 : cw.cell? ⟨p6, 0, none⟩ = some (.bool true) := (hB16.2 0 _ rfl).1
        have z5 : cw.cell? ⟨p6, 5, none⟩ = some (.slice ez 2 cz) := (hB16.2 5 _ rfl).1
        have HF := Lib.hid hS.below
        go_wp2_with fail
        go_ret
        exact ⟨rfl, HF.out⟩
      refine AllReadyH.cons (o := { dst := some 6, op := _, type := _, pos := _, after := _, guard := _ }) rfl (fun K hK => ?_) ?_
      · have hb : Below cw.heap.size cw (cw.alloc (.cells #[.bool false, .int .i64 0, .int .i64 0, .int .u64 0, .int .i64 0, .slice none 0 0] 30)) := (Below.refl cw.heap.size cw).alloc (Nat.le_refl _) _
        have hA : Blk (cw.alloc (.cells #[.bool false, .int .i64 0, .int .i64 0, .int .u64 0, .int .i64 0, .slice none 0 0] 30)) cw.heap.size #[.bool false, .int .i64 0, .int .i64 0, .int .u64 0, .int .i64 0, .slice none 0 0] := Blk.new _ _ _ _ rfl
        have hp6 := hs0
        replace hS := hS.later hb
        replace hs0 := Nat.le_trans hs0 hb.size
        replace hLZ := hLZ.later hb
        go_simp
        generalize cw.heap.size = p6 at hA hp6 ⊢
        generalize cw.alloc (.cells #[.bool false, .int .i64 0, .int .i64 0, .int .u64 0, .int .i64 0, .slice none 0 0] 30) = cw at *
        clear hb
        refine hK.out _ _ hS (fun _ => ?_)
        clear hK K
        try simp only [Act.put, List.setIfInBounds_toArray, List.set_cons_zero, List.set_cons_succ]
        refine wpAnyH_ready (rs := [4]) (by kernel_rfl) (by simp) ?_
        refine AllReadyH.cons (o := { dst := some 29, op := _, type := _, pos := _, after := _, guard := _ }) rfl (fun K hK => ?_) AllReadyH.nil
        go_simp
        have hch := choose_any 3 _ 3 [logM 1 1 ga isA, logM 2 2 gb isU, logM 3 0 gc isZ] cw hLZ hS.gl
        have hz := chooseZ ga gb gc
        generalize chooseV 3 [logM 1 1 ga isA, logM 2 2 gb isU, logM 3 0 gc isZ] = c3 at *
        refine hch.mono ?_
        rintro ev cw ⟨⟨ez, cz, rfl, hrz, hcz⟩, hb⟩
        replace hA := hA.later hb
        replace hS := hS.later hb
        replace hs0 := Nat.le_trans hs0 hb.size
        rw [hz.1, hz.2]
        clear hb hrz hcz hch hz hLZ
        refine hK.out _ _ hS (fun _ => ?_)
        clear hK K
        try simp only [Act.put, List.setIfInBounds_toArray, List.set_cons_zero, List.set_cons_succ]
        refine wpAnyH_ready (rs := [6]) (by kernel_rfl) (by simp) ?_
        refine AllReadyH.cons (o := { dst := none, op := _, type := _, pos := _, after := _, guard := _ }) rfl (fun K hK => ?_) AllReadyH.nil
        obtain ⟨cw, st6, hB16, hT16⟩ := refillT (cs := crow true c3.co c3.cv c3.cs c3.cm ez 2 cz) 30 hA rfl (by kernel_rfl) (crow_one _ _ _ _ _ _ _ _)
        have hlt := HLT.out
        replace hS := hS.turned hT16 (by omega) (by omega) (by omega) (by omega) (by omega) (by omega) (by omega) (fun q hq => by omega)
        refine wp_store_eq 30 (Operand.tmp 6) (Operand.tmp 29) rfl st6 rfl rfl ?_
        refine hK.out _ _ hS (fun _ => ?_)
        clear hK K
        try simp only [Act.put, List.setIfInBounds_toArray, List.set_cons_zero, List.set_cons_succ]
        refine wpAnyH_done (by kernel_rfl) ?_ _
        refine NoPanic.normal ?_
        have x0 : cw.cell? ⟨p4, 0, none⟩ = some (.bool true) := (hS.x.2 0 _ rfl).1
        have x5 : cw.cell? ⟨p4, 5, none⟩ = some (.slice ea 1 cx) := (hS.x.2 5 _ rfl).1
        have y0 : cw.cell? ⟨p5, 0, none⟩ = some (.bool false) := (hS.y.2 0 _ rfl).1
        have z0 : cw.cell? ⟨p6, 0, none⟩ = some (.bool true) := (hB16.2 0 _ rfl).1
        have z5 : cw.cell? ⟨p6, 5, none⟩ = some (.slice ez 2 cz) := (hB16.2 5 _ rfl).1
        have HF := Lib.hid hS.below
        go_wp2_with fail
        go_ret
        exact ⟨rfl, HF.out⟩
      exact AllReadyH.nil
    refine AllReadyH.cons (o := { dst := some 6, op := _, type := _, pos := _, after := _, guard := _ }) rfl (fun K hK => ?_) ?_
    · have hb : Below cw.heap.size cw (cw.alloc (.cells #[.bool false, .int .i64 0, .int .i64 0, .int .u64 0, .int .i64 0, .slice none 0 0] 30)) := (Below.refl cw.heap.size cw).alloc (Nat.le_refl _) _
      have hA : Blk (cw.alloc (.cells #[.bool false, .int .i64 0, .int .i64 0, .int .u64 0, .int .i64 0, .slice none 0 0] 30)) cw.heap.size #[.bool false, .int .i64 0, .int .i64 0, .int .u64 0, .int .i64 0, .slice none 0 0] := Blk.new _ _ _ _ rfl
      have hp6 := hs0
      replace hS := hS.later hb
      replace hs0 := Nat.le_trans hs0 hb.size
      replace hic := hic.later hb
      go_simp
      generalize cw.heap.size = p6 at hA hp6 ⊢
      generalize cw.alloc (.cells #[.bool false, .int .i64 0, .int .i64 0, .int .u64 0, .int .i64 0, .slice none 0 0] 30) = cw at *
      clear hb
      refine hK.out _ _ hS (fun _ => ?_)
      clear hK K
      try simp only [Act.put, List.setIfInBounds_toArray, List.set_cons_zero, List.set_cons_succ]
      refine wpAnyH_ready (rs := [3]) (by kernel_rfl) (by simp) ?_
      refine AllReadyH.cons (o := { dst := some 28, op := _, type := _, pos := _, after := _, guard := _ }) rfl (fun K hK => ?_) AllReadyH.nil
      obtain ⟨cw, mk3, hrb3, hb⟩ := mk_three (logM 1 1 ga isA) (logM 2 2 gb isB) (logM 3 0 gc isZ) cw
      replace hA := hA.later hb
      replace hS := hS.later hb
      replace hs0 := Nat.le_trans hs0 hb.size
      have hLZ := logs3 hS hrb3 (hic.later hb)
      refine wp_bs3_eq 22 (Operand.tmp 25) (Operand.tmp 26) (Operand.tmp 27) rfl rfl rfl rfl mk3 ?_
      clear hb hic hrb3
      refine hK.out _ _ hS (fun _ => ?_)
      clear hK K
      try simp only [Act.put, List.setIfInBounds_toArray, List.set_cons_zero, List.set_cons_succ]
      refine wpAnyH_ready (rs := [4]) (by kernel_rfl) (by simp) ?_
      refine AllReadyH.cons (o := { dst := some 29, op := _, type := _, pos := _, after := _, guard := _ }) rfl (fun K hK => ?_) AllReadyH.nil
      go_simp
      have hch := choose_any 3 _ 3 [logM 1 1 ga isA, logM 2 2 gb isU, logM 3 0 gc isZ] cw hLZ hS.gl
      have hz := chooseZ ga gb gc
      generalize chooseV 3 [logM 1 1 ga isA, logM 2 2 gb isU, logM 3 0 gc isZ] = c3 at *
      refine hch.mono ?_
      rintro ev cw ⟨⟨ez, cz, rfl, hrz, hcz⟩, hb⟩
      replace hA := hA.later hb
      replace hS := hS.later hb
      replace hs0 := Nat.le_trans hs0 hb.size
      rw [hz.1, hz.2]
      clear hb hrz hcz hch hz hLZ
      refine hK.out _ _ hS (fun _ => ?_)
      clear hK K
      try simp only [Act.put, List.setIfInBounds_toArray, List.set_cons_zero, List.set_cons_succ]
      refine wpAnyH_ready (rs := [6]) (by kernel_rfl) (by simp) ?_
      refine AllReadyH.cons (o := { dst := none, op := _, type := _, pos := _, after := _, guard := _ }) rfl (fun K hK => ?_) AllReadyH.nil
      obtain ⟨cw, st6, hB16, hT16⟩ := refillT (cs := crow true c3.co c3.cv c3.cs c3.cm ez 2 cz) 30 hA rfl (by kernel_rfl) (crow_one _ _ _ _ _ _ _ _)
      have hlt := HLT.out
      replace hS := hS.turned hT16 (by omega) (by omega) (by omega) (by omega) (by omega) (by omega) (by omega) (fun q hq => by omega)
      refine wp_store_eq 30 (Operand.tmp 6) (Operand.tmp 29) rfl st6 rfl rfl ?_
      refine hK.out _ _ hS (fun _ => ?_)
      clear hK K
      try simp only [Act.put, List.setIfInBounds_toArray, List.set_cons_zero, List.set_cons_succ]
      refine wpAnyH_done (by kernel_rfl) ?_ _
      refine NoPanic.normal ?_
      have x0 : cw.cell? ⟨p4, 0, none⟩ = some (.bool true) := (hS.x.2 0 _ rfl).1
      have x5 : cw.cell? ⟨p4, 5, none⟩ = some (.slice ea 1 cx) := (hS.x.2 5 _ rfl).1
      have y0 : cw.cell? ⟨p5, 0, none⟩ = some (.bool false) := (hS.y.2 0 _ rfl).1
      have z0 : cw.cell? ⟨p6, 0, none⟩ = some (.bool true) := (hB16.2 0 _ rfl).1
      have z5 : cw.cell? ⟨p6, 5, none⟩ = some (.slice ez 2 cz) := (hB16.2 5 _ rfl).1
      have HF := Lib.hid hS.below
      go_wp2_with fail
      go_ret
      exact ⟨rfl, HF.out⟩
    exact AllReadyH.nil
  refine AllReadyH.cons (o := { dst := some 6, op := _, type := _, pos := _, after := _, guard := _ }) rfl (fun K hK => ?_) ?_
  · have hb : Below cw.heap.size cw (cw.alloc (.cells #[.bool false, .int .i64 0, .int .i64 0, .int .u64 0, .int .i64 0, .slice none 0 0] 30)) := (Below.refl cw.heap.size cw).alloc (Nat.le_refl _) _
    have hA : Blk (cw.alloc (.cells #[.bool false, .int .i64 0, .int .i64 0, .int .u64 0, .int .i64 0, .slice none 0 0] 30)) cw.heap.size #[.bool false, .int .i64 0, .int .i64 0, .int .u64 0, .int .i64 0, .slice none 0 0] := Blk.new _ _ _ _ rfl
    have hp6 := hs0
    replace hS := hS.later hb
    replace hs0 := Nat.le_trans hs0 hb.size
    go_simp
    generalize cw.heap.size = p6 at hA hp6 ⊢
    generalize cw.alloc (.cells #[.bool false, .int .i64 0, .int .i64 0, .int .u64 0, .int .i64 0, .slice none 0 0] 30) = cw at *
    clear hb
    refine hK.out _ _ hS (fun _ => ?_)
    clear hK K
    try simp only [Act.put, List.setIfInBounds_toArray, List.set_cons_zero, List.set_cons_succ]
    refine wpAnyH_ready (rs := [2]) (by kernel_rfl) (by simp) ?_
    refine AllReadyH.cons (o := { dst := some 27, op := _, type := _, pos := _, after := _, guard := _ }) rfl (fun K hK => ?_) AllReadyH.nil
    go_simp
    refine (HLZ.out _).mono ?_
    rintro ev cw ⟨⟨gc, rfl, hic, hgc⟩, hb⟩
    replace hA := hA.later hb
    replace hS := hS.later hb
    replace hs0 := Nat.le_trans hs0 hb.size
    clear hgc hb
    refine hK.out _ _ hS (fun _ => ?_)
    clear hK K
    try simp only [Act.put, List.setIfInBounds_toArray, List.set_cons_zero, List.set_cons_succ]
    refine wpAnyH_ready (rs := [3]) (by kernel_rfl) (by simp) ?_
    refine AllReadyH.cons (o := { dst := some 28, op := _, type := _, pos := _, after := _, guard := _ }) rfl (fun K hK => ?_) AllReadyH.nil
    obtain ⟨cw, mk3, hrb3, hb⟩ := mk_three (logM 1 1 ga isA) (logM 2 2 gb isB) (logM 3 0 gc isZ) cw
    replace hA := hA.later hb
    replace hS := hS.later hb
    replace hs0 := Nat.le_trans hs0 hb.size
    have hLZ := logs3 hS hrb3 (hic.later hb)
    refine wp_bs3_eq 22 (Operand.tmp 25) (Operand.tmp 26) (Operand.tmp 27) rfl rfl rfl rfl mk3 ?_
    clear hb hic hrb3
    refine hK.out _ _ hS (fun _ => ?_)
    clear hK K
    try simp only [Act.put, List.setIfInBounds_toArray, List.set_cons_zero, List.set_cons_succ]
    refine wpAnyH_ready (rs := [4]) (by kernel_rfl) (by simp) ?_
    refine AllReadyH.cons (o := { dst := some 29, op := _, type := _, pos := _, after := _, guard := _ }) rfl (fun K hK => ?_) AllReadyH.nil
    go_simp
    have hch := choose_any 3 _ 3 [logM 1 1 ga isA, logM 2 2 gb isU, logM 3 0 gc isZ] cw hLZ hS.gl
    have hz := chooseZ ga gb gc
    generalize chooseV 3 [logM 1 1 ga isA, logM 2 2 gb isU, logM 3 0 gc isZ] = c3 at *
    refine hch.mono ?_
    rintro ev cw ⟨⟨ez, cz, rfl, hrz, hcz⟩, hb⟩
    replace hA := hA.later hb
    replace hS := hS.later hb
    replace hs0 := Nat.le_trans hs0 hb.size
    rw [hz.1, hz.2]
    clear hb hrz hcz hch hz hLZ
    refine hK.out _ _ hS (fun _ => ?_)
    clear hK K
    try simp only [Act.put, List.setIfInBounds_toArray, List.set_cons_zero, List.set_cons_succ]
    refine wpAnyH_ready (rs := [6]) (by kernel_rfl) (by simp) ?_
    refine AllReadyH.cons (o := { dst := none, op := _, type := _, pos := _, after := _, guard := _ }) rfl (fun K hK => ?_) AllReadyH.nil
    obtain ⟨cw, st6, hB16, hT16⟩ := refillT (cs := crow true c3.co c3.cv c3.cs c3.cm ez 2 cz) 30 hA rfl (by kernel_rfl) (crow_one _ _ _ _ _ _ _ _)
    have hlt := HLT.out
    replace hS := hS.turned hT16 (by omega) (by omega) (by omega) (by omega) (by omega) (by omega) (by omega) (fun q hq => by omega)
    refine wp_store_eq 30 (Operand.tmp 6) (Operand.tmp 29) rfl st6 rfl rfl ?_
    refine hK.out _ _ hS (fun _ => ?_)
    clear hK K
    try simp only [Act.put, List.setIfInBounds_toArray, List.set_cons_zero, List.set_cons_succ]
    refine wpAnyH_done (by kernel_rfl) ?_ _
    refine NoPanic.normal ?_
    have x0 : cw.cell? ⟨p4, 0, none⟩ = some (.bool true) := (hS.x.2 0 _ rfl).1
    have x5 : cw.cell? ⟨p4, 5, none⟩ = some (.slice ea 1 cx) := (hS.x.2 5 _ rfl).1
    have y0 : cw.cell? ⟨p5, 0, none⟩ = some (.bool false) := (hS.y.2 0 _ rfl).1
    have z0 : cw.cell? ⟨p6, 0, none⟩ = some (.bool true) := (hB16.2 0 _ rfl).1
    have z5 : cw.cell? ⟨p6, 5, none⟩ = some (.slice ez 2 cz) := (hB16.2 5 _ rfl).1
    have HF := Lib.hid hS.below
    go_wp2_with fail
    go_ret
    exact ⟨rfl, HF.out⟩
  exact AllReadyH.nil

end Go.Proofs.YtpbjjmenkoigjaaDoor

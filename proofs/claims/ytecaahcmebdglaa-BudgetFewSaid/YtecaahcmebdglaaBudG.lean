/- The program's Within, Rots, Grid. -/
import Derived.Test.YtecaahcmebdglaaBudF
import Derived.Deep.QuietTactic
import Derived.BigQuiet
namespace Go.Proofs.Ytecaahcmebdglaa
open Go.RowKit
set_option linter.unusedVariables false
theorem Below.drewN2 {B : Nat} {w w' : World} (h : Below B w w') (m : Nat) : Below B w (w'.drewN m) := ⟨h.os, h.tape, h.output, h.size, h.block⟩
theorem field_any (a0 a1 a2 a3 a4 a5 a6 a7 a8 a9 a10 a11 a12 a13 a14 : Int) (b : Bool) (w : World) : (Instr.field 66 (.agg #[.int .i64 a0, .int .i64 a1, .int .i64 a2, .int .i64 a3, .int .i64 a4, .int .i64 a5, .int .i64 a6, .int .i64 a7, .int .i64 a8, .int .i64 a9, .int .i64 a10, .int .i64 a11, .int .i64 a12, .int .i64 a13, .int .i64 a14, .bool b]) 3).run Try.prog w = .ok (.bool b) w := by kernel_rfl
theorem field_grid (a0 a1 a2 a3 a4 a5 a6 a7 a8 a9 a10 a11 a12 a13 a14 : Int) (b : Bool) (w : World) : (Instr.field 66 (.agg #[.int .i64 a0, .int .i64 a1, .int .i64 a2, .int .i64 a3, .int .i64 a4, .int .i64 a5, .int .i64 a6, .int .i64 a7, .int .i64 a8, .int .i64 a9, .int .i64 a10, .int .i64 a11, .int .i64 a12, .int .i64 a13, .int .i64 a14, .bool b]) 2).run Try.prog w = .ok (.int .i64 a14) w := by kernel_rfl
theorem index6 (T : Nat → Nat) (j : Nat) (hj : j < 6) (w : World) : (Instr.index 63 (.agg #[.int .i64 (T 0), .int .i64 (T 1), .int .i64 (T 2), .int .i64 (T 3), .int .i64 (T 4), .int .i64 (T 5)]) (.int .i64 (j : Int))).run Try.prog w = .ok (.int .i64 (T j)) w := by
  rcases (show j = 0 ∨ j = 1 ∨ j = 2 ∨ j = 3 ∨ j = 4 ∨ j = 5 by omega) with rfl | rfl | rfl | rfl | rfl | rfl <;> kernel_rfl
theorem index8 (T : Nat → Nat) (j : Nat) (hj : j < 8) (w : World) : (Instr.index 64 (.agg #[.int .i64 (T 6), .int .i64 (T 7), .int .i64 (T 8), .int .i64 (T 9), .int .i64 (T 10), .int .i64 (T 11), .int .i64 (T 12), .int .i64 (T 13)]) (.int .i64 (j : Int))).run Try.prog w = .ok (.int .i64 (T (6 + j))) w := by
  rcases (show j = 0 ∨ j = 1 ∨ j = 2 ∨ j = 3 ∨ j = 4 ∨ j = 5 ∨ j = 6 ∨ j = 7 by omega) with rfl | rfl | rfl | rfl | rfl | rfl | rfl | rfl <;> kernel_rfl
theorem count_y (r c : Int) (ad : Option Addr) (cap : Nat) (l : List Bst) (w : World) (hl : StepsAt w ad l) (hn : l.length ≤ 1000) (hc : l.length ≤ cap) (hm : Bud.may r c = true) : ∀ W, Below w.heap.size w W → Calls Try.prog 50 #[.agg #[.int .i64 r, .int .i64 c], .slice ad l.length cap] W fun e w' => e = .returned (.agg #[.int .i64 (Bud.tal r l 0), .int .i64 (Bud.tal r l 1), .int .i64 (Bud.tal r l 2), .int .i64 (Bud.tal r l 3), .int .i64 (Bud.tal r l 4), .int .i64 (Bud.tal r l 5), .int .i64 (Bud.tal r l 6), .int .i64 (Bud.tal r l 7), .int .i64 (Bud.tal r l 8), .int .i64 (Bud.tal r l 9), .int .i64 (Bud.tal r l 10), .int .i64 (Bud.tal r l 11), .int .i64 (Bud.tal r l 12), .int .i64 (Bud.tal r l 13), .int .i64 (Bud.tal r l 14), .bool (l.any (Bud.rot r))]) ∧ Below W.heap.size W w' :=
  fun W hb => count_yes r c ad cap l W hm (hl.later hb) hn hc
theorem count_n (r c : Int) (ad : Option Addr) (cap : Nat) (l : List Bst) (w : World) (hl : StepsAt w ad l) (hn : l.length ≤ 1000) (hc : l.length ≤ cap) (hm : ¬ Bud.may r c = true) : ∀ W, Calls Try.prog 50 #[.agg #[.int .i64 r, .int .i64 c], .slice ad l.length cap] W fun e w' => e = .returned (.agg #[.int .i64 0, .int .i64 0, .int .i64 0, .int .i64 0, .int .i64 0, .int .i64 0, .int .i64 0, .int .i64 0, .int .i64 0, .int .i64 0, .int .i64 0, .int .i64 0, .int .i64 0, .int .i64 0, .int .i64 0, .bool false]) ∧ Below W.heap.size W w' :=
  fun W => count_no r c _ W hm
set_option maxHeartbeats 8000000 in
theorem brots_any (r c : Int) (ad : Option Addr) (cap : Nat) (l : List Bst) (w : World) (hl : StepsAt w ad l) (hn : l.length ≤ 1000) (hc : l.length ≤ cap) :
    Calls Try.prog 29 #[.agg #[.int .i64 r, .int .i64 c], .slice ad l.length cap] w fun e w' => e = .returned (.bool (Bud.rots r c l)) ∧ Below w.heap.size w w' := by
  by_cases hm : Bud.may r c = true
  · have HC := Lib.hid (count_y r c ad cap l w hl hn hc hm)
    have hfd := fun w => field_any (Bud.tal r l 0) (Bud.tal r l 1) (Bud.tal r l 2) (Bud.tal r l 3) (Bud.tal r l 4) (Bud.tal r l 5) (Bud.tal r l 6) (Bud.tal r l 7) (Bud.tal r l 8) (Bud.tal r l 9) (Bud.tal r l 10) (Bud.tal r l 11) (Bud.tal r l 12) (Bud.tal r l 13) (Bud.tal r l 14) (l.any (Bud.rot r)) w
    have HY : Hid (l.any (Bud.rot r) = Bud.rots r c l) := Lib.hid (by unfold Bud.rots; rw [hm]; rfl)
    clear hl hm
    go_enter Try.func29, Try.ntmps29
    go_wp2_with fail
    refine (HC.out _ (Bs.start w r c _).1).mono ?_
    rintro e w8 ⟨rfl, hb8⟩
    go_wp2_with fail
    go_ret
    exact ⟨ret_bool HY.out, ((Bs.start w r c _).later hb8).1⟩
  · have HC := Lib.hid (count_n r c ad cap l w hl hn hc hm)
    have hfd := fun w => field_any 0 0 0 0 0 0 0 0 0 0 0 0 0 0 0 false w
    have HY : Hid (false = Bud.rots r c l) := Lib.hid (by unfold Bud.rots; rw [show Bud.may r c = false by simpa using hm]; rfl)
    clear hl hm
    go_enter Try.func29, Try.ntmps29
    go_wp2_with fail
    refine (HC.out _).mono ?_
    rintro e w8 ⟨rfl, hb8⟩
    go_wp2_with fail
    go_ret
    exact ⟨ret_bool HY.out, ((Bs.start w r c _).later hb8).1⟩
set_option maxHeartbeats 8000000 in
theorem bgrid_any (r c : Int) (ad : Option Addr) (cap : Nat) (l : List Bst) (w : World) (hl : StepsAt w ad l) (hn : l.length ≤ 1000) (hc : l.length ≤ cap) :
    Calls Try.prog 31 #[.agg #[.int .i64 r, .int .i64 c], .slice ad l.length cap] w fun e w' => e = .returned (.bool (Bud.grid r c l)) ∧ Below w.heap.size w w' := by
  by_cases hm : Bud.may r c = true
  · have HC := Lib.hid (count_y r c ad cap l w hl hn hc hm)
    have HG := Lib.hid (Bud.grid_iff l hm)
    by_cases h0 : Bud.tal r l 14 = 0
    · have HY : Hid (false = Bud.grid r c l) := Lib.hid (Bud.grid_no (fun h => HG.out.1 h h0)).symm
      have e0 : ((Bud.tal r l 14 : Nat) : Int) = 0 := by omega
      rw [e0] at HC
      have hfd := fun w => field_grid (Bud.tal r l 0) (Bud.tal r l 1) (Bud.tal r l 2) (Bud.tal r l 3) (Bud.tal r l 4) (Bud.tal r l 5) (Bud.tal r l 6) (Bud.tal r l 7) (Bud.tal r l 8) (Bud.tal r l 9) (Bud.tal r l 10) (Bud.tal r l 11) (Bud.tal r l 12) (Bud.tal r l 13) 0 (l.any (Bud.rot r)) w
      clear hl hm HG h0 e0
      go_enter Try.func31, Try.ntmps31
      go_wp2_with fail
      refine (HC.out _ (Bs.start w r c _).1).mono ?_
      rintro e w8 ⟨rfl, hb8⟩
      go_wp2_with fail
      go_ret
      exact ⟨ret_bool HY.out, ((Bs.start w r c _).later hb8).1⟩
    · have HY : Hid (true = Bud.grid r c l) := Lib.hid (Bud.grid_yes (HG.out.2 h0)).symm
      obtain ⟨t, ht⟩ : ∃ t : Nat, t = Bud.tal r l 14 := ⟨_, rfl⟩
      rw [← ht] at h0 HC
      have hfd := fun w => field_grid (Bud.tal r l 0) (Bud.tal r l 1) (Bud.tal r l 2) (Bud.tal r l 3) (Bud.tal r l 4) (Bud.tal r l 5) (Bud.tal r l 6) (Bud.tal r l 7) (Bud.tal r l 8) (Bud.tal r l 9) (Bud.tal r l 10) (Bud.tal r l 11) (Bud.tal r l 12) (Bud.tal r l 13) t (l.any (Bud.rot r)) w
      have h0i : ¬ (t : Int) = 0 := by omega
      clear hl hm HG
      go_enter Try.func31, Try.ntmps31
      go_wp2_with fail
      refine (HC.out _ (Bs.start w r c _).1).mono ?_
      rintro e w8 ⟨rfl, hb8⟩
      clear ht
      go_wp2_with fail
      go_ret
      exact ⟨ret_bool (by rw [← HY.out]; simp; omega), ((Bs.start w r c _).later hb8).1⟩
  · have HC := Lib.hid (count_n r c ad cap l w hl hn hc hm)
    have hfd := fun w => field_grid 0 0 0 0 0 0 0 0 0 0 0 0 0 0 0 false w
    have HY : Hid (false = Bud.grid r c l) := Lib.hid (Bud.grid_no (fun h => hm h.1)).symm
    clear hl hm
    go_enter Try.func31, Try.ntmps31
    go_wp2_with fail
    refine (HC.out _).mono ?_
    rintro e w8 ⟨rfl, hb8⟩
    go_wp2_with fail
    go_ret
    exact ⟨ret_bool HY.out, ((Bs.start w r c _).later hb8).1⟩
theorem bwithin_no1 (r c : Int) (sl : Value) (w : World) (hr : r = 3 ∨ r = 5) (h1 : c < 1) :
    Calls Try.prog 27 #[.agg #[.int .i64 r, .int .i64 c], sl] w fun e w' => e = .returned (.bool false) ∧ Below w.heap.size w w' := by
  have HM : Hid (∀ w, Calls Try.prog 15 #[.int .i64 r] w fun e w' => e = .returned (.bool true) ∧ w = w') := Lib.hid (fun w => may_yes r w hr)
  clear hr
  go_enter Try.func27, Try.ntmps27
  go_wp2_with (go_at_call 15; refine (HM.out _).mono ?_; rintro e w' ⟨rfl, rfl⟩)
  go_ret
  exact ⟨rfl, (Bs.start w r c _).1⟩
theorem bwithin_no2 (r c : Int) (sl : Value) (w : World) (hr : r = 3 ∨ r = 5) (h1 : 1 ≤ c) (h4 : 4 < c) :
    Calls Try.prog 27 #[.agg #[.int .i64 r, .int .i64 c], sl] w fun e w' => e = .returned (.bool false) ∧ Below w.heap.size w w' := by
  have HM : Hid (∀ w, Calls Try.prog 15 #[.int .i64 r] w fun e w' => e = .returned (.bool true) ∧ w = w') := Lib.hid (fun w => may_yes r w hr)
  clear hr
  go_enter Try.func27, Try.ntmps27
  go_wp2_with (go_at_call 15; refine (HM.out _).mono ?_; rintro e w' ⟨rfl, rfl⟩)
  go_ret
  exact ⟨rfl, (Bs.start w r c _).1⟩
theorem bwithin_no3 (r c : Int) (sl : Value) (w : World) (h3 : (r == 3) = false) (h5 : (r == 5) = false) :
    Calls Try.prog 27 #[.agg #[.int .i64 r, .int .i64 c], sl] w fun e w' => e = .returned (.bool false) ∧ Below w.heap.size w w' := by
  go_enter Try.func27, Try.ntmps27
  go_wp2_with (go_at_call 15; refine (may_no _ _ h3 h5).mono ?_; rintro e w' ⟨rfl, rfl⟩)
  go_ret
  exact ⟨rfl, (Bs.start w r c _).1⟩
set_option maxRecDepth 100000 in
set_option maxHeartbeats 20000000 in
theorem bwithin_yes (r c : Int) (ad : Option Addr) (cap : Nat) (l : List Bst) (w : World) (hl : StepsAt w ad l) (hn : l.length ≤ 1000) (hc : l.length ≤ cap) (hm : Bud.may r c = true) :
    Calls Try.prog 27 #[.agg #[.int .i64 r, .int .i64 c], .slice ad l.length cap] w fun e w' => e = .returned (.bool (Bud.within r c l)) ∧ Below w.heap.size w w' := by
  have HC := Lib.hid (count_y r c ad cap l w hl hn hc hm)
  have HW : Hid (Bud.Within r c l ↔ (∀ w : Nat, w < 6 → (Quo.size (Bud.tal r l w) : Int) ≤ 2) ∧ ∀ s : Nat, s < 8 → (Quo.size (Bud.tal r l (6 + s) ||| Bud.tal r l 14) : Int) < Quo.enough r) := Lib.hid (by have := Bud.within_iff l hm; simpa only [Int.not_lt, Int.not_le] using this)
  obtain ⟨hr, hc1, hc4⟩ := (Bud.may_iff r c).1 hm
  have HM : Hid (∀ w, Calls Try.prog 15 #[.int .i64 r] w fun e w' => e = .returned (.bool true) ∧ w = w') := Lib.hid (fun w => may_yes r w hr)
  have HLT : Hid (∀ i, Bud.tal r l i < 32) := Lib.hid (fun i => Bud.tal_lt (by omega) _ i)
  have HSZ : Hid (∀ (s : Nat) w, s < 32 → Calls Try.prog 24 #[.int .i64 (s : Int)] w fun e w' => e = .returned (.int .i64 ((Quo.size s : Nat) : Int)) ∧ w = w') := Lib.hid (fun s w hs => by
    have := size_any s w (by omega)
    rwa [show qs (s : Int) = s from by unfold qs; omega] at this)
  have HEN := Lib.hid (enough_any r)
  have hc1' : ¬ c < 1 := by omega
  have hc4' : ¬ 4 < c := by omega
  obtain ⟨T, hT⟩ : ∃ T, T = Bud.tal r l := ⟨_, rfl⟩
  rw [← hT] at HC HW HLT
  clear hl hn hc hm hr hT hc1 hc4
  go_enter Try.func27, Try.ntmps27
  go_wp2_with (go_at_call 15; refine (HM.out _).mono ?_; rintro e w' ⟨rfl, rfl⟩)
  refine (HC.out _ (Bs.start w r c _).1).mono ?_
  rintro e w2 ⟨rfl, hb2⟩
  have hB2 := (Bs.start w r c _).later hb2
  clear hb2 HM HC
  go_wp2_with fail
  obtain ⟨W, hW⟩ : ∃ W, W = w2.alloc (.cells #[.int .i64 (T 0), .int .i64 (T 1), .int .i64 (T 2), .int .i64 (T 3), .int .i64 (T 4), .int .i64 (T 5), .int .i64 (T 6), .int .i64 (T 7), .int .i64 (T 8), .int .i64 (T 9), .int .i64 (T 10), .int .i64 (T 11), .int .i64 (T 12), .int .i64 (T 13), .int .i64 (T 14), .bool (l.any (Bud.rot r))] 66) := ⟨_, rfl⟩
  have HB3 : Hid (Bs w W r c) := Lib.hid (by rw [hW]; exact hB2.later ((Below.refl _ _).alloc (Nat.le_refl _) _))
  have HBT : Hid (Blk W w2.heap.size #[.int .i64 (T 0), .int .i64 (T 1), .int .i64 (T 2), .int .i64 (T 3), .int .i64 (T 4), .int .i64 (T 5), .int .i64 (T 6), .int .i64 (T 7), .int .i64 (T 8), .int .i64 (T 9), .int .i64 (T 10), .int .i64 (T 11), .int .i64 (T 12), .int .i64 (T 13), .int .i64 (T 14), .bool (l.any (Bud.rot r))]) := Lib.hid (by rw [hW]; exact Blk.new _ _ _ _ rfl)
  rw [← hW]
  clear hW hB2
  generalize w2.heap.size = g at *
  go_loopw [29] (fun iv wr => ∃ j : Nat, j ≤ 6 ∧ iv = .int .i64 (j : Int) ∧ (∀ i : Nat, i < j → (Quo.size (T i) : Int) ≤ 2) ∧ wr = W) (fun iv _ => 7 - (intOf iv).toNat)
  case atStart => exact ⟨0, by omega, rfl, fun i hi => absurd hi (by omega), rfl⟩
  case round =>
    obtain ⟨j, hj, rfl, hf, rfl⟩ := hrel
    have HF := Lib.hid hf
    clear hf
    by_cases hlt : j < 6
    · have hix := index6 T j hlt
      have hlti : (j : Int) < 6 := by omega
      have HS := Lib.hid (fun w => HSZ.out (T j) w (HLT.out j))
      obtain ⟨sz, hsz⟩ : ∃ sz, sz = Quo.size (T j) := ⟨_, rfl⟩
      rw [← hsz] at HS
      have HSE := Lib.hid hsz
      clear hsz
      by_cases h2 : 2 < (sz : Int)
      · have HY : Hid (false = Bud.within r c l) := Lib.hid (Bud.within_no (fun h => by have := (HW.out.1 h).1 j hlt; rw [← HSE.out] at this; omega)).symm
        go_wp2_with (go_at_call 24; refine (HS.out _).mono ?_; rintro e w' ⟨rfl, rfl⟩)
        go_ret
        exact ⟨ret_bool HY.out, HB3.out.1⟩
      · have HN : Hid (∀ i : Nat, i < j + 1 → (Quo.size (T i) : Int) ≤ 2) := Lib.hid (fun i hi => by
          by_cases q : i = j
          · subst q; rw [← HSE.out]; omega
          · exact HF.out i (by omega))
        go_wp2_with (go_at_call 24; refine (HS.out _).mono ?_; rintro e w' ⟨rfl, rfl⟩)
        go_roundw
        case rel => exact ⟨j + 1, by omega, by go_num, HN.out, by trivial⟩
        case measure => simp [intOf]; omega
    · have HJ6 : Hid (j = 6) := Lib.hid (by omega)
      have hlti : ¬ (j : Int) < 6 := by omega
      have HF : Hid (∀ i : Nat, i < 6 → (Quo.size (T i) : Int) ≤ 2) := Lib.hid (by have := HF.out; rwa [HJ6.out] at this)
      have t6 := (HBT.out.2 6 _ rfl).1
      have t7 := (HBT.out.2 7 _ rfl).1
      have t8 := (HBT.out.2 8 _ rfl).1
      have t9 := (HBT.out.2 9 _ rfl).1
      have t10 := (HBT.out.2 10 _ rfl).1
      have t11 := (HBT.out.2 11 _ rfl).1
      have t12 := (HBT.out.2 12 _ rfl).1
      have t13 := (HBT.out.2 13 _ rfl).1
      have t14 := (HBT.out.2 14 _ rfl).1
      obtain ⟨s0, s1⟩ := HB3.out.2.2
      go_wp2_with fail
      clear t6 t7 t8 t9 t10 t11 t12 t13 hlt hj hlti
      go_loopw [38] (fun iv wr2 => ∃ s : Nat, s ≤ 8 ∧ iv = .int .i64 (s : Int) ∧ (∀ i : Nat, i < s → (Quo.size (T (6 + i) ||| T 14) : Int) < Quo.enough r) ∧ ∃ m, wr2 = wr.drewN m) (fun iv _ => 9 - (intOf iv).toNat)
      case atStart => exact ⟨0, by omega, rfl, fun i hi => absurd hi (by omega), 0, rfl⟩
      case round =>
        obtain ⟨s, hs, rfl, hf, m, rfl⟩ := hrel
        have HG := Lib.hid hf
        clear hf
        by_cases hlt : s < 8
        · have hix := index8 T s hlt
          have hlti : (s : Int) < 8 := by omega
          have hor := or_small (T (6 + s)) (T 14) (HLT.out _) (HLT.out _)
          have HS := Lib.hid (fun w => HSZ.out (T (6 + s) ||| T 14) w (Nat.or_lt_two_pow (n := 5) (HLT.out _) (HLT.out _)))
          obtain ⟨sz, hsz⟩ : ∃ sz, sz = Quo.size (T (6 + s) ||| T 14) := ⟨_, rfl⟩
          rw [← hsz] at HS
          have HSE := Lib.hid hsz
          clear hsz
          obtain ⟨u, hu⟩ : ∃ u : Nat, u = T (6 + s) ||| T 14 := ⟨_, rfl⟩
          rw [← hu] at hor HS HSE
          have HU := Lib.hid hu
          clear hu
          obtain ⟨en, hen⟩ : ∃ en, en = Quo.enough r := ⟨_, rfl⟩
          have HE : Hid (∀ w, Calls Try.prog 16 #[.int .i64 r] w fun e w' => e = .returned (.int .i64 en) ∧ w = w') := Lib.hid (fun w => by rw [hen]; exact HEN.out w)
          have HEE := Lib.hid hen
          clear hen
          by_cases h2 : en ≤ (sz : Int)
          · have HY : Hid (false = Bud.within r c l) := Lib.hid (Bud.within_no (fun h => by have := (HW.out.1 h).2 s hlt; rw [← HEE.out, ← HU.out, ← HSE.out] at this; omega)).symm
            go_wp2_with fail
            go_quiet (first | (go_at_call 24; refine (HS.out _).mono ?_; rintro e w' ⟨rfl, rfl⟩; exact ⟨rfl, _, rfl⟩) | (go_at_call 16; refine (HE.out _).mono ?_; rintro e w' ⟨rfl, rfl⟩; exact ⟨rfl, _, rfl⟩))
            go_wp2_with fail
            go_ret
            exact ⟨ret_bool HY.out, Below.drewN2 (Below.drewN2 HB3.out.1 _) _⟩
          · have HN : Hid (∀ i : Nat, i < s + 1 → (Quo.size (T (6 + i) ||| T 14) : Int) < Quo.enough r) := Lib.hid (fun i hi => by
              by_cases q : i = s
              · subst q; rw [← HEE.out, ← HU.out, ← HSE.out]; omega
              · exact HG.out i (by omega))
            go_wp2_with fail
            go_quiet (first | (go_at_call 24; refine (HS.out _).mono ?_; rintro e w' ⟨rfl, rfl⟩; exact ⟨rfl, _, rfl⟩) | (go_at_call 16; refine (HE.out _).mono ?_; rintro e w' ⟨rfl, rfl⟩; exact ⟨rfl, _, rfl⟩))
            go_wp2_with fail
            go_roundw
            case rel => exact ⟨s + 1, by omega, by go_num, HN.out, _, rfl⟩
            case measure => simp [intOf]; omega
        · obtain rfl : s = 8 := by omega
          have HY : Hid (true = Bud.within r c l) := Lib.hid (Bud.within_yes (HW.out.2 ⟨HF.out, HG.out⟩)).symm
          go_wp2_with fail
          go_ret
          exact ⟨ret_bool HY.out, Below.drewN2 HB3.out.1 _⟩
theorem bwithin_any (r c : Int) (ad : Option Addr) (cap : Nat) (l : List Bst) (w : World) (hl : StepsAt w ad l) (hn : l.length ≤ 1000) (hc : l.length ≤ cap) :
    Calls Try.prog 27 #[.agg #[.int .i64 r, .int .i64 c], .slice ad l.length cap] w fun e w' => e = .returned (.bool (Bud.within r c l)) ∧ Below w.heap.size w w' := by
  by_cases hm : Bud.may r c = true
  · exact bwithin_yes r c ad cap l w hl hn hc hm
  · rw [Bud.within_no (fun h => hm h.1)]
    by_cases hr : r = 3 ∨ r = 5
    · by_cases h1 : c < 1
      · exact bwithin_no1 r c _ w hr h1
      · exact bwithin_no2 r c _ w hr (by omega) (Int.lt_of_not_ge (fun h => hm ((Bud.may_iff _ _).2 ⟨hr, by omega, h⟩)))
    · exact bwithin_no3 r c _ w (by simp; omega) (by simp; omega)
end Go.Proofs.Ytecaahcmebdglaa

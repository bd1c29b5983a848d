/- The stub of an entry, of the reference. The stub's bytes, of the reference: there are some just where the stub is right. The bytes of a stub, of the reference: there are some just where it is right. May an item be? The reference answers as the program does. -/
import Derived.Test.YtpbjjmenkoigjaaDoorMgLawChooseTurnsAG
import Derived.Test.YtpbjjmenkoigjaaDoorMgLawChooseTurnsAB
import Derived.Test.YtpbjjmenkoigjaaDoorMgLawChooseTurnsAA
section
namespace Go.Proofs.YtpbjjmenkoigjaaDoor
open Go.RowKit
set_option linter.unusedVariables false
theorem results_stub12 {tmps : Array Value} {w : World} {g : Nat} {s : Sst} (hp : tmps[2]?.getD undef = .pointer (some ⟨g, 0, none⟩)) (hB : Blk w g s.row) :
    (results Tryd.f59 tmps).run Tryd.prog w = .ok (.agg s.row) w := by
  have hl := run_loadVar_mid (P := Tryd.prog) w g 0 38 s.row.toList _ hB.range Tryd.underlying38 rfl (by kernel_rfl)
  rw [show results Tryd.f59 tmps = (do return (← loadVar 38 (← asAddr (tmps[2]?.getD undef)))) from by simp [results], hp]
  simp [asAddr, hl]
set_option maxRecDepth 100000 in
set_option maxHeartbeats 20000000 in
theorem rstub_any (e : Est) (w : World) (he : e.Ok) : Calls Tryd.prog 59 #[.agg e.row] w fun x w' => x = .returned (.agg (stubV e).row) ∧ Below w.heap.size w w' := by
  have HRT := Lib.hid (fun W => rright9_any e.v e.o e.u e.c e.s e.r e.k e.p e.b W)
  have HMK := Lib.hid (fun W => rmarkof_any e.v e.o e.u e.c e.s e.r e.k e.p e.b he.2 W)
  have H0 : Hid (SbI w ((w.alloc (.cells #[.int .i64 e.v, .int .i64 e.o, .int .i64 e.u, .int .u64 e.p, .int .i64 e.c, .int .i64 e.s, .int .i64 e.r, .int .i64 e.k, .string e.b] 35)).alloc (.cells Sst.zero.row 38)) e Sst.zero) := Lib.hid ⟨((Below.refl _ _).alloc (Nat.le_refl _) _).alloc (by simp) _, Blk.alloc (Blk.new _ _ _ _ rfl) _, Blk.new _ _ _ _ (by simp)⟩
  have HSV := Lib.hid (show stubV e = if e.B = true then ⟨e.o, e.v, e.u, e.p, e.sum⟩ else Sst.zero from rfl)
  unfold Est.row
  go_enter Tryd.func59, Tryd.ntmps59
  go_wp2_with fail
  refine (HRT.out _).mono ?_
  rintro x w1 ⟨rfl, hb1⟩
  have H1 := Lib.hid (H0.out.later hb1)
  clear hb1 H0
  rw [show entB e.v e.o e.u e.c e.s e.r e.k e.b = e.B from rfl]
  cases hB : e.B
  · rw [hB, if_neg (by simp)] at HSV
    obtain ⟨W2, st2, hz2, hB2, hbe2, hot2⟩ := refill (cs := Sst.zero.row) 38 H1.out.res rfl (by kernel_rfl) (Sst.row_one _)
    have st2 := Lib.hid st2
    have HB2 := Lib.hid hB2
    have HBE : Hid (Below w.heap.size w W2) := Lib.hid (H1.out.below.trans (hbe2 _ (by omega) H1.out.below.size))
    clear hB2 hbe2 hot2
    go_wp2_with (first | (guard_target =~ wpList _ _ _ (⟨_, Op.store _ (Operand.tmp 2) (Operand.tmp 6), _, _, _, _⟩ :: _) _ _; refine wpList_store_eq 38 (Operand.tmp 2) (Operand.tmp 6) rfl rfl st2.out rfl rfl ?_))
    exact bodyPost_ret (results_stub12 rfl HB2.out) rfl ⟨by rw [HSV.out], HBE.out⟩
  · rw [hB, if_pos rfl] at HSV
    go_wp2_with fail
    refine wp_region_noPanic ?_
    refine wp_region_held_drew (S := fun W => ∃ s, SbI w W e s) (by kernel_rfl) (show ∃ s, SbI w w1.drew e s from ⟨_, H1.out.later ⟨rfl, rfl, rfl, Nat.le_refl _, fun _ _ => rfl⟩⟩) (fun hHeld => ?_)
    have hHeld : SbI w w1.drew e Sst.zero := H1.out.later ⟨rfl, rfl, rfl, Nat.le_refl _, fun _ _ => rfl⟩
    generalize w1.drew = w2 at *
    refine wpAnyH_take (i := 0) (oi := { dst := some 7, op := _, type := _, pos := _, after := _, guard := _ }) (v := ?_) rfl (by kernel_rfl) (by kernel_rfl) (by kernel_rfl) (fun _ _ _ h => h) (Or.inl ⟨by rfl, ?_⟩) ⟨_, hHeld⟩ ?_
    rotate_left
    · intro W hSw
      obtain ⟨s0, hSw⟩ := hSw
      have d0 := (hSw.box.2 0 _ rfl).1
      have d1 := (hSw.box.2 1 _ rfl).1
      have d2 := (hSw.box.2 2 _ rfl).1
      have d3 := (hSw.box.2 3 _ rfl).1
      have d4 := (hSw.box.2 4 _ rfl).1
      have d5 := (hSw.box.2 5 _ rfl).1
      have d6 := (hSw.box.2 6 _ rfl).1
      have d7 := (hSw.box.2 7 _ rfl).1
      have d8 := (hSw.box.2 8 _ rfl).1
      go_simp
      first | done | rfl
    try simp only [Act.put, List.setIfInBounds_toArray, List.set_cons_zero, List.set_cons_succ]
    refine wpAnyH_take (i := 2) (oi := { dst := some 9, op := _, type := _, pos := _, after := _, guard := _ }) (v := ?_) rfl (by kernel_rfl) (by kernel_rfl) (by kernel_rfl) (fun _ _ _ h => h) (Or.inl ⟨by rfl, ?_⟩) ⟨_, hHeld⟩ ?_
    rotate_left
    · intro W hSw
      obtain ⟨s0, hSw⟩ := hSw
      have d0 := (hSw.box.2 0 _ rfl).1
      have d1 := (hSw.box.2 1 _ rfl).1
      have d2 := (hSw.box.2 2 _ rfl).1
      have d3 := (hSw.box.2 3 _ rfl).1
      have d4 := (hSw.box.2 4 _ rfl).1
      have d5 := (hSw.box.2 5 _ rfl).1
      have d6 := (hSw.box.2 6 _ rfl).1
      have d7 := (hSw.box.2 7 _ rfl).1
      have d8 := (hSw.box.2 8 _ rfl).1
      go_simp
      first | done | rfl
    try simp only [Act.put, List.setIfInBounds_toArray, List.set_cons_zero, List.set_cons_succ]
    refine wpAnyH_take (i := 4) (oi := { dst := some 11, op := _, type := _, pos := _, after := _, guard := _ }) (v := ?_) rfl (by kernel_rfl) (by kernel_rfl) (by kernel_rfl) (fun _ _ _ h => h) (Or.inl ⟨by rfl, ?_⟩) ⟨_, hHeld⟩ ?_
    rotate_left
    · intro W hSw
      obtain ⟨s0, hSw⟩ := hSw
      have d0 := (hSw.box.2 0 _ rfl).1
      have d1 := (hSw.box.2 1 _ rfl).1
      have d2 := (hSw.box.2 2 _ rfl).1
      have d3 := (hSw.box.2 3 _ rfl).1
      have d4 := (hSw.box.2 4 _ rfl).1
      have d5 := (hSw.box.2 5 _ rfl).1
      have d6 := (hSw.box.2 6 _ rfl).1
      have d7 := (hSw.box.2 7 _ rfl).1
      have d8 := (hSw.box.2 8 _ rfl).1
      go_simp
      first | done | rfl
    try simp only [Act.put, List.setIfInBounds_toArray, List.set_cons_zero, List.set_cons_succ]
    refine wpAnyH_take (i := 6) (oi := { dst := some 13, op := _, type := _, pos := _, after := _, guard := _ }) (v := ?_) rfl (by kernel_rfl) (by kernel_rfl) (by kernel_rfl) (fun _ _ _ h => h) (Or.inl ⟨by rfl, ?_⟩) ⟨_, hHeld⟩ ?_
    rotate_left
    · intro W hSw
      obtain ⟨s0, hSw⟩ := hSw
      have d0 := (hSw.box.2 0 _ rfl).1
      have d1 := (hSw.box.2 1 _ rfl).1
      have d2 := (hSw.box.2 2 _ rfl).1
      have d3 := (hSw.box.2 3 _ rfl).1
      have d4 := (hSw.box.2 4 _ rfl).1
      have d5 := (hSw.box.2 5 _ rfl).1
      have d6 := (hSw.box.2 6 _ rfl).1
      have d7 := (hSw.box.2 7 _ rfl).1
      have d8 := (hSw.box.2 8 _ rfl).1
      go_simp
      first | done | rfl
    try simp only [Act.put, List.setIfInBounds_toArray, List.set_cons_zero, List.set_cons_succ]
    refine wpAnyH_take (i := 8) (oi := { dst := some 15, op := _, type := _, pos := _, after := _, guard := _ }) (v := ?_) rfl (by kernel_rfl) (by kernel_rfl) (by kernel_rfl) (fun _ _ _ h => h) (Or.inl ⟨by rfl, ?_⟩) ⟨_, hHeld⟩ ?_
    rotate_left
    · intro W hSw
      obtain ⟨s0, hSw⟩ := hSw
      have d0 := (hSw.box.2 0 _ rfl).1
      have d1 := (hSw.box.2 1 _ rfl).1
      have d2 := (hSw.box.2 2 _ rfl).1
      have d3 := (hSw.box.2 3 _ rfl).1
      have d4 := (hSw.box.2 4 _ rfl).1
      have d5 := (hSw.box.2 5 _ rfl).1
      have d6 := (hSw.box.2 6 _ rfl).1
      have d7 := (hSw.box.2 7 _ rfl).1
      have d8 := (hSw.box.2 8 _ rfl).1
      go_simp
      first | done | rfl
    try simp only [Act.put, List.setIfInBounds_toArray, List.set_cons_zero, List.set_cons_succ]
    refine wpAnyH_take (i := 1) (oi := { dst := some 8, op := _, type := _, pos := _, after := _, guard := _ }) (v := ?_) rfl (by kernel_rfl) (by kernel_rfl) (by kernel_rfl) (fun _ _ _ h => h) (Or.inl ⟨by rfl, ?_⟩) ⟨_, hHeld⟩ ?_
    rotate_left
    · intro W hSw
      obtain ⟨s0, hSw⟩ := hSw
      have d0 := (hSw.box.2 0 _ rfl).1
      have d1 := (hSw.box.2 1 _ rfl).1
      have d2 := (hSw.box.2 2 _ rfl).1
      have d3 := (hSw.box.2 3 _ rfl).1
      have d4 := (hSw.box.2 4 _ rfl).1
      have d5 := (hSw.box.2 5 _ rfl).1
      have d6 := (hSw.box.2 6 _ rfl).1
      have d7 := (hSw.box.2 7 _ rfl).1
      have d8 := (hSw.box.2 8 _ rfl).1
      go_simp
      first | done | rfl
    try simp only [Act.put, List.setIfInBounds_toArray, List.set_cons_zero, List.set_cons_succ]
    refine wpAnyH_take (i := 3) (oi := { dst := some 10, op := _, type := _, pos := _, after := _, guard := _ }) (v := ?_) rfl (by kernel_rfl) (by kernel_rfl) (by kernel_rfl) (fun _ _ _ h => h) (Or.inl ⟨by rfl, ?_⟩) ⟨_, hHeld⟩ ?_
    rotate_left
    · intro W hSw
      obtain ⟨s0, hSw⟩ := hSw
      have d0 := (hSw.box.2 0 _ rfl).1
      have d1 := (hSw.box.2 1 _ rfl).1
      have d2 := (hSw.box.2 2 _ rfl).1
      have d3 := (hSw.box.2 3 _ rfl).1
      have d4 := (hSw.box.2 4 _ rfl).1
      have d5 := (hSw.box.2 5 _ rfl).1
      have d6 := (hSw.box.2 6 _ rfl).1
      have d7 := (hSw.box.2 7 _ rfl).1
      have d8 := (hSw.box.2 8 _ rfl).1
      go_simp
      first | done | rfl
    try simp only [Act.put, List.setIfInBounds_toArray, List.set_cons_zero, List.set_cons_succ]
    refine wpAnyH_take (i := 5) (oi := { dst := some 12, op := _, type := _, pos := _, after := _, guard := _ }) (v := ?_) rfl (by kernel_rfl) (by kernel_rfl) (by kernel_rfl) (fun _ _ _ h => h) (Or.inl ⟨by rfl, ?_⟩) ⟨_, hHeld⟩ ?_
    rotate_left
    · intro W hSw
      obtain ⟨s0, hSw⟩ := hSw
      have d0 := (hSw.box.2 0 _ rfl).1
      have d1 := (hSw.box.2 1 _ rfl).1
      have d2 := (hSw.box.2 2 _ rfl).1
      have d3 := (hSw.box.2 3 _ rfl).1
      have d4 := (hSw.box.2 4 _ rfl).1
      have d5 := (hSw.box.2 5 _ rfl).1
      have d6 := (hSw.box.2 6 _ rfl).1
      have d7 := (hSw.box.2 7 _ rfl).1
      have d8 := (hSw.box.2 8 _ rfl).1
      go_simp
      first | done | rfl
    try simp only [Act.put, List.setIfInBounds_toArray, List.set_cons_zero, List.set_cons_succ]
    refine wpAnyH_take (i := 7) (oi := { dst := some 14, op := _, type := _, pos := _, after := _, guard := _ }) (v := ?_) rfl (by kernel_rfl) (by kernel_rfl) (by kernel_rfl) (fun _ _ _ h => h) (Or.inl ⟨by rfl, ?_⟩) ⟨_, hHeld⟩ ?_
    rotate_left
    · intro W hSw
      obtain ⟨s0, hSw⟩ := hSw
      have d0 := (hSw.box.2 0 _ rfl).1
      have d1 := (hSw.box.2 1 _ rfl).1
      have d2 := (hSw.box.2 2 _ rfl).1
      have d3 := (hSw.box.2 3 _ rfl).1
      have d4 := (hSw.box.2 4 _ rfl).1
      have d5 := (hSw.box.2 5 _ rfl).1
      have d6 := (hSw.box.2 6 _ rfl).1
      have d7 := (hSw.box.2 7 _ rfl).1
      have d8 := (hSw.box.2 8 _ rfl).1
      go_simp
      first | done | rfl
    try simp only [Act.put, List.setIfInBounds_toArray, List.set_cons_zero, List.set_cons_succ]
    refine wpAnyH_ready (rs := [9]) (by kernel_rfl) (by simp) ?_
    refine AllReadyH.cons (o := { dst := some 16, op := _, type := _, pos := _, after := _, guard := _ }) rfl (fun K hK => ?_) AllReadyH.nil
    go_simp
    refine (HMK.out _).mono ?_
    rintro e wx ⟨rfl, hbx⟩
    have hS2 := hHeld.later hbx
    clear hbx
    refine hK.out _ _ ⟨_, hS2⟩ (fun _ => ?_)
    clear hK K
    try simp only [Act.put, List.setIfInBounds_toArray, List.set_cons_zero, List.set_cons_succ]
    refine wpAnyH_take (i := 10) (oi := { dst := some 17, op := _, type := _, pos := _, after := _, guard := _ }) (v := ?_) rfl (by kernel_rfl) (by kernel_rfl) (by kernel_rfl) (fun _ _ _ h => h) (Or.inl ⟨by rfl, ?_⟩) ⟨_, hS2⟩ ?_
    rotate_left
    · intro W hSw
      obtain ⟨s0, hSw⟩ := hSw
      have d0 := (hSw.box.2 0 _ rfl).1
      have d1 := (hSw.box.2 1 _ rfl).1
      have d2 := (hSw.box.2 2 _ rfl).1
      have d3 := (hSw.box.2 3 _ rfl).1
      have d4 := (hSw.box.2 4 _ rfl).1
      have d5 := (hSw.box.2 5 _ rfl).1
      have d6 := (hSw.box.2 6 _ rfl).1
      have d7 := (hSw.box.2 7 _ rfl).1
      have d8 := (hSw.box.2 8 _ rfl).1
      go_simp
      first | done | rfl
    try simp only [Act.put, List.setIfInBounds_toArray, List.set_cons_zero, List.set_cons_succ]
    refine wpAnyH_take (i := 11) (oi := { dst := some 18, op := _, type := _, pos := _, after := _, guard := _ }) (v := ?_) rfl (by kernel_rfl) (by kernel_rfl) (by kernel_rfl) (fun _ _ _ h => h) (Or.inl ⟨by rfl, ?_⟩) ⟨_, hS2⟩ ?_
    rotate_left
    · intro W hSw
      obtain ⟨s0, hSw⟩ := hSw
      have d0 := (hSw.box.2 0 _ rfl).1
      have d1 := (hSw.box.2 1 _ rfl).1
      have d2 := (hSw.box.2 2 _ rfl).1
      have d3 := (hSw.box.2 3 _ rfl).1
      have d4 := (hSw.box.2 4 _ rfl).1
      have d5 := (hSw.box.2 5 _ rfl).1
      have d6 := (hSw.box.2 6 _ rfl).1
      have d7 := (hSw.box.2 7 _ rfl).1
      have d8 := (hSw.box.2 8 _ rfl).1
      go_simp
      first | done | rfl
    try simp only [Act.put, List.setIfInBounds_toArray, List.set_cons_zero, List.set_cons_succ]
    refine wpAnyH_ready (rs := [12]) (by kernel_rfl) (by simp) ?_
    refine AllReadyH.cons (o := { dst := none, op := _, type := _, pos := _, after := _, guard := _ }) rfl (fun K hK => ?_) AllReadyH.nil
    obtain ⟨W2, st2, hz2, hB2, hbe2, hot2⟩ := refill (cs := (⟨e.o, e.v, e.u, e.p, e.sum⟩ : Sst).row) 38 hS2.res rfl (by kernel_rfl) (Sst.row_one _)
    have hS3 : SbI w W2 e ⟨e.o, e.v, e.u, e.p, e.sum⟩ := ⟨hS2.below.trans (hbe2 _ (by omega) hS2.below.size), hot2 _ _ (by omega) hS2.box, hB2⟩
    have HBE := Lib.hid hS3.below
    clear hbe2 hot2 hz2
    refine wp_store_eq 38 (Operand.tmp 2) (Operand.tmp 18) rfl st2 rfl rfl ?_
    refine hK.out _ _ ⟨_, hS3⟩ (fun _ => ?_)
    clear hK K
    try simp only [Act.put, List.setIfInBounds_toArray, List.set_cons_zero, List.set_cons_succ]
    refine wpAnyH_done (by kernel_rfl) ?_ _
    refine NoPanic.normal ?_
    go_wp2_with fail
    exact bodyPost_ret (results_stub12 rfl hB2) rfl ⟨by rw [HSV.out], HBE.out⟩

end Go.Proofs.YtpbjjmenkoigjaaDoor
end

section
namespace Go.Proofs.YtpbjjmenkoigjaaDoor
open Go.RowKit
set_option linter.unusedVariables false
theorem rfit12_yes (n m : Int) (w : World) (h : m ≤ n ∧ n ≤ 72057594037927935) : Calls Tryd.prog 66 #[.int .i64 n, .int .i64 m] w fun e w' => e = .returned (.bool true) ∧ w = w' := by
  obtain ⟨h1, h2⟩ := h
  go_enter Tryd.func66, Tryd.ntmps66
  go_wp2
  go_ret
  exact ⟨ret_bool (by first | (simp; done) | (simp; omega)), rfl⟩
theorem rfit12_no (n m : Int) (w : World) (h : ¬ (m ≤ n ∧ n ≤ 72057594037927935)) : Calls Tryd.prog 66 #[.int .i64 n, .int .i64 m] w fun e w' => e = .returned (.bool false) ∧ w = w' := by
  by_cases h1 : n < m
  · clear h
    go_enter Tryd.func66, Tryd.ntmps66
    go_wp2
    go_ret
    exact ⟨ret_bool (by first | (simp; done) | (simp; omega)), rfl⟩
  · have h2 : 72057594037927935 < n := by omega
    have h3 : m ≤ n := by omega
    clear h h1
    go_enter Tryd.func66, Tryd.ntmps66
    go_wp2
    go_ret
    exact ⟨ret_bool (by first | (simp; done) | (simp; omega)), rfl⟩
theorem rfit17_yes (n : Int) (w : World) (h : 0 ≤ n ∧ n ≤ 72057594037927935) : Calls Tryd.prog 44 #[.int .i64 n] w fun e w' => e = .returned (.bool true) ∧ w = w' := by
  obtain ⟨h1, h2⟩ := h
  go_enter Tryd.func44, Tryd.ntmps44
  go_wp2
  go_ret
  exact ⟨ret_bool (by first | (simp; done) | (simp; omega)), rfl⟩
theorem rfit17_no (n : Int) (w : World) (h : ¬ (0 ≤ n ∧ n ≤ 72057594037927935)) : Calls Tryd.prog 44 #[.int .i64 n] w fun e w' => e = .returned (.bool false) ∧ w = w' := by
  by_cases h1 : n < 0
  · clear h
    go_enter Tryd.func44, Tryd.ntmps44
    go_wp2
    go_ret
    exact ⟨ret_bool (by first | (simp; done) | (simp; omega)), rfl⟩
  · have h2 : 72057594037927935 < n := by omega
    have h3 : 0 ≤ n := by omega
    clear h h1
    go_enter Tryd.func44, Tryd.ntmps44
    go_wp2
    go_ret
    exact ⟨ret_bool (by first | (simp; done) | (simp; omega)), rfl⟩

set_option maxHeartbeats 4000000 in
theorem eight_any (n : Nat) (w : World) (hn : n < 18446744073709551616) : Calls Tryd.prog 67 #[.int .u64 n] w fun e w' => ∃ S, e = .returned (.string S) ∧ S.size = 8 ∧ Below w.heap.size w w' := by
  have HC := Lib.hid (fun (p : Option Addr) (cap : Nat) (W : World) => refput_loop p cap [] n 8 W (holds_zero W p cap) hn (by decide) (by decide) (by decide))
  have HZ := Lib.hid (Nat.div_eq_of_lt (show n < 256 ^ 8 by omega))
  clear hn
  go_enter Tryd.func67, Tryd.ntmps67
  go_wp2_with fail
  refine (HC.out _ _ _).mono ?_
  rintro e w1 ⟨hb1, hP⟩
  obtain ⟨v', rfl, hO⟩ : ∃ v', e = .returned (.tuple #[v', .int .i64 0]) ∧ OwnB (w.alloc (.cells #[] 5)).heap.size w1 v' ([] ++ leN n 8) := by
    rcases hP with h | h
    · exact h.2
    · exact absurd HZ.out h.1
  have hH1 := hO.holds
  obtain ⟨q1, cq1, hv, _⟩ := hO.slice'
  have H1 : Hid (Below w.heap.size w w1) := Lib.hid (((Below.refl _ _).alloc (Nat.le_refl _) _).trans (hb1.mono (by simp)))
  clear hP hO hb1 HC HZ
  obtain ⟨M, hM⟩ : ∃ M, M = [] ++ leN n 8 := ⟨_, rfl⟩
  rw [← hM] at hv hH1
  subst hv
  have r1 := run_text w1 _ _ _ M hH1
  have HL : Hid (M.length = 8) := Lib.hid (by rw [hM]; simp [leN_length])
  clear hM hH1
  go_wp2_with fail
  go_ret
  exact ⟨_, rfl, by rw [text_size, HL.out], H1.out⟩
theorem eight_int (x : Int) (w : World) (hx : 0 ≤ x ∧ x ≤ 18446744073709551615) : Calls Tryd.prog 67 #[.int .u64 x] w fun e w' => ∃ S, e = .returned (.string S) ∧ S.size = 8 ∧ Below w.heap.size w w' := by
  obtain ⟨n, rfl⟩ : ∃ n : Nat, x = (n : Int) := ⟨x.toNat, by omega⟩
  exact eight_any n w (by omega)
end Go.Proofs.YtpbjjmenkoigjaaDoor
end

section
namespace Go.Proofs.YtpbjjmenkoigjaaDoor
open Go.RowKit
set_option linter.unusedVariables false
structure BxI (w W : World) (s : Sst) : Prop where
  below : Below w.heap.size w W
  box : Blk W w.heap.size s.row
theorem BxI.later {w W W' : World} {s : Sst} (h : BxI w W s) (hb : Below W.heap.size W W') : BxI w W' s := ⟨h.below.trans (hb.mono h.below.size), h.box.later hb⟩
set_option maxRecDepth 100000 in
set_option maxHeartbeats 20000000 in
theorem rbytes_any (s : Sst) (w : World) (hs : s.Ok) : Calls Tryd.prog 60 #[.agg s.row] w fun x w' => ∃ S, x = .returned (.tuple #[.string S, .bool s.B]) ∧ Below w.heap.size w w' := by
  have HBE : Hid (Below w.heap.size w (w.alloc (.cells #[.int .i64 s.o, .int .i64 s.v, .int .i64 s.u, .int .u64 s.p, .int .u64 s.s] 38))) := Lib.hid ((Below.refl _ _).alloc (Nat.le_refl _) _)
  have HBX : Hid (BxI w (w.alloc (.cells #[.int .i64 s.o, .int .i64 s.v, .int .i64 s.u, .int .u64 s.p, .int .u64 s.s] 38)) s) := Lib.hid ⟨HBE.out, Blk.new _ _ _ _ rfl⟩
  obtain ⟨_, hp, hs⟩ := hs
  unfold Sst.row
  by_cases h0 : 1 ≤ s.o ∧ s.o ≤ 72057594037927935
  rotate_left
  · have H0 := Lib.hid h0
    have HV : Hid (s.B = false) := Lib.hid (decide_eq_false (by have := H0.out; omega))
    clear h0
    go_enter Tryd.func60, Tryd.ntmps60
    go_wp2_with fail
    refine (rfit12_no _ _ _ H0.out).mono ?_
    rintro e w1 ⟨rfl, rfl⟩
    go_wp2_with fail
    go_ret2
    exact ⟨_, by rw [HV.out]; rfl, HBE.out⟩
  have H0 := Lib.hid h0
  clear h0
  by_cases h1 : 0 ≤ s.v ∧ s.v ≤ 72057594037927935
  rotate_left
  · have H1 := Lib.hid h1
    have HV : Hid (s.B = false) := Lib.hid (decide_eq_false (by have := H1.out; omega))
    clear h1
    go_enter Tryd.func60, Tryd.ntmps60
    go_wp2_with fail
    refine (rfit12_yes _ _ _ H0.out).mono ?_
    rintro e w1 ⟨rfl, rfl⟩
    go_wp2_with fail
    refine (rfit12_no _ _ _ H1.out).mono ?_
    rintro e w1 ⟨rfl, rfl⟩
    go_wp2_with fail
    go_ret2
    exact ⟨_, by rw [HV.out]; rfl, HBE.out⟩
  have H1 := Lib.hid h1
  clear h1
  by_cases h2 : 0 ≤ s.u ∧ s.u ≤ 72057594037927935
  rotate_left
  · have H2 := Lib.hid h2
    have HV : Hid (s.B = false) := Lib.hid (decide_eq_false (by have := H2.out; omega))
    clear h2
    go_enter Tryd.func60, Tryd.ntmps60
    go_wp2_with fail
    refine (rfit12_yes _ _ _ H0.out).mono ?_
    rintro e w1 ⟨rfl, rfl⟩
    go_wp2_with fail
    refine (rfit12_yes _ _ _ H1.out).mono ?_
    rintro e w1 ⟨rfl, rfl⟩
    go_wp2_with fail
    refine (rfit12_no _ _ _ H2.out).mono ?_
    rintro e w1 ⟨rfl, rfl⟩
    go_wp2_with fail
    go_ret2
    exact ⟨_, by rw [HV.out]; rfl, HBE.out⟩
  have H2 := Lib.hid h2
  clear h2
  by_cases h3 : s.v < s.u
  · have HV : Hid (s.B = false) := Lib.hid (decide_eq_false (by omega))
    go_enter Tryd.func60, Tryd.ntmps60
    go_wp2_with fail
    refine (rfit12_yes _ _ _ H0.out).mono ?_
    rintro e w1 ⟨rfl, rfl⟩
    go_wp2_with fail
    refine (rfit12_yes _ _ _ H1.out).mono ?_
    rintro e w1 ⟨rfl, rfl⟩
    go_wp2_with fail
    refine (rfit12_yes _ _ _ H2.out).mono ?_
    rintro e w1 ⟨rfl, rfl⟩
    go_wp2_with fail
    go_ret2
    exact ⟨_, by rw [HV.out]; rfl, HBE.out⟩
  · have HV : Hid (s.B = true) := Lib.hid (decide_eq_true (by have h0 := H0.out; have h1 := H1.out; have h2 := H2.out; omega))
    go_enter Tryd.func60, Tryd.ntmps60
    go_wp2_with fail
    refine (rfit12_yes _ _ _ H0.out).mono ?_
    rintro e w1 ⟨rfl, rfl⟩
    go_wp2_with fail
    refine (rfit12_yes _ _ _ H1.out).mono ?_
    rintro e w1 ⟨rfl, rfl⟩
    go_wp2_with fail
    refine (rfit12_yes _ _ _ H2.out).mono ?_
    rintro e w1 ⟨rfl, rfl⟩
    go_wp2_with fail
    have h0 := H0.out
    have h1 := H1.out
    have h2 := H2.out
    clear H0 H1 H2
    refine wp_region_noPanic ?_
    refine wp_region_held_drew (S := fun W => BxI w W s) (by kernel_rfl) (show BxI w (w.alloc (.cells #[.int .i64 s.o, .int .i64 s.v, .int .i64 s.u, .int .u64 s.p, .int .u64 s.s] 38)).drew s from HBX.out.later ⟨rfl, rfl, rfl, Nat.le_refl _, fun _ _ => rfl⟩) (fun hA0 => ?_)
    generalize World.drew _ = w2 at *
    refine wpAnyH_take (i := 0) (oi := { dst := some 27, op := _, type := _, pos := _, after := _, guard := _ }) (v := ?_) rfl (by kernel_rfl) (by kernel_rfl) (by kernel_rfl) (fun _ _ _ h => h) (Or.inl ⟨by rfl, ?_⟩) hA0 ?_
    rotate_left
    · intro W hSw
      have d0 := (hSw.box.2 0 _ rfl).1
      have d1 := (hSw.box.2 1 _ rfl).1
      have d2 := (hSw.box.2 2 _ rfl).1
      have d3 := (hSw.box.2 3 _ rfl).1
      have d4 := (hSw.box.2 4 _ rfl).1
      go_simp
      first | done | rfl
    try simp only [Act.put, List.setIfInBounds_toArray, List.set_cons_zero, List.set_cons_succ]
    refine wpAnyH_take (i := 4) (oi := { dst := some 31, op := _, type := _, pos := _, after := _, guard := _ }) (v := ?_) rfl (by kernel_rfl) (by kernel_rfl) (by kernel_rfl) (fun _ _ _ h => h) (Or.inl ⟨by rfl, ?_⟩) hA0 ?_
    rotate_left
    · intro W hSw
      have d0 := (hSw.box.2 0 _ rfl).1
      have d1 := (hSw.box.2 1 _ rfl).1
      have d2 := (hSw.box.2 2 _ rfl).1
      have d3 := (hSw.box.2 3 _ rfl).1
      have d4 := (hSw.box.2 4 _ rfl).1
      go_simp
      first | done | rfl
    try simp only [Act.put, List.setIfInBounds_toArray, List.set_cons_zero, List.set_cons_succ]
    refine wpAnyH_take (i := 9) (oi := { dst := some 36, op := _, type := _, pos := _, after := _, guard := _ }) (v := ?_) rfl (by kernel_rfl) (by kernel_rfl) (by kernel_rfl) (fun _ _ _ h => h) (Or.inl ⟨by rfl, ?_⟩) hA0 ?_
    rotate_left
    · intro W hSw
      have d0 := (hSw.box.2 0 _ rfl).1
      have d1 := (hSw.box.2 1 _ rfl).1
      have d2 := (hSw.box.2 2 _ rfl).1
      have d3 := (hSw.box.2 3 _ rfl).1
      have d4 := (hSw.box.2 4 _ rfl).1
      go_simp
      first | done | rfl
    try simp only [Act.put, List.setIfInBounds_toArray, List.set_cons_zero, List.set_cons_succ]
    refine wpAnyH_take (i := 14) (oi := { dst := some 41, op := _, type := _, pos := _, after := _, guard := _ }) (v := ?_) rfl (by kernel_rfl) (by kernel_rfl) (by kernel_rfl) (fun _ _ _ h => h) (Or.inl ⟨by rfl, ?_⟩) hA0 ?_
    rotate_left
    · intro W hSw
      have d0 := (hSw.box.2 0 _ rfl).1
      have d1 := (hSw.box.2 1 _ rfl).1
      have d2 := (hSw.box.2 2 _ rfl).1
      have d3 := (hSw.box.2 3 _ rfl).1
      have d4 := (hSw.box.2 4 _ rfl).1
      go_simp
      first | done | rfl
    try simp only [Act.put, List.setIfInBounds_toArray, List.set_cons_zero, List.set_cons_succ]
    refine wpAnyH_take (i := 18) (oi := { dst := some 45, op := _, type := _, pos := _, after := _, guard := _ }) (v := ?_) rfl (by kernel_rfl) (by kernel_rfl) (by kernel_rfl) (fun _ _ _ h => h) (Or.inl ⟨by rfl, ?_⟩) hA0 ?_
    rotate_left
    · intro W hSw
      have d0 := (hSw.box.2 0 _ rfl).1
      have d1 := (hSw.box.2 1 _ rfl).1
      have d2 := (hSw.box.2 2 _ rfl).1
      have d3 := (hSw.box.2 3 _ rfl).1
      have d4 := (hSw.box.2 4 _ rfl).1
      go_simp
      first | done | rfl
    try simp only [Act.put, List.setIfInBounds_toArray, List.set_cons_zero, List.set_cons_succ]
    refine wpAnyH_take (i := 1) (oi := { dst := some 28, op := _, type := _, pos := _, after := _, guard := _ }) (v := ?_) rfl (by kernel_rfl) (by kernel_rfl) (by kernel_rfl) (fun _ _ _ h => h) (Or.inl ⟨by rfl, ?_⟩) hA0 ?_
    rotate_left
    · intro W hSw
      have d0 := (hSw.box.2 0 _ rfl).1
      have d1 := (hSw.box.2 1 _ rfl).1
      have d2 := (hSw.box.2 2 _ rfl).1
      have d3 := (hSw.box.2 3 _ rfl).1
      have d4 := (hSw.box.2 4 _ rfl).1
      go_simp
      first | done | rfl
    try simp only [Act.put, List.setIfInBounds_toArray, List.set_cons_zero, List.set_cons_succ]
    refine wpAnyH_take (i := 5) (oi := { dst := some 32, op := _, type := _, pos := _, after := _, guard := _ }) (v := ?_) rfl (by kernel_rfl) (by kernel_rfl) (by kernel_rfl) (fun _ _ _ h => h) (Or.inl ⟨by rfl, ?_⟩) hA0 ?_
    rotate_left
    · intro W hSw
      have d0 := (hSw.box.2 0 _ rfl).1
      have d1 := (hSw.box.2 1 _ rfl).1
      have d2 := (hSw.box.2 2 _ rfl).1
      have d3 := (hSw.box.2 3 _ rfl).1
      have d4 := (hSw.box.2 4 _ rfl).1
      go_simp
      first | done | rfl
    try simp only [Act.put, List.setIfInBounds_toArray, List.set_cons_zero, List.set_cons_succ]
    refine wpAnyH_take (i := 10) (oi := { dst := some 37, op := _, type := _, pos := _, after := _, guard := _ }) (v := ?_) rfl (by kernel_rfl) (by kernel_rfl) (by kernel_rfl) (fun _ _ _ h => h) (Or.inl ⟨by rfl, ?_⟩) hA0 ?_
    rotate_left
    · intro W hSw
      have d0 := (hSw.box.2 0 _ rfl).1
      have d1 := (hSw.box.2 1 _ rfl).1
      have d2 := (hSw.box.2 2 _ rfl).1
      have d3 := (hSw.box.2 3 _ rfl).1
      have d4 := (hSw.box.2 4 _ rfl).1
      go_simp
      first | done | rfl
    try simp only [Act.put, List.setIfInBounds_toArray, List.set_cons_zero, List.set_cons_succ]
    refine wpAnyH_take (i := 15) (oi := { dst := some 42, op := _, type := _, pos := _, after := _, guard := _ }) (v := ?_) rfl (by kernel_rfl) (by kernel_rfl) (by kernel_rfl) (fun _ _ _ h => h) (Or.inl ⟨by rfl, ?_⟩) hA0 ?_
    rotate_left
    · intro W hSw
      have d0 := (hSw.box.2 0 _ rfl).1
      have d1 := (hSw.box.2 1 _ rfl).1
      have d2 := (hSw.box.2 2 _ rfl).1
      have d3 := (hSw.box.2 3 _ rfl).1
      have d4 := (hSw.box.2 4 _ rfl).1
      go_simp
      first | done | rfl
    try simp only [Act.put, List.setIfInBounds_toArray, List.set_cons_zero, List.set_cons_succ]
    refine wpAnyH_take (i := 19) (oi := { dst := some 46, op := _, type := _, pos := _, after := _, guard := _ }) (v := ?_) rfl (by kernel_rfl) (by kernel_rfl) (by kernel_rfl) (fun _ _ _ h => h) (Or.inl ⟨by rfl, ?_⟩) hA0 ?_
    rotate_left
    · intro W hSw
      have d0 := (hSw.box.2 0 _ rfl).1
      have d1 := (hSw.box.2 1 _ rfl).1
      have d2 := (hSw.box.2 2 _ rfl).1
      have d3 := (hSw.box.2 3 _ rfl).1
      have d4 := (hSw.box.2 4 _ rfl).1
      go_simp
      first | done | rfl
    try simp only [Act.put, List.setIfInBounds_toArray, List.set_cons_zero, List.set_cons_succ]
    refine wpAnyH_take (i := 2) (oi := { dst := some 29, op := _, type := _, pos := _, after := _, guard := _ }) (v := ?_) rfl (by kernel_rfl) (by kernel_rfl) (by kernel_rfl) (fun _ _ _ h => h) (Or.inl ⟨by rfl, ?_⟩) hA0 ?_
    rotate_left
    · intro W hSw
      have d0 := (hSw.box.2 0 _ rfl).1
      have d1 := (hSw.box.2 1 _ rfl).1
      have d2 := (hSw.box.2 2 _ rfl).1
      have d3 := (hSw.box.2 3 _ rfl).1
      have d4 := (hSw.box.2 4 _ rfl).1
      go_simp
      first | done | rfl
    try simp only [Act.put, List.setIfInBounds_toArray, List.set_cons_zero, List.set_cons_succ]
    refine wpAnyH_take (i := 6) (oi := { dst := some 33, op := _, type := _, pos := _, after := _, guard := _ }) (v := ?_) rfl (by kernel_rfl) (by kernel_rfl) (by kernel_rfl) (fun _ _ _ h => h) (Or.inl ⟨by rfl, ?_⟩) hA0 ?_
    rotate_left
    · intro W hSw
      have d0 := (hSw.box.2 0 _ rfl).1
      have d1 := (hSw.box.2 1 _ rfl).1
      have d2 := (hSw.box.2 2 _ rfl).1
      have d3 := (hSw.box.2 3 _ rfl).1
      have d4 := (hSw.box.2 4 _ rfl).1
      go_simp
      first | done | rfl
    try simp only [Act.put, List.setIfInBounds_toArray, List.set_cons_zero, List.set_cons_succ]
    refine wpAnyH_take (i := 11) (oi := { dst := some 38, op := _, type := _, pos := _, after := _, guard := _ }) (v := ?_) rfl (by kernel_rfl) (by kernel_rfl) (by kernel_rfl) (fun _ _ _ h => h) (Or.inl ⟨by rfl, ?_⟩) hA0 ?_
    rotate_left
    · intro W hSw
      have d0 := (hSw.box.2 0 _ rfl).1
      have d1 := (hSw.box.2 1 _ rfl).1
      have d2 := (hSw.box.2 2 _ rfl).1
      have d3 := (hSw.box.2 3 _ rfl).1
      have d4 := (hSw.box.2 4 _ rfl).1
      go_simp
      first | done | rfl
    try simp only [Act.put, List.setIfInBounds_toArray, List.set_cons_zero, List.set_cons_succ]
    refine wpAnyH_ready (rs := [3]) (by kernel_rfl) (by simp) ?_
    refine AllReadyH.cons (o := { dst := some 30, op := _, type := _, pos := _, after := _, guard := _ }) rfl (fun K hK => ?_) AllReadyH.nil
    go_simp
    refine (eight_int _ _ ?_).mono ?_
    · first | omega | (rw [IntKind.wrap_u64]; omega) | skip
    rintro e wx ⟨S0, rfl, hz0, hbx⟩
    have hA1 := hA0.later hbx
    clear hbx
    refine hK.out _ _ hA1 (fun _ => ?_)
    clear hK K
    try simp only [Act.put, List.setIfInBounds_toArray, List.set_cons_zero, List.set_cons_succ]
    refine wpAnyH_ready (rs := [7]) (by kernel_rfl) (by simp) ?_
    refine AllReadyH.cons (o := { dst := some 34, op := _, type := _, pos := _, after := _, guard := _ }) rfl (fun K hK => ?_) AllReadyH.nil
    go_simp
    refine (eight_int _ _ ?_).mono ?_
    · first | omega | (rw [IntKind.wrap_u64]; omega) | skip
    rintro e wx ⟨S1, rfl, hz1, hbx⟩
    have hA2 := hA1.later hbx
    clear hbx
    refine hK.out _ _ hA2 (fun _ => ?_)
    clear hK K
    try simp only [Act.put, List.setIfInBounds_toArray, List.set_cons_zero, List.set_cons_succ]
    refine wpAnyH_take (i := 8) (oi := { dst := some 35, op := _, type := _, pos := _, after := _, guard := _ }) (v := .string (S0 ++ S1)) rfl (by kernel_rfl) (by kernel_rfl) (by kernel_rfl) (fun _ _ _ h => h) (Or.inl ⟨by rfl, ?_⟩) hA2 ?_
    · intro W hSw
      have d0 := (hSw.box.2 0 _ rfl).1
      have d1 := (hSw.box.2 1 _ rfl).1
      have d2 := (hSw.box.2 2 _ rfl).1
      have d3 := (hSw.box.2 3 _ rfl).1
      have d4 := (hSw.box.2 4 _ rfl).1
      go_simp
      first | done | rw [if_neg (by simp only [ByteArray.size_append]; omega)]
    try simp only [Act.put, List.setIfInBounds_toArray, List.set_cons_zero, List.set_cons_succ]
    refine wpAnyH_ready (rs := [12]) (by kernel_rfl) (by simp) ?_
    refine AllReadyH.cons (o := { dst := some 39, op := _, type := _, pos := _, after := _, guard := _ }) rfl (fun K hK => ?_) AllReadyH.nil
    go_simp
    refine (eight_int _ _ ?_).mono ?_
    · first | omega | (rw [IntKind.wrap_u64]; omega) | skip
    rintro e wx ⟨S2, rfl, hz2, hbx⟩
    have hA3 := hA2.later hbx
    clear hbx
    refine hK.out _ _ hA3 (fun _ => ?_)
    clear hK K
    try simp only [Act.put, List.setIfInBounds_toArray, List.set_cons_zero, List.set_cons_succ]
    refine wpAnyH_take (i := 13) (oi := { dst := some 40, op := _, type := _, pos := _, after := _, guard := _ }) (v := .string (S0 ++ S1 ++ S2)) rfl (by kernel_rfl) (by kernel_rfl) (by kernel_rfl) (fun _ _ _ h => h) (Or.inl ⟨by rfl, ?_⟩) hA3 ?_
    · intro W hSw
      have d0 := (hSw.box.2 0 _ rfl).1
      have d1 := (hSw.box.2 1 _ rfl).1
      have d2 := (hSw.box.2 2 _ rfl).1
      have d3 := (hSw.box.2 3 _ rfl).1
      have d4 := (hSw.box.2 4 _ rfl).1
      go_simp
      first | done | rw [if_neg (by simp only [ByteArray.size_append]; omega)]
    try simp only [Act.put, List.setIfInBounds_toArray, List.set_cons_zero, List.set_cons_succ]
    refine wpAnyH_ready (rs := [16]) (by kernel_rfl) (by simp) ?_
    refine AllReadyH.cons (o := { dst := some 43, op := _, type := _, pos := _, after := _, guard := _ }) rfl (fun K hK => ?_) AllReadyH.nil
    go_simp
    refine (eight_int _ _ ?_).mono ?_
    · first | omega | (rw [IntKind.wrap_u64]; omega) | skip
    rintro e wx ⟨S3, rfl, hz3, hbx⟩
    have hA4 := hA3.later hbx
    clear hbx
    refine hK.out _ _ hA4 (fun _ => ?_)
    clear hK K
    try simp only [Act.put, List.setIfInBounds_toArray, List.set_cons_zero, List.set_cons_succ]
    refine wpAnyH_take (i := 17) (oi := { dst := some 44, op := _, type := _, pos := _, after := _, guard := _ }) (v := .string (S0 ++ S1 ++ S2 ++ S3)) rfl (by kernel_rfl) (by kernel_rfl) (by kernel_rfl) (fun _ _ _ h => h) (Or.inl ⟨by rfl, ?_⟩) hA4 ?_
    · intro W hSw
      have d0 := (hSw.box.2 0 _ rfl).1
      have d1 := (hSw.box.2 1 _ rfl).1
      have d2 := (hSw.box.2 2 _ rfl).1
      have d3 := (hSw.box.2 3 _ rfl).1
      have d4 := (hSw.box.2 4 _ rfl).1
      go_simp
      first | done | rw [if_neg (by simp only [ByteArray.size_append]; omega)]
    try simp only [Act.put, List.setIfInBounds_toArray, List.set_cons_zero, List.set_cons_succ]
    refine wpAnyH_ready (rs := [20]) (by kernel_rfl) (by simp) ?_
    refine AllReadyH.cons (o := { dst := some 47, op := _, type := _, pos := _, after := _, guard := _ }) rfl (fun K hK => ?_) AllReadyH.nil
    go_simp
    refine (eight_int _ _ ?_).mono ?_
    · first | omega | (rw [IntKind.wrap_u64]; omega) | skip
    rintro e wx ⟨S4, rfl, hz4, hbx⟩
    have hA5 := hA4.later hbx
    clear hbx
    refine hK.out _ _ hA5 (fun _ => ?_)
    clear hK K
    try simp only [Act.put, List.setIfInBounds_toArray, List.set_cons_zero, List.set_cons_succ]
    refine wpAnyH_take (i := 21) (oi := { dst := some 48, op := _, type := _, pos := _, after := _, guard := _ }) (v := .string (S0 ++ S1 ++ S2 ++ S3 ++ S4)) rfl (by kernel_rfl) (by kernel_rfl) (by kernel_rfl) (fun _ _ _ h => h) (Or.inl ⟨by rfl, ?_⟩) hA5 ?_
    · intro W hSw
      have d0 := (hSw.box.2 0 _ rfl).1
      have d1 := (hSw.box.2 1 _ rfl).1
      have d2 := (hSw.box.2 2 _ rfl).1
      have d3 := (hSw.box.2 3 _ rfl).1
      have d4 := (hSw.box.2 4 _ rfl).1
      go_simp
      first | done | rw [if_neg (by simp only [ByteArray.size_append]; omega)]
    try simp only [Act.put, List.setIfInBounds_toArray, List.set_cons_zero, List.set_cons_succ]
    refine wpAnyH_take (i := 22) (oi := { dst := some 2, op := _, type := _, pos := _, after := _, guard := _ }) (v := ?_) rfl (by kernel_rfl) (by kernel_rfl) (by kernel_rfl) (fun _ _ _ h => h) (Or.inl ⟨by rfl, ?_⟩) hA5 ?_
    rotate_left
    · intro W hSw
      have d0 := (hSw.box.2 0 _ rfl).1
      have d1 := (hSw.box.2 1 _ rfl).1
      have d2 := (hSw.box.2 2 _ rfl).1
      have d3 := (hSw.box.2 3 _ rfl).1
      have d4 := (hSw.box.2 4 _ rfl).1
      go_simp
      first | done | rfl
    try simp only [Act.put, List.setIfInBounds_toArray, List.set_cons_zero, List.set_cons_succ]
    refine wpAnyH_take (i := 23) (oi := { dst := some 3, op := _, type := _, pos := _, after := _, guard := _ }) (v := ?_) rfl (by kernel_rfl) (by kernel_rfl) (by kernel_rfl) (fun _ _ _ h => h) (Or.inl ⟨by rfl, ?_⟩) hA5 ?_
    rotate_left
    · intro W hSw
      have d0 := (hSw.box.2 0 _ rfl).1
      have d1 := (hSw.box.2 1 _ rfl).1
      have d2 := (hSw.box.2 2 _ rfl).1
      have d3 := (hSw.box.2 3 _ rfl).1
      have d4 := (hSw.box.2 4 _ rfl).1
      go_simp
      first | done | rfl
    try simp only [Act.put, List.setIfInBounds_toArray, List.set_cons_zero, List.set_cons_succ]
    refine wpAnyH_done (by kernel_rfl) ?_ _
    refine NoPanic.normal ?_
    go_wp2_with fail
    go_ret2
    exact ⟨_, by rw [HV.out]; rfl, hA5.below⟩

end Go.Proofs.YtpbjjmenkoigjaaDoor
end

section
namespace Go.Proofs.YtpbjjmenkoigjaaDoor
open Go.RowKit
set_option linter.unusedVariables false
set_option maxRecDepth 100000 in
set_option maxHeartbeats 20000000 in
theorem ritem_any (x : Ist) (w : World) (hx : x.Ok) : Calls Tryd.prog 46 #[.agg x.row] w fun y w' => y = .returned (.bool (itemB x)) ∧ Below w.heap.size w w' := by
  have HRT := Lib.hid (fun W => rright9_any x.e.v x.e.o x.e.u x.e.c x.e.s x.e.r x.e.k x.e.p x.e.b W)
  have HSB := Lib.hid (fun W => rstub_any x.e W hx.2)
  have HBY := Lib.hid (fun W => rbytes_any x.s W hx.1)
  have H0 : Hid (Below w.heap.size w (w.alloc (.cells x.row 40)) ∧ Blk (w.alloc (.cells x.row 40)) w.heap.size x.row) := Lib.hid ⟨(Below.refl _ _).alloc (Nat.le_refl _) _, Blk.new _ _ _ _ rfl⟩
  have c0 : (w.alloc (.cells x.row 40)).cell? ⟨w.heap.size, 0, none⟩ = some (.int .i64 x.k) := (H0.out.2.2 0 _ rfl).1
  have lS := Lib.hid (it_ldS H0.out.2)
  have lE := Lib.hid (it_ldE H0.out.2)
  have eS := Lib.hid (eq_sst x.s Sst.zero)
  have eE := Lib.hid (eq_est x.e Est.zero)
  by_cases k1 : x.k = 1
  · have HV : Hid (itemB x = (x.e.B && decide (stubV x.e = x.s))) := Lib.hid ((if_neg (by omega)).trans (if_pos k1))
    rw [k1] at c0
    go_enter Tryd.func46, Tryd.ntmps46
    · go_wp2_with fail
      clear c0 lS lE eS eE
      generalize w.alloc (.cells x.row 40) = W0 at *
      cases hB : x.e.B
      · refine wp_region_noPanic ?_
        refine wp_region_held_drew (S := fun W => Below w.heap.size w W ∧ Blk W w.heap.size x.row) (by kernel_rfl) (show Below w.heap.size w W0.drew ∧ Blk W0.drew w.heap.size x.row from ⟨H0.out.1.trans ⟨rfl, rfl, rfl, Nat.le_refl _, fun _ _ => rfl⟩, H0.out.2.later ⟨rfl, rfl, rfl, Nat.le_refl _, fun _ _ => rfl⟩⟩) (fun hHeld => ?_)
        generalize W0.drew = w2 at *
        refine wpAnyH_take (i := 0) (oi := { dst := some 9, op := _, type := _, pos := _, after := _, guard := _ }) (v := ?_) rfl (by kernel_rfl) (by kernel_rfl) (by kernel_rfl) (fun _ _ _ h => h) (Or.inl ⟨by rfl, ?_⟩) hHeld ?_
        rotate_left
        · intro W hSw
          skip
          go_simp
          first | done | rfl
        try simp only [Act.put, List.setIfInBounds_toArray, List.set_cons_zero, List.set_cons_succ]
        refine wpAnyH_take (i := 1) (oi := { dst := some 10, op := _, type := _, pos := _, after := _, guard := _ }) (v := .agg x.e.row) rfl (by kernel_rfl) (by kernel_rfl) (by kernel_rfl) (fun _ _ _ h => h) (Or.inl ⟨by rfl, ?_⟩) hHeld ?_
        · intro W hSw
          skip
          exact exec_load 35 (Operand.tmp 9) rfl rfl (it_ldE hSw.2)
        try simp only [Act.put, List.setIfInBounds_toArray, List.set_cons_zero, List.set_cons_succ]
        refine wpAnyH_ready (rs := [2]) (by kernel_rfl) (by simp) ?_
        refine AllReadyH.cons (o := { dst := some 11, op := _, type := _, pos := _, after := _, guard := _ }) rfl (fun K hK => ?_) AllReadyH.nil
        go_simp
        refine (HRT.out _).mono ?_
        rintro e wx ⟨rfl, hbx⟩
        have hS2 : Below w.heap.size w wx ∧ Blk wx w.heap.size x.row := ⟨hHeld.1.trans (hbx.mono hHeld.1.size), hHeld.2.later hbx⟩
        clear hbx
        refine hK.out _ _ hS2 (fun _ => ?_)
        rw [show entB x.e.v x.e.o x.e.u x.e.c x.e.s x.e.r x.e.k x.e.b = _ from hB]
        clear hK K
        try simp only [Act.put, List.setIfInBounds_toArray, List.set_cons_zero, List.set_cons_succ]
        refine wpAnyH_take (i := 3) (oi := { dst := some 12, op := _, type := _, pos := _, after := _, guard := _ }) (v := ?_) rfl (by kernel_rfl) (by kernel_rfl) (by kernel_rfl) (fun _ _ _ h => h) (Or.inl ⟨by rfl, ?_⟩) hS2 ?_
        rotate_left
        · intro W hSw
          skip
          go_simp
          first | done | rfl
        try simp only [Act.put, List.setIfInBounds_toArray, List.set_cons_zero, List.set_cons_succ]
        refine wpAnyH_take (i := 4) (oi := { dst := some 13, op := _, type := _, pos := _, after := _, guard := _ }) (v := undef) rfl (by kernel_rfl) (by kernel_rfl) (by kernel_rfl) (fun _ _ _ h => h) (Or.inr ⟨by rfl, rfl⟩) hS2 ?_
        try simp only [Act.put, List.setIfInBounds_toArray, List.set_cons_zero, List.set_cons_succ]
        refine wpAnyH_take (i := 7) (oi := { dst := some 16, op := _, type := _, pos := _, after := _, guard := _ }) (v := undef) rfl (by kernel_rfl) (by kernel_rfl) (by kernel_rfl) (fun _ _ _ h => h) (Or.inr ⟨by rfl, rfl⟩) hS2 ?_
        try simp only [Act.put, List.setIfInBounds_toArray, List.set_cons_zero, List.set_cons_succ]
        refine wpAnyH_take (i := 5) (oi := { dst := some 14, op := _, type := _, pos := _, after := _, guard := _ }) (v := undef) rfl (by kernel_rfl) (by kernel_rfl) (by kernel_rfl) (fun _ _ _ h => h) (Or.inr ⟨by rfl, rfl⟩) hS2 ?_
        try simp only [Act.put, List.setIfInBounds_toArray, List.set_cons_zero, List.set_cons_succ]
        refine wpAnyH_take (i := 8) (oi := { dst := some 17, op := _, type := _, pos := _, after := _, guard := _ }) (v := undef) rfl (by kernel_rfl) (by kernel_rfl) (by kernel_rfl) (fun _ _ _ h => h) (Or.inr ⟨by rfl, rfl⟩) hS2 ?_
        try simp only [Act.put, List.setIfInBounds_toArray, List.set_cons_zero, List.set_cons_succ]
        refine wpAnyH_take (i := 6) (oi := { dst := some 15, op := _, type := _, pos := _, after := _, guard := _ }) (v := undef) rfl (by kernel_rfl) (by kernel_rfl) (by kernel_rfl) (fun _ _ _ h => h) (Or.inr ⟨by rfl, rfl⟩) hS2 ?_
        try simp only [Act.put, List.setIfInBounds_toArray, List.set_cons_zero, List.set_cons_succ]
        refine wpAnyH_take (i := 9) (oi := { dst := some 18, op := _, type := _, pos := _, after := _, guard := _ }) (v := undef) rfl (by kernel_rfl) (by kernel_rfl) (by kernel_rfl) (fun _ _ _ h => h) (Or.inr ⟨by rfl, rfl⟩) hS2 ?_
        try simp only [Act.put, List.setIfInBounds_toArray, List.set_cons_zero, List.set_cons_succ]
        refine wpAnyH_take (i := 10) (oi := { dst := some 19, op := _, type := _, pos := _, after := _, guard := _ }) (v := ?_) rfl (by kernel_rfl) (by kernel_rfl) (by kernel_rfl) (fun _ _ _ h => h) (Or.inl ⟨by rfl, ?_⟩) hS2 ?_
        rotate_left
        · intro W hSw
          skip
          go_simp
          first | done | rfl
        try simp only [Act.put, List.setIfInBounds_toArray, List.set_cons_zero, List.set_cons_succ]
        refine wpAnyH_take (i := 11) (oi := { dst := some 2, op := _, type := _, pos := _, after := _, guard := _ }) (v := ?_) rfl (by kernel_rfl) (by kernel_rfl) (by kernel_rfl) (fun _ _ _ h => h) (Or.inl ⟨by rfl, ?_⟩) hS2 ?_
        rotate_left
        · intro W hSw
          skip
          go_simp
          first | done | rfl
        try simp only [Act.put, List.setIfInBounds_toArray, List.set_cons_zero, List.set_cons_succ]
        refine wpAnyH_done (by kernel_rfl) ?_ _
        refine NoPanic.normal ?_
        go_wp2_with fail
        go_ret
        exact ⟨by rw [HV.out, hB]; rfl, hS2.1⟩

      · refine wp_region_noPanic ?_
        refine wp_region_held_drew (S := fun W => Below w.heap.size w W ∧ Blk W w.heap.size x.row) (by kernel_rfl) (show Below w.heap.size w W0.drew ∧ Blk W0.drew w.heap.size x.row from ⟨H0.out.1.trans ⟨rfl, rfl, rfl, Nat.le_refl _, fun _ _ => rfl⟩, H0.out.2.later ⟨rfl, rfl, rfl, Nat.le_refl _, fun _ _ => rfl⟩⟩) (fun hHeld => ?_)
        generalize W0.drew = w2 at *
        refine wpAnyH_take (i := 0) (oi := { dst := some 9, op := _, type := _, pos := _, after := _, guard := _ }) (v := ?_) rfl (by kernel_rfl) (by kernel_rfl) (by kernel_rfl) (fun _ _ _ h => h) (Or.inl ⟨by rfl, ?_⟩) hHeld ?_
        rotate_left
        · intro W hSw
          skip
          go_simp
          first | done | rfl
        try simp only [Act.put, List.setIfInBounds_toArray, List.set_cons_zero, List.set_cons_succ]
        refine wpAnyH_take (i := 1) (oi := { dst := some 10, op := _, type := _, pos := _, after := _, guard := _ }) (v := .agg x.e.row) rfl (by kernel_rfl) (by kernel_rfl) (by kernel_rfl) (fun _ _ _ h => h) (Or.inl ⟨by rfl, ?_⟩) hHeld ?_
        · intro W hSw
          skip
          exact exec_load 35 (Operand.tmp 9) rfl rfl (it_ldE hSw.2)
        try simp only [Act.put, List.setIfInBounds_toArray, List.set_cons_zero, List.set_cons_succ]
        refine wpAnyH_ready (rs := [2]) (by kernel_rfl) (by simp) ?_
        refine AllReadyH.cons (o := { dst := some 11, op := _, type := _, pos := _, after := _, guard := _ }) rfl (fun K hK => ?_) AllReadyH.nil
        go_simp
        refine (HRT.out _).mono ?_
        rintro e wx ⟨rfl, hbx⟩
        have hS2 : Below w.heap.size w wx ∧ Blk wx w.heap.size x.row := ⟨hHeld.1.trans (hbx.mono hHeld.1.size), hHeld.2.later hbx⟩
        clear hbx
        refine hK.out _ _ hS2 (fun _ => ?_)
        rw [show entB x.e.v x.e.o x.e.u x.e.c x.e.s x.e.r x.e.k x.e.b = _ from hB]
        clear hK K
        try simp only [Act.put, List.setIfInBounds_toArray, List.set_cons_zero, List.set_cons_succ]
        refine wpAnyH_take (i := 3) (oi := { dst := some 12, op := _, type := _, pos := _, after := _, guard := _ }) (v := ?_) rfl (by kernel_rfl) (by kernel_rfl) (by kernel_rfl) (fun _ _ _ h => h) (Or.inl ⟨by rfl, ?_⟩) hS2 ?_
        rotate_left
        · intro W hSw
          skip
          go_simp
          first | done | rfl
        try simp only [Act.put, List.setIfInBounds_toArray, List.set_cons_zero, List.set_cons_succ]
        refine wpAnyH_take (i := 4) (oi := { dst := some 13, op := _, type := _, pos := _, after := _, guard := _ }) (v := ?_) rfl (by kernel_rfl) (by kernel_rfl) (by kernel_rfl) (fun _ _ _ h => h) (Or.inl ⟨by rfl, ?_⟩) hS2 ?_
        rotate_left
        · intro W hSw
          skip
          go_simp
          first | done | rfl
        try simp only [Act.put, List.setIfInBounds_toArray, List.set_cons_zero, List.set_cons_succ]
        refine wpAnyH_take (i := 7) (oi := { dst := some 16, op := _, type := _, pos := _, after := _, guard := _ }) (v := ?_) rfl (by kernel_rfl) (by kernel_rfl) (by kernel_rfl) (fun _ _ _ h => h) (Or.inl ⟨by rfl, ?_⟩) hS2 ?_
        rotate_left
        · intro W hSw
          skip
          go_simp
          first | done | rfl
        try simp only [Act.put, List.setIfInBounds_toArray, List.set_cons_zero, List.set_cons_succ]
        refine wpAnyH_take (i := 5) (oi := { dst := some 14, op := _, type := _, pos := _, after := _, guard := _ }) (v := .agg x.e.row) rfl (by kernel_rfl) (by kernel_rfl) (by kernel_rfl) (fun _ _ _ h => h) (Or.inl ⟨by rfl, ?_⟩) hS2 ?_
        · intro W hSw
          skip
          exact exec_load 35 (Operand.tmp 13) rfl rfl (it_ldE hSw.2)
        try simp only [Act.put, List.setIfInBounds_toArray, List.set_cons_zero, List.set_cons_succ]
        refine wpAnyH_take (i := 8) (oi := { dst := some 17, op := _, type := _, pos := _, after := _, guard := _ }) (v := .agg x.s.row) rfl (by kernel_rfl) (by kernel_rfl) (by kernel_rfl) (fun _ _ _ h => h) (Or.inl ⟨by rfl, ?_⟩) hS2 ?_
        · intro W hSw
          skip
          exact exec_load 38 (Operand.tmp 16) rfl rfl (it_ldS hSw.2)
        try simp only [Act.put, List.setIfInBounds_toArray, List.set_cons_zero, List.set_cons_succ]
        refine wpAnyH_ready (rs := [6]) (by kernel_rfl) (by simp) ?_
        refine AllReadyH.cons (o := { dst := some 15, op := _, type := _, pos := _, after := _, guard := _ }) rfl (fun K hK => ?_) AllReadyH.nil
        go_simp
        refine (HSB.out _).mono ?_
        rintro e wx ⟨rfl, hbx⟩
        have hS6 : Below w.heap.size w wx ∧ Blk wx w.heap.size x.row := ⟨hS2.1.trans (hbx.mono hS2.1.size), hS2.2.later hbx⟩
        clear hbx
        refine hK.out _ _ hS6 (fun _ => ?_)
        clear hK K
        try simp only [Act.put, List.setIfInBounds_toArray, List.set_cons_zero, List.set_cons_succ]
        refine wpAnyH_take (i := 9) (oi := { dst := some 18, op := _, type := _, pos := _, after := _, guard := _ }) (v := .bool (decide (stubV x.e = x.s))) rfl (by kernel_rfl) (by kernel_rfl) (by kernel_rfl) (fun _ _ _ h => h) (Or.inl ⟨by rfl, ?_⟩) hS6 ?_
        · intro W hSw
          skip
          exact exec_eql 38 _ (Operand.tmp 15) (Operand.tmp 17) rfl rfl rfl (eq_sst (stubV x.e) x.s)
        try simp only [Act.put, List.setIfInBounds_toArray, List.set_cons_zero, List.set_cons_succ]
        refine wpAnyH_take (i := 10) (oi := { dst := some 19, op := _, type := _, pos := _, after := _, guard := _ }) (v := ?_) rfl (by kernel_rfl) (by kernel_rfl) (by kernel_rfl) (fun _ _ _ h => h) (Or.inl ⟨by rfl, ?_⟩) hS6 ?_
        rotate_left
        · intro W hSw
          skip
          go_simp
          first | done | rfl
        try simp only [Act.put, List.setIfInBounds_toArray, List.set_cons_zero, List.set_cons_succ]
        refine wpAnyH_take (i := 11) (oi := { dst := some 2, op := _, type := _, pos := _, after := _, guard := _ }) (v := ?_) rfl (by kernel_rfl) (by kernel_rfl) (by kernel_rfl) (fun _ _ _ h => h) (Or.inl ⟨by rfl, ?_⟩) hS6 ?_
        rotate_left
        · intro W hSw
          skip
          go_simp
          first | done | rfl
        try simp only [Act.put, List.setIfInBounds_toArray, List.set_cons_zero, List.set_cons_succ]
        refine wpAnyH_done (by kernel_rfl) ?_ _
        refine NoPanic.normal ?_
        go_wp2_with fail
        go_ret
        exact ⟨by rw [HV.out, hB]; rfl, hS6.1⟩

  · by_cases k2 : x.k = 2
    · have HV : Hid (itemB x = (x.s.B && decide (x.e = Est.zero))) := Lib.hid ((if_neg (by omega)).trans ((if_neg k1).trans (if_pos k2)))
      rw [k2] at c0
      generalize decide (x.e = Est.zero) = v2 at *
      go_enter Tryd.func46, Tryd.ntmps46
      go_wp2_with (first | (guard_target =~ wpList _ _ _ (⟨_, Op.load _ (Operand.tmp 28), _, _, _, _⟩ :: _) _ _; refine wpList_load_w 38 (Operand.tmp 28) (by kernel_rfl) rfl lS.out rfl ?_) | (guard_target =~ wpList _ _ _ (⟨_, Op.load _ (Operand.tmp 20), _, _, _, _⟩ :: _) _ _; refine wpList_load_w 35 (Operand.tmp 20) (by kernel_rfl) rfl lE.out rfl ?_) | (guard_target =~ wpList _ _ _ (⟨_, Op.binOp _ _ (Operand.tmp 21) (Operand.tmp 22) _, _, _, _, _⟩ :: _) _ _; refine wpList_eql 35 _ (Operand.tmp 21) (Operand.tmp 22) (by kernel_rfl) rfl eE.out rfl rfl ?_))
      generalize w.alloc (.cells x.row 40) = W0 at *
      refine (HBY.out _).mono ?_
      rintro e w2 ⟨t, rfl, hb2⟩
      have H2 := Lib.hid (And.intro (H0.out.1.trans (hb2.mono H0.out.1.size)) (H0.out.2.later hb2))
      clear hb2 c0 lS
      cases hB : x.s.B
      · go_wp2_with fail
        go_ret
        exact ⟨by rw [HV.out, hB]; rfl, H2.out.1⟩
      · go_wp2_with fail
        go_ret
        exact ⟨by rw [HV.out, hB]; rfl, H2.out.1⟩
    · by_cases k0 : x.k = 0
      · have HV : Hid (itemB x = (decide (x.s = Sst.zero) && decide (x.e = Est.zero))) := Lib.hid (if_pos (.inl k0))
        rw [k0] at c0
        generalize decide (x.s = Sst.zero) = v1 at *
        generalize decide (x.e = Est.zero) = v2 at *
        go_enter Tryd.func46, Tryd.ntmps46
        cases v2
        · go_wp2_with (first | (guard_target =~ wpList _ _ _ (⟨_, Op.load _ (Operand.tmp 49), _, _, _, _⟩ :: _) _ _; refine wpList_load_w 38 (Operand.tmp 49) (by kernel_rfl) rfl lS.out rfl ?_) | (guard_target =~ wpList _ _ _ (⟨_, Op.load _ (Operand.tmp 20), _, _, _, _⟩ :: _) _ _; refine wpList_load_w 35 (Operand.tmp 20) (by kernel_rfl) rfl lE.out rfl ?_) | (guard_target =~ wpList _ _ _ (⟨_, Op.binOp _ _ (Operand.tmp 21) (Operand.tmp 22) _, _, _, _, _⟩ :: _) _ _; refine wpList_eql 35 _ (Operand.tmp 21) (Operand.tmp 22) (by kernel_rfl) rfl eE.out rfl rfl ?_) | (guard_target =~ wpList _ _ _ (⟨_, Op.binOp _ _ (Operand.tmp 50) (Operand.tmp 51) _, _, _, _, _⟩ :: _) _ _; refine wpList_eql 38 _ (Operand.tmp 50) (Operand.tmp 51) (by kernel_rfl) rfl eS.out rfl rfl ?_))
          go_ret
          exact ⟨by rw [HV.out]; cases v1 <;> rfl, H0.out.1⟩
        · go_wp2_with (first | (guard_target =~ wpList _ _ _ (⟨_, Op.load _ (Operand.tmp 49), _, _, _, _⟩ :: _) _ _; refine wpList_load_w 38 (Operand.tmp 49) (by kernel_rfl) rfl lS.out rfl ?_) | (guard_target =~ wpList _ _ _ (⟨_, Op.load _ (Operand.tmp 20), _, _, _, _⟩ :: _) _ _; refine wpList_load_w 35 (Operand.tmp 20) (by kernel_rfl) rfl lE.out rfl ?_) | (guard_target =~ wpList _ _ _ (⟨_, Op.binOp _ _ (Operand.tmp 21) (Operand.tmp 22) _, _, _, _, _⟩ :: _) _ _; refine wpList_eql 35 _ (Operand.tmp 21) (Operand.tmp 22) (by kernel_rfl) rfl eE.out rfl rfl ?_) | (guard_target =~ wpList _ _ _ (⟨_, Op.binOp _ _ (Operand.tmp 50) (Operand.tmp 51) _, _, _, _, _⟩ :: _) _ _; refine wpList_eql 38 _ (Operand.tmp 50) (Operand.tmp 51) (by kernel_rfl) rfl eS.out rfl rfl ?_))
          go_ret
          exact ⟨by rw [HV.out]; cases v1 <;> rfl, H0.out.1⟩
      · by_cases k3 : x.k = 3
        · have HV : Hid (itemB x = (decide (x.s = Sst.zero) && decide (x.e = Est.zero))) := Lib.hid (if_pos (.inr k3))
          rw [k3] at c0
          generalize decide (x.s = Sst.zero) = v1 at *
          generalize decide (x.e = Est.zero) = v2 at *
          go_enter Tryd.func46, Tryd.ntmps46
          cases v2
          · go_wp2_with (first | (guard_target =~ wpList _ _ _ (⟨_, Op.load _ (Operand.tmp 49), _, _, _, _⟩ :: _) _ _; refine wpList_load_w 38 (Operand.tmp 49) (by kernel_rfl) rfl lS.out rfl ?_) | (guard_target =~ wpList _ _ _ (⟨_, Op.load _ (Operand.tmp 20), _, _, _, _⟩ :: _) _ _; refine wpList_load_w 35 (Operand.tmp 20) (by kernel_rfl) rfl lE.out rfl ?_) | (guard_target =~ wpList _ _ _ (⟨_, Op.binOp _ _ (Operand.tmp 21) (Operand.tmp 22) _, _, _, _, _⟩ :: _) _ _; refine wpList_eql 35 _ (Operand.tmp 21) (Operand.tmp 22) (by kernel_rfl) rfl eE.out rfl rfl ?_) | (guard_target =~ wpList _ _ _ (⟨_, Op.binOp _ _ (Operand.tmp 50) (Operand.tmp 51) _, _, _, _, _⟩ :: _) _ _; refine wpList_eql 38 _ (Operand.tmp 50) (Operand.tmp 51) (by kernel_rfl) rfl eS.out rfl rfl ?_))
            go_ret
            exact ⟨by rw [HV.out]; cases v1 <;> rfl, H0.out.1⟩
          · go_wp2_with (first | (guard_target =~ wpList _ _ _ (⟨_, Op.load _ (Operand.tmp 49), _, _, _, _⟩ :: _) _ _; refine wpList_load_w 38 (Operand.tmp 49) (by kernel_rfl) rfl lS.out rfl ?_) | (guard_target =~ wpList _ _ _ (⟨_, Op.load _ (Operand.tmp 20), _, _, _, _⟩ :: _) _ _; refine wpList_load_w 35 (Operand.tmp 20) (by kernel_rfl) rfl lE.out rfl ?_) | (guard_target =~ wpList _ _ _ (⟨_, Op.binOp _ _ (Operand.tmp 21) (Operand.tmp 22) _, _, _, _, _⟩ :: _) _ _; refine wpList_eql 35 _ (Operand.tmp 21) (Operand.tmp 22) (by kernel_rfl) rfl eE.out rfl rfl ?_) | (guard_target =~ wpList _ _ _ (⟨_, Op.binOp _ _ (Operand.tmp 50) (Operand.tmp 51) _, _, _, _, _⟩ :: _) _ _; refine wpList_eql 38 _ (Operand.tmp 50) (Operand.tmp 51) (by kernel_rfl) rfl eS.out rfl rfl ?_))
            go_ret
            exact ⟨by rw [HV.out]; cases v1 <;> rfl, H0.out.1⟩
        · have HV : Hid (itemB x = false) := Lib.hid ((if_neg (by omega)).trans ((if_neg k1).trans (if_neg k2)))
          have q0 : (x.k == 0) = false := beq_eq_false_iff_ne.2 k0
          have q3 : (x.k == 3) = false := beq_eq_false_iff_ne.2 k3
          have q1 : (x.k == 1) = false := beq_eq_false_iff_ne.2 k1
          have q2 : (x.k == 2) = false := beq_eq_false_iff_ne.2 k2
          generalize decide (x.e = Est.zero) = v2 at *
          go_enter Tryd.func46, Tryd.ntmps46
          go_wp2_with (first | (guard_target =~ wpList _ _ _ (⟨_, Op.load _ (Operand.tmp 49), _, _, _, _⟩ :: _) _ _; refine wpList_load_w 38 (Operand.tmp 49) (by kernel_rfl) rfl lS.out rfl ?_) | (guard_target =~ wpList _ _ _ (⟨_, Op.load _ (Operand.tmp 20), _, _, _, _⟩ :: _) _ _; refine wpList_load_w 35 (Operand.tmp 20) (by kernel_rfl) rfl lE.out rfl ?_) | (guard_target =~ wpList _ _ _ (⟨_, Op.binOp _ _ (Operand.tmp 21) (Operand.tmp 22) _, _, _, _, _⟩ :: _) _ _; refine wpList_eql 35 _ (Operand.tmp 21) (Operand.tmp 22) (by kernel_rfl) rfl eE.out rfl rfl ?_) | (guard_target =~ wpList _ _ _ (⟨_, Op.binOp _ _ (Operand.tmp 50) (Operand.tmp 51) _, _, _, _, _⟩ :: _) _ _; refine wpList_eql 38 _ (Operand.tmp 50) (Operand.tmp 51) (by kernel_rfl) rfl eS.out rfl rfl ?_))
          go_ret
          exact ⟨by rw [HV.out]; rfl, H0.out.1⟩
end Go.Proofs.YtpbjjmenkoigjaaDoor
end

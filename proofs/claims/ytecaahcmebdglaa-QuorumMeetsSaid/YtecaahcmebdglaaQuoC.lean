import Derived.Test.YtecaahcmebdglaaQuoB
namespace Go.Proofs.Ytecaahcmebdglaa
open Go.RowKit
set_option maxHeartbeats 400000 in
theorem refbits_any (s : Int) (w : World) (_hv : -9223372036854775808 ≤ s ∧ s ≤ 9223372036854775807) : Calls Try.prog 47 #[.int .i64 s] w fun e w' => e = .returned (.int .i64 (qs s)) ∧ w = w' := by
  by_cases h0 : 0 ≤ s
  · have HF := Lib.hid (show s % 32 = ((qs s : Nat) : Int) from by unfold qs; omega)
    go_enter Try.func47, Try.ntmps47
    go_wp2
    go_ret
    exact ⟨ret_int HF.out, rfl⟩
  · have ht : s.tmod 32 = -((-s) % 32) := by rw [show s = -(-s) from by omega, Int.neg_tmod, Int.tmod_eq_emod_of_nonneg (by omega)]; simp
    by_cases hz : s.tmod 32 < 0
    · have HF := Lib.hid (show s.tmod 32 + 32 = ((qs s : Nat) : Int) from by unfold qs; omega)
      have hb : -32 < s.tmod 32 := by omega
      clear ht
      go_enter Try.func47, Try.ntmps47
      go_wp2
      go_ret
      exact ⟨ret_int HF.out, rfl⟩
    · have HF := Lib.hid (show s.tmod 32 = ((qs s : Nat) : Int) from by unfold qs; omega)
      clear ht
      go_enter Try.func47, Try.ntmps47
      go_wp2
      go_ret
      exact ⟨ret_int HF.out, rfl⟩
set_option maxHeartbeats 400000 in
theorem refworth_any (who : Int) (w : World) (_hk : -9223372036854775808 ≤ who ∧ who ≤ 9223372036854775807) : Calls Try.prog 48 #[.int .i64 who] w fun e w' => e = .returned (.int .i64 (Quo.worth who)) ∧ Below w.heap.size w w' := by
  by_cases hw : 1 ≤ who ∧ who ≤ 5
  · rcases Quo.who_cases hw with rfl | rfl | rfl | rfl | rfl
    all_goals
      go_enter Try.func48, Try.ntmps48
      go_wp2
      go_ret
      exact ⟨rfl, (Below.refl _ _).alloc (Nat.le_refl _) _⟩
  · have HF := Lib.hid (show Quo.worth who = 0 from by unfold Quo.worth; rw [if_neg (by omega), if_neg (by omega), if_neg (by omega), if_neg (by omega), if_neg (by omega)])
    by_cases h1 : 1 ≤ who
    · have h5 : 5 < who := by omega
      go_enter Try.func48, Try.ntmps48
      go_wp2
      go_ret
      exact ⟨ret_int HF.out.symm, (Below.refl _ _).alloc (Nat.le_refl _) _⟩
    · go_enter Try.func48, Try.ntmps48
      go_wp2
      go_ret
      exact ⟨ret_int HF.out.symm, (Below.refl _ _).alloc (Nat.le_refl _) _⟩
theorem worth_out (who : Int) (hw : ¬ (1 ≤ who ∧ who ≤ 5)) : Quo.worth who = 0 := by unfold Quo.worth; rw [if_neg (by omega), if_neg (by omega), if_neg (by omega), if_neg (by omega), if_neg (by omega)]
theorem worth_in (who : Int) (hw : 1 ≤ who ∧ who ≤ 5) : 1 ≤ Quo.worth who ∧ Quo.worth who ≤ 16 := by
  rcases Quo.who_cases hw with rfl | rfl | rfl | rfl | rfl <;> decide
set_option maxHeartbeats 400000 in
theorem refhas_any (s who : Int) (w : World) (hv : -9223372036854775808 ≤ s ∧ s ≤ 9223372036854775807) (hk : -9223372036854775808 ≤ who ∧ who ≤ 9223372036854775807) : Calls Try.prog 23 #[.int .i64 s, .int .i64 who] w fun e w' => e = .returned (.bool (Quo.has (qs s) who)) ∧ Below w.heap.size w w' := by
  by_cases hw : 1 ≤ who ∧ who ≤ 5
  · have hwi := worth_in who hw
    have hh := Quo.has_ref (qs s) who (qs_lt s) hw
    have hq := qs_lt s
    obtain ⟨d, hd⟩ : ∃ d, d = Quo.worth who := ⟨_, rfl⟩
    have hc := refworth_any who w hk
    rw [← hd] at hwi hh hc
    obtain ⟨n, hn⟩ : ∃ n, n = qs s := ⟨_, rfl⟩
    have hb := fun w => refbits_any s w hv
    rw [← hn] at hh hb hq ⊢
    have HH := Lib.hid hh
    have HC := Lib.hid hc
    have HB := Lib.hid hb
    clear hd hh hc hb hn
    go_enter Try.func23, Try.ntmps23
    go_wp2_with fail
    refine (HC.out).mono ?_
    rintro e w1 ⟨rfl, hb1⟩
    go_wp2_with fail
    refine (HB.out _).mono ?_
    rintro e w2 ⟨rfl, rfl⟩
    go_wp2_with fail
    go_ret
    refine ⟨ret_bool ?_, hb1⟩
    have h2 := IntWalk.tdiv_le (n : Int) d (by omega) hwi.1
    rw [IntWalk.wrap64_in _ (by omega), Int.tmod_eq_emod_of_nonneg h2.1, HH.out]
    rw [Bool.eq_iff_iff, beq_iff_eq, decide_eq_true_iff]
  · have HF := Lib.hid (has_out (qs s) who hw)
    have hz := worth_out who hw
    have hc := refworth_any who w hk
    rw [hz] at hc
    have HC := Lib.hid hc
    clear hc hz
    go_enter Try.func23, Try.ntmps23
    go_wp2_with fail
    refine (HC.out).mono ?_
    rintro e w1 ⟨rfl, hb1⟩
    go_wp2_with fail
    go_ret
    exact ⟨ret_bool HF.out.symm, hb1⟩
set_option maxHeartbeats 400000 in
theorem refwith_any (s who : Int) (w : World) (hv : -9223372036854775808 ≤ s ∧ s ≤ 9223372036854775807) (hk : -9223372036854775808 ≤ who ∧ who ≤ 9223372036854775807) : Calls Try.prog 21 #[.int .i64 s, .int .i64 who] w fun e w' => e = .returned (.int .i64 (Quo.wth (qs s) who)) ∧ Below w.heap.size w w' := by
  have hh := refhas_any s who w hv hk
  have hr := Quo.wth_ref (qs s) who (qs_lt s)
  have hq := qs_lt s
  have hb := fun w => refbits_any s w hv
  have hc := fun w => refworth_any who w hk
  have hwb : 0 ≤ Quo.worth who ∧ Quo.worth who ≤ 16 := by
    by_cases hw : 1 ≤ who ∧ who ≤ 5
    · have := worth_in who hw; omega
    · rw [worth_out who hw]; omega
  obtain ⟨n, hn⟩ : ∃ n, n = qs s := ⟨_, rfl⟩
  obtain ⟨d, hd⟩ : ∃ d, d = Quo.worth who := ⟨_, rfl⟩
  rw [← hn] at hh hr hq hb ⊢
  rw [← hd] at hr hwb hc
  clear hn hd
  cases hx : Quo.has n who
  · rw [hx] at hr hh
    have HR := Lib.hid hr
    have HH := Lib.hid hh
    have HB := Lib.hid hb
    have HC := Lib.hid hc
    clear hr hh hb hc hx
    go_enter Try.func21, Try.ntmps21
    go_wp2_with fail
    refine HH.out.mono ?_
    rintro e w1 ⟨rfl, hb1⟩
    go_wp2_with fail
    refine (HB.out _).mono ?_
    rintro e w2 ⟨rfl, rfl⟩
    go_wp2_with fail
    refine (HC.out _).mono ?_
    rintro e w3 ⟨rfl, hb3⟩
    go_wp2_with fail
    go_ret
    exact ⟨ret_int (by rw [HR.out]; simp), hb1.trans (hb3.mono hb1.size)⟩
  · rw [hx] at hr hh
    have HR := Lib.hid hr
    have HH := Lib.hid hh
    have HB := Lib.hid hb
    have HC := Lib.hid hc
    clear hr hh hb hc hx
    go_enter Try.func21, Try.ntmps21
    go_wp2_with fail
    refine HH.out.mono ?_
    rintro e w1 ⟨rfl, hb1⟩
    go_wp2_with fail
    refine (HB.out _).mono ?_
    rintro e w2 ⟨rfl, rfl⟩
    go_wp2_with fail
    go_ret
    exact ⟨ret_int (by rw [HR.out]; simp), hb1⟩
/-- How many of the first k replicas are in a set. -/
def sizeTo (s : Nat) : Nat → Nat
  | 0 => 0
  | k + 1 => sizeTo s k + (Quo.has s ((k : Int) + 1)).toNat
theorem sizeTo_five (s : Nat) : sizeTo s 5 = Quo.size s := by
  simp [sizeTo, Quo.size, Quo.has]
theorem sizeTo_le (s : Nat) : ∀ k, sizeTo s k ≤ k
  | 0 => Nat.le_refl _
  | k + 1 => by have := sizeTo_le s k; have := Bool.toNat_le (Quo.has s ((k : Int) + 1)); simp only [sizeTo]; omega
set_option maxHeartbeats 400000 in
theorem refsize_any (s : Int) (w : World) (hv : -9223372036854775808 ≤ s ∧ s ≤ 9223372036854775807) : Calls Try.prog 25 #[.int .i64 s] w fun e w' => e = .returned (.int .i64 (Quo.size (qs s))) ∧ Below w.heap.size w w' := by
  go_enter Try.func25, Try.ntmps25
  go_wp2
  go_loopw [3, 4] (fun n i wr => ∃ k : Nat, k ≤ 5 ∧ i = .int .i64 ((k : Int) + 1) ∧ n = .int .i64 (sizeTo (qs s) k) ∧ Below w.heap.size w wr) (fun _ i _ => 6 - (intOf i).toNat)
  case atStart => exact ⟨0, by omega, rfl, rfl, Below.refl _ _⟩
  case round =>
    obtain ⟨k, hk, rfl, rfl, hb⟩ := hrel
    have hsz := sizeTo_le (qs s) k
    by_cases hlt : k < 5
    · have hh := refhas_any s ((k : Int) + 1) wr hv (by omega)
      have hs : sizeTo (qs s) (k + 1) = sizeTo (qs s) k + (Quo.has (qs s) ((k : Int) + 1)).toNat := rfl
      cases hx : Quo.has (qs s) ((k : Int) + 1)
      · rw [hx] at hh hs
        have HS := Lib.hid hs
        have HH := Lib.hid hh
        clear hs hh hx
        go_wp2_with fail
        refine HH.out.mono ?_
        rintro e w1 ⟨rfl, hb1⟩
        go_wp2_with fail
        go_roundw
        case rel => exact ⟨k + 1, by omega, by go_num, by rw [HS.out]; rfl, hb.trans (hb1.mono hb.size)⟩
        case measure => simp [intOf]; omega
      · rw [hx] at hh hs
        have HS := Lib.hid hs
        have HH := Lib.hid hh
        clear hs hh hx
        go_wp2_with fail
        refine HH.out.mono ?_
        rintro e w1 ⟨rfl, hb1⟩
        go_wp2_with fail
        go_roundw
        case rel => exact ⟨k + 1, by omega, by go_num, by rw [HS.out]; rfl, hb.trans (hb1.mono hb.size)⟩
        case measure => simp [intOf]; omega
    · obtain rfl : k = 5 := by omega
      have HF := Lib.hid (sizeTo_five (qs s))
      go_wp2_with fail
      go_ret
      exact ⟨ret_int (by rw [HF.out]), hb⟩
end Go.Proofs.Ytecaahcmebdglaa

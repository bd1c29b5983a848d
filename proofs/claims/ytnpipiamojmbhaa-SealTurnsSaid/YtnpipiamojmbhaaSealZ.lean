/- The walks of SealTears, SealTurns, SealMoves. -/
import Derived.Test.YtnpipiamojmbhaaSealY
namespace Go.Proofs.Ytnpipiamojmbhaa
open Go.RowKit
theorem nextG_ne (old : ByteArray) (h : old.size = 384) : (nats old)[383]? ≠ some (nextG old) := by
  intro e
  have h1 : nextG old = ((nats old).getD (old.size - 1) 0 + 1) % 256 := if_neg (by omega)
  rw [h, show 384 - 1 = 383 from rfl, List.getD_eq_getElem?_getD, e] at h1
  have h2 : nextG old = (nextG old + 1) % 256 := h1
  have := nextG_lt old
  omega
theorem at_384 (at_ : Int) : ∃ t : Nat, t < 384 ∧ wrap64 ((IntKind.u64.wrap at_).tmod 384) = t := by
  have e : IntKind.u64.wrap at_ = at_ % 18446744073709551616 := by simp [IntKind.wrap, IntKind.bits, IntKind.signed]
  obtain ⟨q, hq⟩ : ∃ q : Nat, at_ % 18446744073709551616 = q := ⟨(at_ % 18446744073709551616).toNat, by omega⟩
  refine ⟨q % 384, Nat.mod_lt _ (by decide), ?_⟩
  rw [e, hq, Int.tmod_eq_emod_of_nonneg (by omega)]
  have h384 : (384 : Int) = ((384 : Nat) : Int) := rfl
  rw [h384, ← Int.natCast_emod]
  exact IntWalk.wrap64_in _ (by omega)
/-- What opening gives, under names. -/
theorem open_names (s : ByteArray) : ∃ (T : ByteArray) (ok : Bool), Hid (∀ W, Calls Try.prog 23 #[.string s] W fun e w' => e = .returned (.tuple #[.string T, .bool ok]) ∧ Below W.heap.size W w') ∧ (opB (nats s) = false → T = ⟨#[]⟩ ∧ ok = false) ∧ (opB (nats s) = true → T = text (opS (nats s)) ∧ ok = true) := by
  cases hb : opB (nats s)
  · refine ⟨⟨#[]⟩, false, Lib.hid (fun W => (open_any s W).mono ?_), fun _ => ⟨rfl, rfl⟩, (fun h => by cases h)⟩
    rintro e w' ⟨rfl, hbw⟩
    exact ⟨by rw [if_neg (by rw [hb]; simp)], hbw⟩
  · refine ⟨text (opS (nats s)), true, Lib.hid (fun W => (open_any s W).mono ?_), (fun h => by cases h), fun _ => ⟨rfl, rfl⟩⟩
    rintro e w' ⟨rfl, hbw⟩
    exact ⟨by rw [if_pos hb], hbw⟩
set_option linter.unusedVariables false in
set_option maxHeartbeats 4000000 in
theorem tears_core (old s : ByteArray) (cut : Int) (w : World) (ho : old.size ≤ 140737488351232) (hcut : -9223372036854775808 ≤ cut ∧ cut ≤ 9223372036854775807) : Calls Try.prog 10 #[.string old, .string s, .int .i64 cut] w fun e w' => e = .returned (.bool true) ∧ Below w.heap.size w w' := by
  have HW := Lib.hid (fun W => whole_any old W (by omega))
  obtain ⟨O, hO⟩ : ∃ O, O = text (wholeL (nats old)) := ⟨_, rfl⟩
  rw [← hO] at HW
  have hOn : nats O = wholeL (nats old) := by rw [hO]; exact nats_text _ (wholeL_lt _ (nats_lt old))
  have hOz : O.size = 384 := by rw [← nats_length, hOn, wholeL_length]
  obtain ⟨t, htl, ht⟩ := at_384 cut
  clear hO hOn
  by_cases hl : 376 < s.size
  · have hl' : (376 : Int) < s.size := by omega
    have H1 := Lib.hid (fun W => seal_long O s W hl)
    have HOZ := Lib.hid hOz
    clear hl hOz
    go_enter Try.func10, Try.ntmps10
    go_wp2_with fail
    refine (awake04_any _).mono ?_
    rintro e w1 ⟨rfl, hb1⟩
    have B1 := Lib.hid hb1
    clear hb1
    go_wp2_with fail
    refine (HW.out _).mono ?_
    rintro e w2 ⟨rfl, hb2⟩
    have B2 := Lib.hid (B1.out.trans (hb2.mono B1.out.size))
    clear hb2
    go_wp2_with fail
    refine (H1.out _).mono ?_
    rintro e w3 ⟨rfl, rfl⟩
    go_wp2_with fail
    go_ret
    exact ⟨rfl, B2.out⟩
  · have hl' : (s.size : Int) ≤ 376 := by omega
    have H1 := Lib.hid (fun W => seal_ok O s W (by omega) (by rw [hOz]; decide))
    have hAn : nats (text (sealL (nextG O) (nats s))) = sealL (nextG O) (nats s) := nats_text _ (sealL_lt (nextG_lt O) (nats_lt s))
    have hAz : (text (sealL (nextG O) (nats s))).size = 384 := by rw [text_size]; exact sealL_length _ _ (by rw [nats_length]; omega)
    obtain ⟨A, hA⟩ : ∃ A, A = text (sealL (nextG O) (nats s)) := ⟨_, rfl⟩
    rw [← hA] at H1 hAn hAz
    have HM := Lib.hid (fun W => mix_any A O t W (by omega) hAz hOz)
    have hX8 : ∀ x ∈ mixL (nats A) (nats O) t, x < 256 := by
      intro x hx
      unfold mixL at hx
      rcases List.mem_append.1 hx with h | h
      · exact nats_lt A x (List.mem_of_mem_take h)
      · exact nats_lt O x (List.mem_of_mem_drop h)
    obtain ⟨X, hX⟩ : ∃ X, X = text (mixL (nats A) (nats O) t) := ⟨_, rfl⟩
    rw [← hX] at HM
    have hXn : nats X = mixL (nats A) (nats O) t := by rw [hX]; exact nats_text _ hX8
    obtain ⟨T, ok, HT, hno, _⟩ := open_names X
    have HS := Lib.hid (And.intro hOz hAz)
    by_cases h0 : t = 0
    · have hXO : X = O := by
        apply nats_inj
        rw [hXn, h0]
        rfl
      subst hXO h0
      clear hl hOz hAn hAz hA hX8 hX hXn hno
      go_enter Try.func10, Try.ntmps10
      go_wp2_with fail
      refine (awake04_any _).mono ?_
      rintro e w1 ⟨rfl, hb1⟩
      have B1 := Lib.hid hb1
      clear hb1
      go_wp2_with fail
      refine (HW.out _).mono ?_
      rintro e w2 ⟨rfl, hb2⟩
      have B2 := Lib.hid (B1.out.trans (hb2.mono B1.out.size))
      clear hb2
      go_wp2_with fail
      refine (H1.out _).mono ?_
      rintro e w3 ⟨rfl, hb3⟩
      have B3 := Lib.hid (B2.out.trans (hb3.mono B2.out.size))
      clear hb3
      go_wp2_with fail
      refine (HM.out _).mono ?_
      rintro e w4 ⟨rfl, hb4⟩
      have B4 := Lib.hid (B3.out.trans (hb4.mono B3.out.size))
      clear hb4
      go_wp2_with fail
      refine (HT.out _).mono ?_
      rintro e w5 ⟨rfl, hb5⟩
      have B5 := Lib.hid (B4.out.trans (hb5.mono B4.out.size))
      clear hb5
      go_wp2_with fail
      refine (HT.out _).mono ?_
      rintro e w6 ⟨rfl, hb6⟩
      have B6 := Lib.hid (B5.out.trans (hb6.mono B5.out.size))
      clear hb6
      go_wp2_with fail
      go_ret
      exact ⟨ret_bool (by simp), B6.out⟩
    · have hf : opB (nats X) = false := by
        rw [hXn, hAn]
        unfold mixL
        exact op_torn (by rw [nats_length]; omega) (nextG_ne O hOz) t (by omega) htl
      obtain ⟨rfl, rfl⟩ := hno hf
      have q1 : ((t : Int) == 0) = false := by simp; omega
      have HQ := Lib.hid htl
      clear hl hOz hAn hAz hA hX8 hX hXn hno hf h0 htl
      go_enter Try.func10, Try.ntmps10
      go_wp2_with fail
      refine (awake04_any _).mono ?_
      rintro e w1 ⟨rfl, hb1⟩
      have B1 := Lib.hid hb1
      clear hb1
      go_wp2_with fail
      refine (HW.out _).mono ?_
      rintro e w2 ⟨rfl, hb2⟩
      have B2 := Lib.hid (B1.out.trans (hb2.mono B1.out.size))
      clear hb2
      go_wp2_with fail
      refine (H1.out _).mono ?_
      rintro e w3 ⟨rfl, hb3⟩
      have B3 := Lib.hid (B2.out.trans (hb3.mono B2.out.size))
      clear hb3
      go_wp2_with fail
      refine (HM.out _).mono ?_
      rintro e w4 ⟨rfl, hb4⟩
      have B4 := Lib.hid (B3.out.trans (hb4.mono B3.out.size))
      clear hb4
      go_wp2_with fail
      refine (HT.out _).mono ?_
      rintro e w5 ⟨rfl, hb5⟩
      have B5 := Lib.hid (B4.out.trans (hb5.mono B4.out.size))
      clear hb5
      go_wp2_with fail
      go_ret
      exact ⟨ret_bool (by simp), B5.out⟩
end Go.Proofs.Ytnpipiamojmbhaa

/- The walks of SealBack and SealOpens. -/
import Derived.Test.YtnpipiamojmbhaaSealR
namespace Go.Proofs.Ytnpipiamojmbhaa
open Go.RowKit
def awkS : List Nat := sealL 1 [97, 98]
theorem awk_size : (text awkS).size = 384 := by rw [text_size]; exact sealL_length 1 [97, 98] (by decide)
theorem awk_nats : nats (text awkS) = awkS := nats_text _ (sealL_lt (by decide) (by decide))
theorem awk_cut : (text awkS).extract 0 5 = ⟨#[1, 2, 0, 97, 98]⟩ := by
  apply nats_inj
  rw [nats_extract, awk_nats, List.drop_zero]
  have e : awkS = [1, 2, 0, 97, 98] ++ (List.replicate (379 - (sealB 1 [97, 98]).length) 0 ++ leN (Crc.add 0 (sealI 1 [97, 98])) 4 ++ [1]) := by
    unfold awkS sealL
    conv => lhs; lhs; lhs; unfold sealI
    simp only [List.append_assoc]
    rfl
  rw [e, List.take_left' (show ([1, 2, 0, 97, 98] : List Nat).length = 5 from rfl)]
  rfl
theorem awk_last : (nats (text awkS))[383]? = some 1 := by
  rw [awk_nats]
  exact sealL_last 1 [97, 98] (by decide)
theorem awk_seal (w : World) : Calls Try.prog 21 #[.string ⟨#[]⟩, .string ⟨#[97, 98]⟩] w fun e w' => e = .returned (.tuple #[.string (text awkS), .int .i64 0]) ∧ Below w.heap.size w w' :=
  seal_ok ⟨#[]⟩ ⟨#[97, 98]⟩ w (by decide) (by decide)
theorem awk_open (w : World) : Calls Try.prog 23 #[.string (text awkS)] w fun e w' => e = .returned (.tuple #[.string ⟨#[97, 98]⟩, .bool true]) ∧ Below w.heap.size w w' := by
  refine (open_any (text awkS) w).mono ?_
  rintro e w' ⟨rfl, hb⟩
  refine ⟨?_, hb⟩
  rw [awk_nats, if_pos (show opB awkS = true from opB_seal 1 [97, 98] (by decide)), show opS awkS = [97, 98] from opS_seal 1 [97, 98] (by decide)]
  rfl
set_option maxHeartbeats 2000000 in
theorem awake04_any (w : World) : Calls Try.prog 20 #[] w fun e w' => e = .returned (.bool true) ∧ Below w.heap.size w w' := by
  have hs := awk_size
  have hc := awk_cut
  have hl := awk_last
  have hop := fun w => awk_open w
  have hse := fun w => awk_seal w
  generalize text awkS = S at hs hc hl hop hse
  have HO := Lib.hid hop
  have HSE := Lib.hid hse
  clear hop hse
  have h1 : (383 : Int) < S.size := by omega
  have h2 : (5 : Int) ≤ S.size := by omega
  have hl' : ((S[383]'(by omega)).toNat : Int) = 1 := by
    rw [nats_get S 383 (by omega)] at hl
    have := Option.some.inj hl
    omega
  clear hl
  go_enter Try.func20, Try.ntmps20
  go_wp2_with fail
  refine (HSE.out _).mono ?_
  rintro e w1 ⟨rfl, hb1⟩
  go_wp2_with fail
  refine (HO.out _).mono ?_
  rintro e w2 ⟨rfl, hb2⟩
  have HB := Lib.hid (hb1.trans (hb2.mono hb1.size))
  clear hb1 hb2
  go_wp2_with fail
  go_ret
  exact ⟨rfl, HB.out⟩
set_option linter.unusedVariables false in
set_option maxHeartbeats 2000000 in
theorem opens_core (s : ByteArray) (w : World) : Calls Try.prog 9 #[.string s] w fun e w' => e = .returned (.bool true) ∧ Below w.heap.size w w' := by
  obtain ⟨T, ok, H1, H2⟩ : ∃ (T : ByteArray) (ok : Bool), Hid (∀ W, Calls Try.prog 23 #[.string s] W fun e w' => e = .returned (.tuple #[.string T, .bool ok]) ∧ Below W.heap.size W w') ∧ Hid (∀ W, Calls Try.prog 24 #[.string s] W fun e w' => e = .returned (.tuple #[.string T, .bool ok]) ∧ Below W.heap.size W w') := by
    cases hb : opB (nats s)
    · refine ⟨⟨#[]⟩, false, Lib.hid (fun W => (open_any s W).mono ?_), Lib.hid (fun W => (ropen_any s W).mono ?_)⟩ <;>
      · rintro e w' ⟨rfl, hbw⟩
        exact ⟨by rw [if_neg (by rw [hb]; simp)], hbw⟩
    · refine ⟨text (opS (nats s)), true, Lib.hid (fun W => (open_any s W).mono ?_), Lib.hid (fun W => (ropen_any s W).mono ?_)⟩ <;>
      · rintro e w' ⟨rfl, hbw⟩
        exact ⟨by rw [if_pos hb], hbw⟩
  go_enter Try.func9, Try.ntmps9
  go_wp2_with fail
  refine (awake04_any _).mono ?_
  rintro e w1 ⟨rfl, hb1⟩
  have B1 := Lib.hid hb1
  clear hb1
  go_wp2_with fail
  refine (H1.out _).mono ?_
  rintro e w2 ⟨rfl, hb2⟩
  have B2 := Lib.hid (B1.out.trans (hb2.mono B1.out.size))
  clear hb2
  go_wp2_with fail
  refine (H2.out _).mono ?_
  rintro e w3 ⟨rfl, hb3⟩
  have B3 := Lib.hid (B2.out.trans (hb3.mono B2.out.size))
  clear hb3
  go_wp2_with fail
  go_ret
  exact ⟨ret_bool (by simp), B3.out⟩
set_option linter.unusedVariables false in
set_option maxHeartbeats 2000000 in
theorem back_core (old s : ByteArray) (w : World) (ho : old.size ≤ 140737488351232) : Calls Try.prog 8 #[.string old, .string s] w fun e w' => e = .returned (.bool true) ∧ Below w.heap.size w w' := by
  by_cases hl : 376 < s.size
  · have hl' : (376 : Int) < s.size := by omega
    have H1 := Lib.hid (fun W => seal_long old s W hl)
    have H2 := Lib.hid (fun W => rseal_long old s W hl)
    clear hl
    go_enter Try.func8, Try.ntmps8
    go_wp2_with fail
    refine (awake04_any _).mono ?_
    rintro e w1 ⟨rfl, hb1⟩
    have B1 := Lib.hid hb1
    clear hb1
    go_wp2_with fail
    refine (H1.out _).mono ?_
    rintro e w2 ⟨rfl, rfl⟩
    go_wp2_with fail
    refine (H2.out _).mono ?_
    rintro e w2 ⟨rfl, rfl⟩
    go_wp2_with fail
    go_ret
    exact ⟨rfl, B1.out⟩
  · have hl' : (s.size : Int) ≤ 376 := by omega
    have H1 := Lib.hid (fun W => seal_ok old s W (by omega) (by omega))
    have H2 := Lib.hid (fun W => rseal_ok old s W (by omega) (by omega))
    have HO := Lib.hid (fun W => open_any (text (sealL (nextG old) (nats s))) W)
    have h8 : nats (text (sealL (nextG old) (nats s))) = sealL (nextG old) (nats s) := nats_text _ (sealL_lt (nextG_lt old) (nats_lt s))
    have hy : opB (nats (text (sealL (nextG old) (nats s)))) = true := by rw [h8]; exact opB_seal _ _ (by rw [nats_length]; omega)
    have ht : text (opS (nats (text (sealL (nextG old) (nats s))))) = s := by rw [h8, opS_seal _ _ (by rw [nats_length]; omega), text_nats]
    have HP : Hid (∀ W, Calls Try.prog 23 #[.string (text (sealL (nextG old) (nats s)))] W fun e w' => e = .returned (.tuple #[.string s, .bool true]) ∧ Below W.heap.size W w') := Lib.hid (fun W => (HO.out W).mono (by
      rintro e w' ⟨rfl, hb⟩
      exact ⟨by rw [if_pos hy, ht], hb⟩))
    clear hl h8 hy ht HO
    generalize text (sealL (nextG old) (nats s)) = S at *
    go_enter Try.func8, Try.ntmps8
    go_wp2_with fail
    refine (awake04_any _).mono ?_
    rintro e w1 ⟨rfl, hb1⟩
    have B1 := Lib.hid hb1
    clear hb1
    go_wp2_with fail
    refine (H1.out _).mono ?_
    rintro e w2 ⟨rfl, hb2⟩
    have B2 := Lib.hid (B1.out.trans (hb2.mono B1.out.size))
    clear hb2
    go_wp2_with fail
    refine (H2.out _).mono ?_
    rintro e w3 ⟨rfl, hb3⟩
    have B3 := Lib.hid (B2.out.trans (hb3.mono B2.out.size))
    clear hb3
    go_wp2_with fail
    refine (HP.out _).mono ?_
    rintro e w4 ⟨rfl, hb4⟩
    have B4 := Lib.hid (B3.out.trans (hb4.mono B3.out.size))
    clear hb4
    go_wp2_with fail
    go_ret
    exact ⟨ret_bool (by simp), B4.out⟩
end Go.Proofs.Ytnpipiamojmbhaa

/- The walk of SealMoves. -/
import Derived.Test.YtnpipiamojmbhaaSealT
namespace Go.Proofs.Ytnpipiamojmbhaa
open Go.RowKit
theorem seal_facts (old s : ByteArray) (hs : s.size ≤ 376) : (text (sealL (nextG old) (nats s))).size = 384 ∧ (nats (text (sealL (nextG old) (nats s))))[0]? = some (nextG old) ∧ (nats (text (sealL (nextG old) (nats s))))[383]? = some (nextG old) := by
  have hl : (nats s).length ≤ 376 := by rw [nats_length]; exact hs
  have hn : nats (text (sealL (nextG old) (nats s))) = sealL (nextG old) (nats s) := nats_text _ (sealL_lt (nextG_lt old) (nats_lt s))
  refine ⟨by rw [text_size]; exact sealL_length _ _ hl, ?_, ?_⟩
  · rw [hn]; exact sealL_head _ _
  · rw [hn]; exact sealL_last _ _ hl
set_option linter.unusedVariables false in
set_option maxRecDepth 100000 in
set_option maxHeartbeats 8000000 in
theorem moves_core (old s t : ByteArray) (w : World) (ho : old.size ≤ 140737488351232) : Calls Try.prog 12 #[.string old, .string s, .string t] w fun e w' => e = .returned (.bool true) ∧ Below w.heap.size w w' := by
  have HW := Lib.hid (fun W => whole_any old W (by omega))
  obtain ⟨O, hO⟩ : ∃ O, O = text (wholeL (nats old)) := ⟨_, rfl⟩
  rw [← hO] at HW
  have hOn : nats O = wholeL (nats old) := by rw [hO]; exact nats_text _ (wholeL_lt _ (nats_lt old))
  have hOz : O.size = 384 := by rw [← nats_length, hOn, wholeL_length]
  clear hO hOn
  have HOZ := Lib.hid hOz
  by_cases hl : 376 < s.size
  · have hl' : (376 : Int) < s.size := by omega
    have H1 := Lib.hid (fun W => seal_long O s W hl)
    clear hl hOz
    go_enter Try.func12, Try.ntmps12
    go_wp2_with fail
    refine (awake04_any _).mono ?_
    rintro e w1 ⟨rfl, hb1⟩
    have B1 := Lib.hid hb1
    clear hb1
    go_wp2_with fail
    refine (HW.out _).mono ?_
    rintro e w2 ⟨rfl, hb2⟩
    have B2 := Lib.hid (B1.out.trans (hb2.mono B1.out.size))
    clear hb2
    go_wp2_with fail
    refine (H1.out _).mono ?_
    rintro e w3 ⟨rfl, rfl⟩
    go_wp2_with fail
    go_ret
    exact ⟨rfl, B2.out⟩
  have H1 := Lib.hid (fun W => seal_ok O s W (by omega) (by rw [hOz]; decide))
  obtain ⟨hAz, hA0, hA3⟩ := seal_facts O s (by omega)
  have hA := nextG_ne O hOz
  obtain ⟨A, hAA⟩ : ∃ A, A = text (sealL (nextG O) (nats s)) := ⟨_, rfl⟩
  rw [← hAA] at H1 hAz hA0 hA3
  have HAZ := Lib.hid hAz
  have hl' : (s.size : Int) ≤ 376 := by omega
  by_cases hk : 376 < t.size
  · have hk' : (376 : Int) < t.size := by omega
    have H2 := Lib.hid (fun W => seal_long A t W hk)
    clear hl hOz hAz hA0 hA3 hA hAA hk
    go_enter Try.func12, Try.ntmps12
    go_wp2_with fail
    refine (awake04_any _).mono ?_
    rintro e w1 ⟨rfl, hb1⟩
    have B1 := Lib.hid hb1
    clear hb1
    go_wp2_with fail
    refine (HW.out _).mono ?_
    rintro e w2 ⟨rfl, hb2⟩
    have B2 := Lib.hid (B1.out.trans (hb2.mono B1.out.size))
    clear hb2
    go_wp2_with fail
    refine (H1.out _).mono ?_
    rintro e w3 ⟨rfl, hb3⟩
    have B3 := Lib.hid (B2.out.trans (hb3.mono B2.out.size))
    clear hb3
    go_wp2_with fail
    refine (H2.out _).mono ?_
    rintro e w4 ⟨rfl, rfl⟩
    go_wp2_with fail
    go_ret
    exact ⟨rfl, B3.out⟩
  have H2 := Lib.hid (fun W => seal_ok A t W (by omega) (by rw [hAz]; decide))
  obtain ⟨hBz, hB0, hB3⟩ := seal_facts A t (by omega)
  have hB := nextG_ne A hAz
  obtain ⟨B, hBB⟩ : ∃ B, B = text (sealL (nextG A) (nats t)) := ⟨_, rfl⟩
  rw [← hBB] at H2 hBz hB0 hB3
  have hk' : (t.size : Int) ≤ 376 := by omega
  rw [hA3] at hB
  have hne : B ≠ A := by
    intro e
    rw [e, hA3] at hB3
    exact hB hB3
  have bO3 : 383 < O.size := by omega
  have bA0 : 0 < A.size := by omega
  have bA3 : 383 < A.size := by omega
  have bB3 : 383 < B.size := by omega
  rw [nats_get O 383 bO3] at hA
  rw [nats_get A 0 bA0] at hA0
  rw [nats_get A 383 bA3] at hA3
  rw [nats_get B 383 bB3] at hB3
  have e0 := Option.some.inj hA0
  have e3 := Option.some.inj hA3
  have e4 := Option.some.inj hB3
  have n1 : (A[383]'bA3).toNat ≠ (O[383]'bO3).toNat := fun e => hA (by rw [← e, e3])
  have n2 : (B[383]'bB3).toNat ≠ (A[383]'bA3).toNat := fun e => hB (by rw [← e3, ← e, e4])
  have n3 : (A[0]'bA0).toNat = (A[383]'bA3).toNat := by rw [e0, e3]
  have q1 : (((A[383]'bA3).toNat : Int) != ((O[383]'bO3).toNat : Int)) = true := by simp only [bne_iff_ne, ne_eq, Int.natCast_inj]; exact n1
  have q2 : (((B[383]'bB3).toNat : Int) != ((A[383]'bA3).toNat : Int)) = true := by simp only [bne_iff_ne, ne_eq, Int.natCast_inj]; exact n2
  have q3 : (((A[0]'bA0).toNat : Int) == ((A[383]'bA3).toNat : Int)) = true := by simp only [beq_iff_eq, Int.natCast_inj]; exact n3
  have p1 : ((A[383]'bA3).toNat == (O[383]'bO3).toNat) = false := by simp only [beq_eq_false_iff_ne, ne_eq]; exact n1
  have p2 : ((B[383]'bB3).toNat == (A[383]'bA3).toNat) = false := by simp only [beq_eq_false_iff_ne, ne_eq]; exact n2
  have p3 : ((A[0]'bA0).toNat == (A[383]'bA3).toNat) = true := by simp only [beq_iff_eq]; exact n3
  have s1 : (B.toList == A.toList) = false := by
    rw [beq_eq_false_iff_ne, toList_data, toList_data]
    exact fun h => hne (ByteArray.ext (Array.toList_inj.1 h))
  have s2 : (B.toList != A.toList) = true := by rw [bne, s1]; rfl
  have zO : (O.size : Int) = 384 := by omega
  have zA : (A.size : Int) = 384 := by omega
  have zB : (B.size : Int) = 384 := by omega
  clear hl hk hA0 hA3 hA hAA hB0 hB3 hB hBB hne e0 e3 e4 n1 n2 n3
  have Q := Lib.hid (And.intro q1 (And.intro q2 (And.intro q3 (And.intro p1 (And.intro p2 p3)))))
  clear q1 q2 q3 p1 p2 p3
  have Z := Lib.hid (And.intro zO (And.intro zA zB))
  clear zO zA zB
  have HBZ := Lib.hid hBz
  have S := Lib.hid (And.intro s1 s2)
  clear s1 s2
  go_enter Try.func12, Try.ntmps12
  go_wp2_with fail
  refine (awake04_any _).mono ?_
  rintro e w1 ⟨rfl, hb1⟩
  have B1 := Lib.hid hb1
  clear hb1
  go_wp2_with fail
  refine (HW.out _).mono ?_
  rintro e w2 ⟨rfl, hb2⟩
  have B2 := Lib.hid (B1.out.trans (hb2.mono B1.out.size))
  clear hb2
  go_wp2_with fail
  refine (H1.out _).mono ?_
  rintro e w3 ⟨rfl, hb3⟩
  have B3 := Lib.hid (B2.out.trans (hb3.mono B2.out.size))
  clear hb3
  go_wp2_with fail
  refine (H2.out _).mono ?_
  rintro e w4 ⟨rfl, hb4⟩
  have B4 := Lib.hid (B3.out.trans (hb4.mono B3.out.size))
  clear hb4
  go_wp2_with fail
  obtain ⟨q1, q2, q3, p1, p2, p3⟩ := Q.out
  obtain ⟨zO, zA, zB⟩ := Z.out
  obtain ⟨s1, s2⟩ := S.out
  clear hOz hAz hBz
  go_quiet (fail)
  go_wp2_with fail
  go_ret
  exact ⟨ret_bool (by simp), below_drewN B4.out _⟩
end Go.Proofs.Ytnpipiamojmbhaa

/- The reference's Pack. -/
import Derived.Test.YtmebodjofcomlaaRefA
namespace Go.Proofs.Ytmebodjofcomlaa
open Go.RowKit
set_option maxHeartbeats 2000000 in
theorem rpack_form (k f o v p c cl se rq a b : Int) (par : Int) (body : ByteArray) (w : World) (h : headB k f o v p c cl se rq a b = false) :
    Calls Try.prog 19 #[.agg #[.int .i64 k, .int .i64 f, .int .i64 o, .int .i64 v, .int .i64 p, .int .i64 c, .int .i64 cl, .int .i64 se, .int .i64 rq, .int .i64 a, .int .i64 b, .int .u64 par], .string body] w fun e w' => e = .returned (.tuple #[.string ⟨#[]⟩, .int .i64 4]) ∧ Below w.heap.size w w' := by
  have hr := fun w => refright_any k f o v p c cl se rq a b par w
  rw [h] at hr
  have HR := Lib.hid hr
  clear hr h
  have HB0 := Lib.hid ((Below.refl w.heap.size w).alloc (Nat.le_refl _) (.cells #[.int .i64 k, .int .i64 f, .int .i64 o, .int .i64 v, .int .i64 p, .int .i64 c, .int .i64 cl, .int .i64 se, .int .i64 rq, .int .i64 a, .int .i64 b, .int .u64 par] 34))
  go_enter Try.func19, Try.ntmps19
  go_wp2_with fail
  refine (HR.out _).mono ?_
  rintro e w1 ⟨rfl, hb1⟩
  go_wp2_with fail
  go_ret2
  exact ⟨rfl, HB0.out.trans (hb1.mono (by simp))⟩
set_option maxHeartbeats 2000000 in
theorem rpack_long (k f o v p c cl se rq a b : Int) (par : Int) (body : ByteArray) (w : World) (h : headB k f o v p c cl se rq a b = true) (hl : 3968 < body.size) :
    Calls Try.prog 19 #[.agg #[.int .i64 k, .int .i64 f, .int .i64 o, .int .i64 v, .int .i64 p, .int .i64 c, .int .i64 cl, .int .i64 se, .int .i64 rq, .int .i64 a, .int .i64 b, .int .u64 par], .string body] w fun e w' => e = .returned (.tuple #[.string ⟨#[]⟩, .int .i64 5]) ∧ Below w.heap.size w w' := by
  have hr := fun w => refright_any k f o v p c cl se rq a b par w
  rw [h] at hr
  have HR := Lib.hid hr
  clear hr h
  have HB0 := Lib.hid ((Below.refl w.heap.size w).alloc (Nat.le_refl _) (.cells #[.int .i64 k, .int .i64 f, .int .i64 o, .int .i64 v, .int .i64 p, .int .i64 c, .int .i64 cl, .int .i64 se, .int .i64 rq, .int .i64 a, .int .i64 b, .int .u64 par] 34))
  have hl' : (3968 : Int) < body.size := by omega
  go_enter Try.func19, Try.ntmps19
  go_wp2_with fail
  refine (HR.out _).mono ?_
  rintro e w1 ⟨rfl, hb1⟩
  go_wp2_with fail
  go_ret2
  exact ⟨rfl, HB0.out.trans (hb1.mono (by simp))⟩
theorem leN_one (x : Nat) (h : x < 256) : leN x 1 = [x] := by
  simp [leN, List.range_succ]; omega
set_option maxHeartbeats 8000000 in
theorem rpack_ok (k f o v p c cl se rq a b : Nat) (par : Nat) (body : ByteArray) (w : World) (h : headB k f o v p c cl se rq a b = true) (hl : body.size ≤ 3968) (hpar : par < 18446744073709551616) :
    Calls Try.prog 19 #[.agg #[.int .i64 k, .int .i64 f, .int .i64 o, .int .i64 v, .int .i64 p, .int .i64 c, .int .i64 cl, .int .i64 se, .int .i64 rq, .int .i64 a, .int .i64 b, .int .u64 par], .string body] w fun e w' =>
      e = .returned (.tuple #[.string (text (packL k f o [v, p, c, cl, se, rq, a, b] par (nats body))), .int .i64 0]) ∧ Below w.heap.size w w' := by
  have hr := fun w => refright_any k f o v p c cl se rq a b par w
  have hbd := of_decide_eq_true h
  rw [h] at hr
  have HR := Lib.hid hr
  clear hr h
  have HB0 := Lib.hid ((Below.refl w.heap.size w).alloc (Nat.le_refl _) (.cells #[.int .i64 k, .int .i64 f, .int .i64 o, .int .i64 v, .int .i64 p, .int .i64 c, .int .i64 cl, .int .i64 se, .int .i64 rq, .int .i64 a, .int .i64 b, .int .u64 par] 34))
  have HROW := Lib.hid (Row.new w #[.int .i64 k, .int .i64 f, .int .i64 o, .int .i64 v, .int .i64 p, .int .i64 c, .int .i64 cl, .int .i64 se, .int .i64 rq, .int .i64 a, .int .i64 b, .int .u64 par] 34 _ rfl)
  have hl' : ¬ (3968 : Int) < body.size := by omega
  have HBD := Lib.hid hbd
  clear hbd
  go_enter Try.func19, Try.ntmps19
  go_wp2_with fail
  refine (HR.out _).mono ?_
  rintro e w1 ⟨rfl, hb1⟩
  have H1 := Lib.hid (And.intro (HROW.out.below hb1 HROW.out.1) (HB0.out.trans (hb1.mono HB0.out.size)))
  clear hb1 HB0 HROW
  go_wp2_with fail
  have H1 := Lib.hid (And.intro (H1.out.1.alloc (.cells #[] 5)) (H1.out.2.alloc H1.out.2.size (.cells #[] 5)))
  refine (refsum_all body _ (by unfold maxLen; omega)).mono ?_
  rintro e w2 ⟨rfl, rfl⟩
  have hlt := add_lt 0 (nats body)
  obtain ⟨S, hS⟩ : ∃ S, Crc.add 0 (nats body) = S := ⟨_, rfl⟩
  rw [hS] at hlt ⊢
  have HS := Lib.hid hS
  clear hS
  have hw0 := wrap_u64_of S (by omega)
  go_wp2_with fail
  refine (rput _ 0 [] S 4 _ (holds_zero _ _ _) (by omega) (by decide) (by decide) (Nat.div_eq_of_lt hlt) (by decide)).mono ?_
  rintro e w2 ⟨v2, rfl, hO, hb⟩
  obtain ⟨L, hL⟩ : ∃ L, L = [] ++ leN S 4 := ⟨_, rfl⟩
  rw [← hL] at hO
  have HLN := Lib.hid (show L.length = 4 by rw [hL]; simp [leN_length])
  have HL := Lib.hid hL
  have H := Lib.hid (And.intro (H1.out.1.below hb H1.out.1.1) (And.intro (H1.out.2.trans (hb.mono H1.out.2.size)) (hO.mono (Nat.succ_le_of_lt (show w.heap.size < _ from H1.out.1.1)))))
  clear hL hb hO H1 hw0
  have cc := H.out.1.2 0 _ rfl
  have hfit : k < 256 ^ 1 := by rw [show (256 : Nat) ^ 1 = 256 from by decide]; have := HBD.out; omega
  have hw0 := wrap_u64_of k (by have := HBD.out; omega)
  have HF := Lib.hid hfit
  clear hfit
  go_wp2_with fail
  refine (rputO _ L k 1 _ H.out.2.2 (by have := HBD.out; omega) (by decide) (by decide) (Nat.div_eq_of_lt HF.out) (by rw [HLN.out]; decide)).mono ?_
  rintro e w3 ⟨v3, rfl, hO, hb⟩
  obtain ⟨L', hL⟩ : ∃ L', L' = L ++ leN k 1 := ⟨_, rfl⟩
  rw [← hL] at hO
  have HLN' := Lib.hid (show L'.length = 5 by rw [hL, List.length_append, leN_length, HLN.out])
  have HL' := Lib.hid (show L' = [] ++ leN S 4 ++ leN k 1 by rw [hL, HL.out])
  have H' := Lib.hid (And.intro (H.out.1.below hb H.out.1.1) (And.intro (H.out.2.1.trans (hb.mono H.out.2.1.size)) (hO.mono (Nat.succ_le_of_lt H.out.1.1))))
  clear hL hb hO H HL HLN HF hw0 cc
  obtain ⟨L, HLN, HL, H⟩ : ∃ L : List Nat, Hid (L.length = 5) ∧ Hid (L = [] ++ leN S 4 ++ leN k 1) ∧ Hid (Row w3 w.heap.size #[.int .i64 k, .int .i64 f, .int .i64 o, .int .i64 v, .int .i64 p, .int .i64 c, .int .i64 cl, .int .i64 se, .int .i64 rq, .int .i64 a, .int .i64 b, .int .u64 par] ∧ Below w.heap.size w w3 ∧ OwnB (w.heap.size + 1) w3 v3 L) := ⟨L', HLN', HL', H'⟩
  clear HLN' HL' H' L'
  have cc := H.out.1.2 1 _ rfl
  have hfit : f < 256 ^ 1 := by rw [show (256 : Nat) ^ 1 = 256 from by decide]; have := HBD.out; omega
  have hw0 := wrap_u64_of f (by have := HBD.out; omega)
  have HF := Lib.hid hfit
  clear hfit
  go_wp2_with fail
  refine (rputO _ L f 1 _ H.out.2.2 (by have := HBD.out; omega) (by decide) (by decide) (Nat.div_eq_of_lt HF.out) (by rw [HLN.out]; decide)).mono ?_
  rintro e w3 ⟨v3, rfl, hO, hb⟩
  obtain ⟨L', hL⟩ : ∃ L', L' = L ++ leN f 1 := ⟨_, rfl⟩
  rw [← hL] at hO
  have HLN' := Lib.hid (show L'.length = 6 by rw [hL, List.length_append, leN_length, HLN.out])
  have HL' := Lib.hid (show L' = [] ++ leN S 4 ++ leN k 1 ++ leN f 1 by rw [hL, HL.out])
  have H' := Lib.hid (And.intro (H.out.1.below hb H.out.1.1) (And.intro (H.out.2.1.trans (hb.mono H.out.2.1.size)) (hO.mono (Nat.succ_le_of_lt H.out.1.1))))
  clear hL hb hO H HL HLN HF hw0 cc
  obtain ⟨L, HLN, HL, H⟩ : ∃ L : List Nat, Hid (L.length = 6) ∧ Hid (L = [] ++ leN S 4 ++ leN k 1 ++ leN f 1) ∧ Hid (Row w3 w.heap.size #[.int .i64 k, .int .i64 f, .int .i64 o, .int .i64 v, .int .i64 p, .int .i64 c, .int .i64 cl, .int .i64 se, .int .i64 rq, .int .i64 a, .int .i64 b, .int .u64 par] ∧ Below w.heap.size w w3 ∧ OwnB (w.heap.size + 1) w3 v3 L) := ⟨L', HLN', HL', H'⟩
  clear HLN' HL' H' L'
  have cc := H.out.1.2 2 _ rfl
  have hfit : o < 256 ^ 1 := by rw [show (256 : Nat) ^ 1 = 256 from by decide]; have := HBD.out; omega
  have hw0 := wrap_u64_of o (by have := HBD.out; omega)
  have HF := Lib.hid hfit
  clear hfit
  go_wp2_with fail
  refine (rputO _ L o 1 _ H.out.2.2 (by have := HBD.out; omega) (by decide) (by decide) (Nat.div_eq_of_lt HF.out) (by rw [HLN.out]; decide)).mono ?_
  rintro e w3 ⟨v3, rfl, hO, hb⟩
  obtain ⟨L', hL⟩ : ∃ L', L' = L ++ leN o 1 := ⟨_, rfl⟩
  rw [← hL] at hO
  have HLN' := Lib.hid (show L'.length = 7 by rw [hL, List.length_append, leN_length, HLN.out])
  have HL' := Lib.hid (show L' = [] ++ leN S 4 ++ leN k 1 ++ leN f 1 ++ leN o 1 by rw [hL, HL.out])
  have H' := Lib.hid (And.intro (H.out.1.below hb H.out.1.1) (And.intro (H.out.2.1.trans (hb.mono H.out.2.1.size)) (hO.mono (Nat.succ_le_of_lt H.out.1.1))))
  clear hL hb hO H HL HLN HF hw0 cc
  obtain ⟨L, HLN, HL, H⟩ : ∃ L : List Nat, Hid (L.length = 7) ∧ Hid (L = [] ++ leN S 4 ++ leN k 1 ++ leN f 1 ++ leN o 1) ∧ Hid (Row w3 w.heap.size #[.int .i64 k, .int .i64 f, .int .i64 o, .int .i64 v, .int .i64 p, .int .i64 c, .int .i64 cl, .int .i64 se, .int .i64 rq, .int .i64 a, .int .i64 b, .int .u64 par] ∧ Below w.heap.size w w3 ∧ OwnB (w.heap.size + 1) w3 v3 L) := ⟨L', HLN', HL', H'⟩
  clear HLN' HL' H' L'
  have hfit : 0 < 256 ^ 1 := by rw [show (256 : Nat) ^ 1 = 256 from by decide]; have := HBD.out; omega
  have HF := Lib.hid hfit
  clear hfit
  go_wp2_with fail
  refine (rputO _ L 0 1 _ H.out.2.2 (by have := HBD.out; omega) (by decide) (by decide) (Nat.div_eq_of_lt HF.out) (by rw [HLN.out]; decide)).mono ?_
  rintro e w3 ⟨v3, rfl, hO, hb⟩
  obtain ⟨L', hL⟩ : ∃ L', L' = L ++ leN 0 1 := ⟨_, rfl⟩
  rw [← hL] at hO
  have HLN' := Lib.hid (show L'.length = 8 by rw [hL, List.length_append, leN_length, HLN.out])
  have HL' := Lib.hid (show L' = [] ++ leN S 4 ++ leN k 1 ++ leN f 1 ++ leN o 1 ++ leN 0 1 by rw [hL, HL.out])
  have H' := Lib.hid (And.intro (H.out.1.below hb H.out.1.1) (And.intro (H.out.2.1.trans (hb.mono H.out.2.1.size)) (hO.mono (Nat.succ_le_of_lt H.out.1.1))))
  clear hL hb hO H HL HLN HF
  obtain ⟨L, HLN, HL, H⟩ : ∃ L : List Nat, Hid (L.length = 8) ∧ Hid (L = [] ++ leN S 4 ++ leN k 1 ++ leN f 1 ++ leN o 1 ++ leN 0 1) ∧ Hid (Row w3 w.heap.size #[.int .i64 k, .int .i64 f, .int .i64 o, .int .i64 v, .int .i64 p, .int .i64 c, .int .i64 cl, .int .i64 se, .int .i64 rq, .int .i64 a, .int .i64 b, .int .u64 par] ∧ Below w.heap.size w w3 ∧ OwnB (w.heap.size + 1) w3 v3 L) := ⟨L', HLN', HL', H'⟩
  clear HLN' HL' H' L'
  have hfit : body.size < 256 ^ 4 := by rw [show (256 : Nat) ^ 4 = 4294967296 from by decide]; have := HBD.out; omega
  have hw0 := wrap_u64_of body.size (by have := HBD.out; omega)
  have HF := Lib.hid hfit
  clear hfit
  go_wp2_with fail
  refine (rputO _ L body.size 4 _ H.out.2.2 (by have := HBD.out; omega) (by decide) (by decide) (Nat.div_eq_of_lt HF.out) (by rw [HLN.out]; decide)).mono ?_
  rintro e w3 ⟨v3, rfl, hO, hb⟩
  obtain ⟨L', hL⟩ : ∃ L', L' = L ++ leN body.size 4 := ⟨_, rfl⟩
  rw [← hL] at hO
  have HLN' := Lib.hid (show L'.length = 12 by rw [hL, List.length_append, leN_length, HLN.out])
  have HL' := Lib.hid (show L' = [] ++ leN S 4 ++ leN k 1 ++ leN f 1 ++ leN o 1 ++ leN 0 1 ++ leN body.size 4 by rw [hL, HL.out])
  have H' := Lib.hid (And.intro (H.out.1.below hb H.out.1.1) (And.intro (H.out.2.1.trans (hb.mono H.out.2.1.size)) (hO.mono (Nat.succ_le_of_lt H.out.1.1))))
  clear hL hb hO H HL HLN HF hw0
  obtain ⟨L, HLN, HL, H⟩ : ∃ L : List Nat, Hid (L.length = 12) ∧ Hid (L = [] ++ leN S 4 ++ leN k 1 ++ leN f 1 ++ leN o 1 ++ leN 0 1 ++ leN body.size 4) ∧ Hid (Row w3 w.heap.size #[.int .i64 k, .int .i64 f, .int .i64 o, .int .i64 v, .int .i64 p, .int .i64 c, .int .i64 cl, .int .i64 se, .int .i64 rq, .int .i64 a, .int .i64 b, .int .u64 par] ∧ Below w.heap.size w w3 ∧ OwnB (w.heap.size + 1) w3 v3 L) := ⟨L', HLN', HL', H'⟩
  clear HLN' HL' H' L'
  have cc := H.out.1.2 11 _ rfl
  have hfit : par < 256 ^ 8 := by rw [show (256 : Nat) ^ 8 = 18446744073709551616 from by decide]; have := HBD.out; omega
  have HF := Lib.hid hfit
  clear hfit
  go_wp2_with fail
  refine (rputO _ L par 8 _ H.out.2.2 (by have := HBD.out; omega) (by decide) (by decide) (Nat.div_eq_of_lt HF.out) (by rw [HLN.out]; decide)).mono ?_
  rintro e w3 ⟨v3, rfl, hO, hb⟩
  obtain ⟨L', hL⟩ : ∃ L', L' = L ++ leN par 8 := ⟨_, rfl⟩
  rw [← hL] at hO
  have HLN' := Lib.hid (show L'.length = 20 by rw [hL, List.length_append, leN_length, HLN.out])
  have HL' := Lib.hid (show L' = [] ++ leN S 4 ++ leN k 1 ++ leN f 1 ++ leN o 1 ++ leN 0 1 ++ leN body.size 4 ++ leN par 8 by rw [hL, HL.out])
  have H' := Lib.hid (And.intro (H.out.1.below hb H.out.1.1) (And.intro (H.out.2.1.trans (hb.mono H.out.2.1.size)) (hO.mono (Nat.succ_le_of_lt H.out.1.1))))
  clear hL hb hO H HL HLN HF cc
  obtain ⟨L, HLN, HL, H⟩ : ∃ L : List Nat, Hid (L.length = 20) ∧ Hid (L = [] ++ leN S 4 ++ leN k 1 ++ leN f 1 ++ leN o 1 ++ leN 0 1 ++ leN body.size 4 ++ leN par 8) ∧ Hid (Row w3 w.heap.size #[.int .i64 k, .int .i64 f, .int .i64 o, .int .i64 v, .int .i64 p, .int .i64 c, .int .i64 cl, .int .i64 se, .int .i64 rq, .int .i64 a, .int .i64 b, .int .u64 par] ∧ Below w.heap.size w w3 ∧ OwnB (w.heap.size + 1) w3 v3 L) := ⟨L', HLN', HL', H'⟩
  clear HLN' HL' H' L'
  have cc := H.out.1.2 3 _ rfl
  have hfit : v < 256 ^ 8 := by rw [show (256 : Nat) ^ 8 = 18446744073709551616 from by decide]; have := HBD.out; omega
  have hw0 := wrap_u64_of v (by have := HBD.out; omega)
  have HF := Lib.hid hfit
  clear hfit
  go_wp2_with fail
  refine (rputO _ L v 8 _ H.out.2.2 (by have := HBD.out; omega) (by decide) (by decide) (Nat.div_eq_of_lt HF.out) (by rw [HLN.out]; decide)).mono ?_
  rintro e w3 ⟨v3, rfl, hO, hb⟩
  obtain ⟨L', hL⟩ : ∃ L', L' = L ++ leN v 8 := ⟨_, rfl⟩
  rw [← hL] at hO
  have HLN' := Lib.hid (show L'.length = 28 by rw [hL, List.length_append, leN_length, HLN.out])
  have HL' := Lib.hid (show L' = [] ++ leN S 4 ++ leN k 1 ++ leN f 1 ++ leN o 1 ++ leN 0 1 ++ leN body.size 4 ++ leN par 8 ++ leN v 8 by rw [hL, HL.out])
  have H' := Lib.hid (And.intro (H.out.1.below hb H.out.1.1) (And.intro (H.out.2.1.trans (hb.mono H.out.2.1.size)) (hO.mono (Nat.succ_le_of_lt H.out.1.1))))
  clear hL hb hO H HL HLN HF hw0 cc
  obtain ⟨L, HLN, HL, H⟩ : ∃ L : List Nat, Hid (L.length = 28) ∧ Hid (L = [] ++ leN S 4 ++ leN k 1 ++ leN f 1 ++ leN o 1 ++ leN 0 1 ++ leN body.size 4 ++ leN par 8 ++ leN v 8) ∧ Hid (Row w3 w.heap.size #[.int .i64 k, .int .i64 f, .int .i64 o, .int .i64 v, .int .i64 p, .int .i64 c, .int .i64 cl, .int .i64 se, .int .i64 rq, .int .i64 a, .int .i64 b, .int .u64 par] ∧ Below w.heap.size w w3 ∧ OwnB (w.heap.size + 1) w3 v3 L) := ⟨L', HLN', HL', H'⟩
  clear HLN' HL' H' L'
  have cc := H.out.1.2 4 _ rfl
  have hfit : p < 256 ^ 8 := by rw [show (256 : Nat) ^ 8 = 18446744073709551616 from by decide]; have := HBD.out; omega
  have hw0 := wrap_u64_of p (by have := HBD.out; omega)
  have HF := Lib.hid hfit
  clear hfit
  go_wp2_with fail
  refine (rputO _ L p 8 _ H.out.2.2 (by have := HBD.out; omega) (by decide) (by decide) (Nat.div_eq_of_lt HF.out) (by rw [HLN.out]; decide)).mono ?_
  rintro e w3 ⟨v3, rfl, hO, hb⟩
  obtain ⟨L', hL⟩ : ∃ L', L' = L ++ leN p 8 := ⟨_, rfl⟩
  rw [← hL] at hO
  have HLN' := Lib.hid (show L'.length = 36 by rw [hL, List.length_append, leN_length, HLN.out])
  have HL' := Lib.hid (show L' = [] ++ leN S 4 ++ leN k 1 ++ leN f 1 ++ leN o 1 ++ leN 0 1 ++ leN body.size 4 ++ leN par 8 ++ leN v 8 ++ leN p 8 by rw [hL, HL.out])
  have H' := Lib.hid (And.intro (H.out.1.below hb H.out.1.1) (And.intro (H.out.2.1.trans (hb.mono H.out.2.1.size)) (hO.mono (Nat.succ_le_of_lt H.out.1.1))))
  clear hL hb hO H HL HLN HF hw0 cc
  obtain ⟨L, HLN, HL, H⟩ : ∃ L : List Nat, Hid (L.length = 36) ∧ Hid (L = [] ++ leN S 4 ++ leN k 1 ++ leN f 1 ++ leN o 1 ++ leN 0 1 ++ leN body.size 4 ++ leN par 8 ++ leN v 8 ++ leN p 8) ∧ Hid (Row w3 w.heap.size #[.int .i64 k, .int .i64 f, .int .i64 o, .int .i64 v, .int .i64 p, .int .i64 c, .int .i64 cl, .int .i64 se, .int .i64 rq, .int .i64 a, .int .i64 b, .int .u64 par] ∧ Below w.heap.size w w3 ∧ OwnB (w.heap.size + 1) w3 v3 L) := ⟨L', HLN', HL', H'⟩
  clear HLN' HL' H' L'
  have cc := H.out.1.2 5 _ rfl
  have hfit : c < 256 ^ 8 := by rw [show (256 : Nat) ^ 8 = 18446744073709551616 from by decide]; have := HBD.out; omega
  have hw0 := wrap_u64_of c (by have := HBD.out; omega)
  have HF := Lib.hid hfit
  clear hfit
  go_wp2_with fail
  refine (rputO _ L c 8 _ H.out.2.2 (by have := HBD.out; omega) (by decide) (by decide) (Nat.div_eq_of_lt HF.out) (by rw [HLN.out]; decide)).mono ?_
  rintro e w3 ⟨v3, rfl, hO, hb⟩
  obtain ⟨L', hL⟩ : ∃ L', L' = L ++ leN c 8 := ⟨_, rfl⟩
  rw [← hL] at hO
  have HLN' := Lib.hid (show L'.length = 44 by rw [hL, List.length_append, leN_length, HLN.out])
  have HL' := Lib.hid (show L' = [] ++ leN S 4 ++ leN k 1 ++ leN f 1 ++ leN o 1 ++ leN 0 1 ++ leN body.size 4 ++ leN par 8 ++ leN v 8 ++ leN p 8 ++ leN c 8 by rw [hL, HL.out])
  have H' := Lib.hid (And.intro (H.out.1.below hb H.out.1.1) (And.intro (H.out.2.1.trans (hb.mono H.out.2.1.size)) (hO.mono (Nat.succ_le_of_lt H.out.1.1))))
  clear hL hb hO H HL HLN HF hw0 cc
  obtain ⟨L, HLN, HL, H⟩ : ∃ L : List Nat, Hid (L.length = 44) ∧ Hid (L = [] ++ leN S 4 ++ leN k 1 ++ leN f 1 ++ leN o 1 ++ leN 0 1 ++ leN body.size 4 ++ leN par 8 ++ leN v 8 ++ leN p 8 ++ leN c 8) ∧ Hid (Row w3 w.heap.size #[.int .i64 k, .int .i64 f, .int .i64 o, .int .i64 v, .int .i64 p, .int .i64 c, .int .i64 cl, .int .i64 se, .int .i64 rq, .int .i64 a, .int .i64 b, .int .u64 par] ∧ Below w.heap.size w w3 ∧ OwnB (w.heap.size + 1) w3 v3 L) := ⟨L', HLN', HL', H'⟩
  clear HLN' HL' H' L'
  have cc := H.out.1.2 6 _ rfl
  have hfit : cl < 256 ^ 8 := by rw [show (256 : Nat) ^ 8 = 18446744073709551616 from by decide]; have := HBD.out; omega
  have hw0 := wrap_u64_of cl (by have := HBD.out; omega)
  have HF := Lib.hid hfit
  clear hfit
  go_wp2_with fail
  refine (rputO _ L cl 8 _ H.out.2.2 (by have := HBD.out; omega) (by decide) (by decide) (Nat.div_eq_of_lt HF.out) (by rw [HLN.out]; decide)).mono ?_
  rintro e w3 ⟨v3, rfl, hO, hb⟩
  obtain ⟨L', hL⟩ : ∃ L', L' = L ++ leN cl 8 := ⟨_, rfl⟩
  rw [← hL] at hO
  have HLN' := Lib.hid (show L'.length = 52 by rw [hL, List.length_append, leN_length, HLN.out])
  have HL' := Lib.hid (show L' = [] ++ leN S 4 ++ leN k 1 ++ leN f 1 ++ leN o 1 ++ leN 0 1 ++ leN body.size 4 ++ leN par 8 ++ leN v 8 ++ leN p 8 ++ leN c 8 ++ leN cl 8 by rw [hL, HL.out])
  have H' := Lib.hid (And.intro (H.out.1.below hb H.out.1.1) (And.intro (H.out.2.1.trans (hb.mono H.out.2.1.size)) (hO.mono (Nat.succ_le_of_lt H.out.1.1))))
  clear hL hb hO H HL HLN HF hw0 cc
  obtain ⟨L, HLN, HL, H⟩ : ∃ L : List Nat, Hid (L.length = 52) ∧ Hid (L = [] ++ leN S 4 ++ leN k 1 ++ leN f 1 ++ leN o 1 ++ leN 0 1 ++ leN body.size 4 ++ leN par 8 ++ leN v 8 ++ leN p 8 ++ leN c 8 ++ leN cl 8) ∧ Hid (Row w3 w.heap.size #[.int .i64 k, .int .i64 f, .int .i64 o, .int .i64 v, .int .i64 p, .int .i64 c, .int .i64 cl, .int .i64 se, .int .i64 rq, .int .i64 a, .int .i64 b, .int .u64 par] ∧ Below w.heap.size w w3 ∧ OwnB (w.heap.size + 1) w3 v3 L) := ⟨L', HLN', HL', H'⟩
  clear HLN' HL' H' L'
  have cc := H.out.1.2 7 _ rfl
  have hfit : se < 256 ^ 8 := by rw [show (256 : Nat) ^ 8 = 18446744073709551616 from by decide]; have := HBD.out; omega
  have hw0 := wrap_u64_of se (by have := HBD.out; omega)
  have HF := Lib.hid hfit
  clear hfit
  go_wp2_with fail
  refine (rputO _ L se 8 _ H.out.2.2 (by have := HBD.out; omega) (by decide) (by decide) (Nat.div_eq_of_lt HF.out) (by rw [HLN.out]; decide)).mono ?_
  rintro e w3 ⟨v3, rfl, hO, hb⟩
  obtain ⟨L', hL⟩ : ∃ L', L' = L ++ leN se 8 := ⟨_, rfl⟩
  rw [← hL] at hO
  have HLN' := Lib.hid (show L'.length = 60 by rw [hL, List.length_append, leN_length, HLN.out])
  have HL' := Lib.hid (show L' = [] ++ leN S 4 ++ leN k 1 ++ leN f 1 ++ leN o 1 ++ leN 0 1 ++ leN body.size 4 ++ leN par 8 ++ leN v 8 ++ leN p 8 ++ leN c 8 ++ leN cl 8 ++ leN se 8 by rw [hL, HL.out])
  have H' := Lib.hid (And.intro (H.out.1.below hb H.out.1.1) (And.intro (H.out.2.1.trans (hb.mono H.out.2.1.size)) (hO.mono (Nat.succ_le_of_lt H.out.1.1))))
  clear hL hb hO H HL HLN HF hw0 cc
  obtain ⟨L, HLN, HL, H⟩ : ∃ L : List Nat, Hid (L.length = 60) ∧ Hid (L = [] ++ leN S 4 ++ leN k 1 ++ leN f 1 ++ leN o 1 ++ leN 0 1 ++ leN body.size 4 ++ leN par 8 ++ leN v 8 ++ leN p 8 ++ leN c 8 ++ leN cl 8 ++ leN se 8) ∧ Hid (Row w3 w.heap.size #[.int .i64 k, .int .i64 f, .int .i64 o, .int .i64 v, .int .i64 p, .int .i64 c, .int .i64 cl, .int .i64 se, .int .i64 rq, .int .i64 a, .int .i64 b, .int .u64 par] ∧ Below w.heap.size w w3 ∧ OwnB (w.heap.size + 1) w3 v3 L) := ⟨L', HLN', HL', H'⟩
  clear HLN' HL' H' L'
  have cc := H.out.1.2 8 _ rfl
  have hfit : rq < 256 ^ 8 := by rw [show (256 : Nat) ^ 8 = 18446744073709551616 from by decide]; have := HBD.out; omega
  have hw0 := wrap_u64_of rq (by have := HBD.out; omega)
  have HF := Lib.hid hfit
  clear hfit
  go_wp2_with fail
  refine (rputO _ L rq 8 _ H.out.2.2 (by have := HBD.out; omega) (by decide) (by decide) (Nat.div_eq_of_lt HF.out) (by rw [HLN.out]; decide)).mono ?_
  rintro e w3 ⟨v3, rfl, hO, hb⟩
  obtain ⟨L', hL⟩ : ∃ L', L' = L ++ leN rq 8 := ⟨_, rfl⟩
  rw [← hL] at hO
  have HLN' := Lib.hid (show L'.length = 68 by rw [hL, List.length_append, leN_length, HLN.out])
  have HL' := Lib.hid (show L' = [] ++ leN S 4 ++ leN k 1 ++ leN f 1 ++ leN o 1 ++ leN 0 1 ++ leN body.size 4 ++ leN par 8 ++ leN v 8 ++ leN p 8 ++ leN c 8 ++ leN cl 8 ++ leN se 8 ++ leN rq 8 by rw [hL, HL.out])
  have H' := Lib.hid (And.intro (H.out.1.below hb H.out.1.1) (And.intro (H.out.2.1.trans (hb.mono H.out.2.1.size)) (hO.mono (Nat.succ_le_of_lt H.out.1.1))))
  clear hL hb hO H HL HLN HF hw0 cc
  obtain ⟨L, HLN, HL, H⟩ : ∃ L : List Nat, Hid (L.length = 68) ∧ Hid (L = [] ++ leN S 4 ++ leN k 1 ++ leN f 1 ++ leN o 1 ++ leN 0 1 ++ leN body.size 4 ++ leN par 8 ++ leN v 8 ++ leN p 8 ++ leN c 8 ++ leN cl 8 ++ leN se 8 ++ leN rq 8) ∧ Hid (Row w3 w.heap.size #[.int .i64 k, .int .i64 f, .int .i64 o, .int .i64 v, .int .i64 p, .int .i64 c, .int .i64 cl, .int .i64 se, .int .i64 rq, .int .i64 a, .int .i64 b, .int .u64 par] ∧ Below w.heap.size w w3 ∧ OwnB (w.heap.size + 1) w3 v3 L) := ⟨L', HLN', HL', H'⟩
  clear HLN' HL' H' L'
  have cc := H.out.1.2 9 _ rfl
  have hfit : a < 256 ^ 8 := by rw [show (256 : Nat) ^ 8 = 18446744073709551616 from by decide]; have := HBD.out; omega
  have hw0 := wrap_u64_of a (by have := HBD.out; omega)
  have HF := Lib.hid hfit
  clear hfit
  go_wp2_with fail
  refine (rputO _ L a 8 _ H.out.2.2 (by have := HBD.out; omega) (by decide) (by decide) (Nat.div_eq_of_lt HF.out) (by rw [HLN.out]; decide)).mono ?_
  rintro e w3 ⟨v3, rfl, hO, hb⟩
  obtain ⟨L', hL⟩ : ∃ L', L' = L ++ leN a 8 := ⟨_, rfl⟩
  rw [← hL] at hO
  have HLN' := Lib.hid (show L'.length = 76 by rw [hL, List.length_append, leN_length, HLN.out])
  have HL' := Lib.hid (show L' = [] ++ leN S 4 ++ leN k 1 ++ leN f 1 ++ leN o 1 ++ leN 0 1 ++ leN body.size 4 ++ leN par 8 ++ leN v 8 ++ leN p 8 ++ leN c 8 ++ leN cl 8 ++ leN se 8 ++ leN rq 8 ++ leN a 8 by rw [hL, HL.out])
  have H' := Lib.hid (And.intro (H.out.1.below hb H.out.1.1) (And.intro (H.out.2.1.trans (hb.mono H.out.2.1.size)) (hO.mono (Nat.succ_le_of_lt H.out.1.1))))
  clear hL hb hO H HL HLN HF hw0 cc
  obtain ⟨L, HLN, HL, H⟩ : ∃ L : List Nat, Hid (L.length = 76) ∧ Hid (L = [] ++ leN S 4 ++ leN k 1 ++ leN f 1 ++ leN o 1 ++ leN 0 1 ++ leN body.size 4 ++ leN par 8 ++ leN v 8 ++ leN p 8 ++ leN c 8 ++ leN cl 8 ++ leN se 8 ++ leN rq 8 ++ leN a 8) ∧ Hid (Row w3 w.heap.size #[.int .i64 k, .int .i64 f, .int .i64 o, .int .i64 v, .int .i64 p, .int .i64 c, .int .i64 cl, .int .i64 se, .int .i64 rq, .int .i64 a, .int .i64 b, .int .u64 par] ∧ Below w.heap.size w w3 ∧ OwnB (w.heap.size + 1) w3 v3 L) := ⟨L', HLN', HL', H'⟩
  clear HLN' HL' H' L'
  have cc := H.out.1.2 10 _ rfl
  have hfit : b < 256 ^ 8 := by rw [show (256 : Nat) ^ 8 = 18446744073709551616 from by decide]; have := HBD.out; omega
  have hw0 := wrap_u64_of b (by have := HBD.out; omega)
  have HF := Lib.hid hfit
  clear hfit
  go_wp2_with fail
  refine (rputO _ L b 8 _ H.out.2.2 (by have := HBD.out; omega) (by decide) (by decide) (Nat.div_eq_of_lt HF.out) (by rw [HLN.out]; decide)).mono ?_
  rintro e w3 ⟨v3, rfl, hO, hb⟩
  obtain ⟨L', hL⟩ : ∃ L', L' = L ++ leN b 8 := ⟨_, rfl⟩
  rw [← hL] at hO
  have HLN' := Lib.hid (show L'.length = 84 by rw [hL, List.length_append, leN_length, HLN.out])
  have HL' := Lib.hid (show L' = [] ++ leN S 4 ++ leN k 1 ++ leN f 1 ++ leN o 1 ++ leN 0 1 ++ leN body.size 4 ++ leN par 8 ++ leN v 8 ++ leN p 8 ++ leN c 8 ++ leN cl 8 ++ leN se 8 ++ leN rq 8 ++ leN a 8 ++ leN b 8 by rw [hL, HL.out])
  have H' := Lib.hid (And.intro (H.out.1.below hb H.out.1.1) (And.intro (H.out.2.1.trans (hb.mono H.out.2.1.size)) (hO.mono (Nat.succ_le_of_lt H.out.1.1))))
  clear hL hb hO H HL HLN HF hw0 cc
  obtain ⟨L, HLN, HL, H⟩ : ∃ L : List Nat, Hid (L.length = 84) ∧ Hid (L = [] ++ leN S 4 ++ leN k 1 ++ leN f 1 ++ leN o 1 ++ leN 0 1 ++ leN body.size 4 ++ leN par 8 ++ leN v 8 ++ leN p 8 ++ leN c 8 ++ leN cl 8 ++ leN se 8 ++ leN rq 8 ++ leN a 8 ++ leN b 8) ∧ Hid (Row w3 w.heap.size #[.int .i64 k, .int .i64 f, .int .i64 o, .int .i64 v, .int .i64 p, .int .i64 c, .int .i64 cl, .int .i64 se, .int .i64 rq, .int .i64 a, .int .i64 b, .int .u64 par] ∧ Below w.heap.size w w3 ∧ OwnB (w.heap.size + 1) w3 v3 L) := ⟨L', HLN', HL', H'⟩
  clear HLN' HL' H' L'
  go_wp2_with fail
  go_loopw [6] (fun bv wr => ∃ n : Nat, n ≤ 40 ∧ Hid (w.heap.size < wr.heap.size ∧ Below w.heap.size w wr ∧ OwnB (w.heap.size + 1) wr bv (L ++ List.replicate n 0)) ∧ ∃ q cq, bv = .slice q ((84 + n : Nat) : Int).toNat cq) (fun bv _ => match bv with | .slice _ n _ => 124 - n | _ => 0)
  case atStart =>
    obtain ⟨q, cq, hv, _⟩ := H.out.2.2.slice'
    exact ⟨0, by omega, Lib.hid ⟨H.out.1.1, H.out.2.1, by simpa using H.out.2.2⟩, q, cq, by rw [hv, HLN.out]; rfl⟩
  case round =>
    obtain ⟨n, hn, HR, q, cq, rfl⟩ := hrel
    clear H
    rw [Int.toNat_natCast] at HR ⊢
    have HLZ := Lib.hid (show (L ++ List.replicate n 0).length = 84 + n by rw [List.length_append, HLN.out, List.length_replicate])
    have HLY := Lib.hid (show (L ++ List.replicate (n + 1) 0).length = 84 + (n + 1) by rw [List.length_append, HLN.out, List.length_replicate])
    by_cases hlt : n < 40
    · have hlt' : ((84 : Int) + n) < 124 := by omega
      go_wp2_with (with_reducible refine app1 rfl _ _ rfl _ _ rfl HR.out.2.2 _ 0 ?hc ?hd rfl ?he (Below.refl _ _) ?hg ?_)
      case hc => rfl
      case hd => decide
      case he => rw [HLZ.out]; omega
      case hg => exact HR.out.1
      intro v4 w4 hO4 hb4
      have hO4 : OwnB (w.heap.size + 1) w4 v4 (L ++ List.replicate (n + 1) 0) := by rw [List.replicate_succ']; first | exact hO4 | (rw [← List.append_assoc]; exact hO4)
      obtain ⟨q4, cq4, hv, _⟩ := hO4.slice'
      rw [HLY.out] at hv
      subst hv
      have HR4 := Lib.hid (And.intro (Nat.lt_of_lt_of_le HR.out.1 hb4.size) (And.intro (HR.out.2.1.trans (hb4.mono (Nat.le_succ _))) hO4))
      clear hO4 hb4 HR HLZ HLY
      go_wp2_with fail
      go_roundw
      case rel => exact ⟨n + 1, by omega, HR4, q4, cq4, by simp; omega⟩
      case measure => simp; omega
    · obtain rfl : n = 40 := by omega
      have hlt' : ¬ ((84 : Int) + 40) < 124 := by omega
      obtain ⟨L9, hL9⟩ : ∃ L9, L9 = L ++ List.replicate 40 0 := ⟨_, rfl⟩
      have HR' := HR.out
      rw [← hL9] at HR'
      have hL9n : L9.length = 124 := by rw [hL9, List.length_append, HLN.out]; rfl
      have hH9 := HR'.2.2.holds
      have h8 := HR'.2.2.1
      have H9 := Lib.hid (And.intro hH9 (And.intro HR'.2.1 HR'.1))
      have h89 := Lib.hid h8
      have HL9 := Lib.hid hL9
      have HL9N := Lib.hid hL9n
      have rt := fun w' hb => run_text w' _ _ _ L9 (H9.out.1.later (w' := w') hb)
      have rt := rt (wr.alloc (.cells #[] 5)) ((Below.refl _ _).alloc (Nat.le_refl _) _)
      clear hL9 hL9n hH9 h8 HR' HR HLZ HLY
      go_wp2_with fail
      refine (refsum_all (text L9) _ (by rw [text_size, HL9N.out]; decide)).mono ?_
      rw [nats_text L9 h89.out]
      rintro e w10 ⟨rfl, rfl⟩
      have H10 := Lib.hid (And.intro (H9.out.1.later ((Below.refl _ _).alloc (Nat.le_refl _) (.cells #[] 5))) (H9.out.2.1.alloc H9.out.2.1.size (.cells #[] 5)))
      clear H9 rt
      have hlt9 := add_lt 0 L9
      obtain ⟨S9, hS9⟩ : ∃ S9, Crc.add 0 L9 = S9 := ⟨_, rfl⟩
      rw [hS9] at hlt9 ⊢
      have HS9 := Lib.hid hS9
      clear hS9
      have hw9 := wrap_u64_of S9 (by omega)
      go_wp2_with fail
      refine (rput _ 0 [] S9 4 _ (holds_zero _ _ _) (by omega) (by decide) (by decide) (Nat.div_eq_of_lt hlt9) (by decide)).mono ?_
      rintro e w11 ⟨v11, rfl, hf11, hb11⟩
      obtain ⟨M, hM⟩ : ∃ M, M = [] ++ leN S9 4 := ⟨_, rfl⟩
      rw [← hM] at hf11
      have hMn : M.length = 4 := by rw [hM]; simp [leN_length]
      have hH11 := hf11.holds
      obtain ⟨q11, cq11, hv, _⟩ := hf11.slice'
      rw [hMn] at hv
      subst hv
      have r9 := run_text w11 _ _ _ L9 (H10.out.1.later hb11)
      have r11 := run_text w11 _ _ _ M hH11
      have H11 := Lib.hid (H10.out.2.trans (hb11.mono H10.out.2.size))
      have HM := Lib.hid hM
      have z1 : (text M).size = 4 := by rw [text_size, hMn]
      have z2 : (text L9).size = 124 := by rw [text_size, HL9N.out]
      have z3 : (text M ++ text L9).size = 128 := by rw [ByteArray.size_append, z1, z2]
      clear hM hMn hH11 hf11 hb11 H10
      go_wp2_with fail
      have hfin : packL k f o [v, p, c, cl, se, rq, a, b] par (nats body) = M ++ L9 ++ nats body := by
        have e9 : packIn k f o [v, p, c, cl, se, rq, a, b] par (nats body) = L9 := by
          have hbd := HBD.out
          unfold packIn
          rw [HL9.out, HL.out, HS.out, nats_length, List.nil_append, leN_one k (by omega), leN_one f (by omega), leN_one o (by omega), leN_one 0 (by omega)]
          simp [List.append_assoc]
        unfold packL
        rw [e9, HS9.out, HM.out, List.nil_append]
      rw [hfin, text_append, text_append, text_nats]
      go_ret2
      exact ⟨rfl, H11.out⟩
end Go.Proofs.Ytmebodjofcomlaa

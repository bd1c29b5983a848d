/- What unpacking a header's bytes comes to; no turned byte, no byte more or less, is a header's. No program in sight. head.Unpack: bytes that are a header's, or none's. The reference's header: may it be; a number behind bytes. The reference's Pack. Unpack at any bytes; the reference's Pack at any header; the walk of HeadPacks. -/
import Derived.Test.YtpbjjmenkoigjaaDoorMgLawChooseTurnsAA
import Derived.Deep.RegionHeld3
section
namespace Go.Proofs.YtpbjjmenkoigjaaDoor
open Go.RowKit
theorem wrap_u64_of (n : Nat) (h : n < 18446744073709551616) : IntKind.u64.wrap (n : Int) = (n : Int) := by rw [wrap_u64_nat, Nat.mod_eq_of_lt h]
theorem wrap_u8_of (n : Nat) (h : n < 256) : IntKind.u8.wrap (n : Int) = (n : Int) := by
  simp [IntKind.wrap, IntKind.bits, IntKind.signed]; omega
theorem holds_four (w : World) (a b c : Nat) (ha : a < 256) (hb : b < 256) (hc : c < 256) : Holds (w.alloc (.cells #[.int .u8 a, .int .u8 b, .int .u8 c, .int .u8 0] 5)) (.slice (some ⟨w.heap.size, 0, none⟩) 4 4) [a, b, c, 0] := by
  have e : (cells8 [a, b, c, 0]).toArray = #[.int .u8 a, .int .u8 b, .int .u8 c, .int .u8 0] := by simp [cells8]
  have h := heap_alloc_new w (.cells (cells8 [a, b, c, 0]).toArray 5)
  rw [e] at h
  exact (OwnB.of_block (B := 0) (l := [a, b, c, 0]) (fun x hx => by simp at hx; omega) (Nat.zero_le _) (by rw [e]; exact h) (by show 4 ≤ maxLen; decide)).holds
theorem put_mine {B : Nat} (v : Value) (L : List Nat) (n size : Nat) (w : World) (hM : Mine B w v L) (hn : n < 18446744073709551616) (hs : 1 ≤ size) (hs8 : size ≤ 8) (hfit : size = 8 ∨ n / 256 ^ size = 0) (hlen : L.length + 8 ≤ 140737488355328) :
    Calls Tryd.prog 61 #[v, .int .u64 n, .int .i64 size] w fun e w' => ∃ v', e = .returned (.tuple #[v', .int .i64 0]) ∧ Mine w.heap.size w' v' (L ++ leN n size) ∧ Below w.heap.size w w' := by
  have hh := hM.holds
  obtain ⟨_, g, cap, rfl, _⟩ := hM
  refine (put_ok _ cap L n size w hh hn hs hs8 hfit hlen).mono fun e w' ⟨v', he, hf, hb⟩ => ⟨v', he, hf.mine (by rw [List.length_append, leN_length]; omega), hb⟩
theorem text_append (l m : List Nat) : text (l ++ m) = text l ++ text m := by
  apply ByteArray.ext
  simp [text]
set_option maxRecDepth 100000 in
set_option maxHeartbeats 4000000 in
theorem pack_ok (k f o v p c cl se rq a b : Nat) (par : Nat) (body : ByteArray) (w : World) (h : headB k f o v p c cl se rq a b = true) (hl : body.size ≤ 3968) (hpar : par < 18446744073709551616) :
    Calls Tryd.prog 47 #[.agg #[.int .i64 k, .int .i64 f, .int .i64 o, .int .i64 v, .int .i64 p, .int .i64 c, .int .i64 cl, .int .i64 se, .int .i64 rq, .int .i64 a, .int .i64 b, .int .u64 par], .string body] w fun e w' =>
      e = .returned (.tuple #[.string (text (packL k f o [v, p, c, cl, se, rq, a, b] par (nats body))), .int .i64 0]) ∧ Below w.heap.size w w' := by
  have hr := fun w => right_any k f o v p c cl se rq a b par w
  have hbd := of_decide_eq_true h
  rw [h] at hr
  have HR := Lib.hid hr
  clear hr h
  have HB0 := Lib.hid ((Below.refl w.heap.size w).alloc (Nat.le_refl _) (.cells #[.int .i64 k, .int .i64 f, .int .i64 o, .int .i64 v, .int .i64 p, .int .i64 c, .int .i64 cl, .int .i64 se, .int .i64 rq, .int .i64 a, .int .i64 b, .int .u64 par] 75))
  have HROW := Lib.hid (Row.new w #[.int .i64 k, .int .i64 f, .int .i64 o, .int .i64 v, .int .i64 p, .int .i64 c, .int .i64 cl, .int .i64 se, .int .i64 rq, .int .i64 a, .int .i64 b, .int .u64 par] 75 _ rfl)
  have hl' : ¬ (3968 : Int) < body.size := by omega
  have HBD := Lib.hid hbd
  clear hbd
  go_enter Tryd.func47, Tryd.ntmps47
  go_wp2_with fail
  refine (HR.out _).mono ?_
  rintro e w1 ⟨rfl, hb1⟩
  have H1 := Lib.hid (And.intro (HROW.out.below hb1 HROW.out.1) (HB0.out.trans (hb1.mono HB0.out.size)))
  clear hb1 HB0 HROW
  go_wp2_with fail
  refine (sum_all body _ (by unfold maxLen; omega)).mono ?_
  rintro e w2 ⟨rfl, hb2⟩
  have H2 := Lib.hid (And.intro (H1.out.1.below hb2 H1.out.1.1) (H1.out.2.trans (hb2.mono H1.out.2.size)))
  clear hb2 H1
  have hlt := add_lt 0 (nats body)
  obtain ⟨S, hS⟩ : ∃ S, Crc.add 0 (nats body) = S := ⟨_, rfl⟩
  rw [hS] at hlt ⊢
  have HS := Lib.hid hS
  clear hS
  have hw0 := wrap_u64_of S (by omega)
  go_wp2_with fail
  refine (put_ok none 0 [] S 4 _ (Holds.nil _) (by omega) (by decide) (by decide) (.inr (Nat.div_eq_of_lt hlt)) (by decide)).mono ?_
  rintro e w3 ⟨v3, rfl, hf3, hb3⟩
  have hM3 := hf3.mine (by rw [List.nil_append, leN_length]; decide)
  have H3 := Lib.hid (And.intro (H2.out.1.below hb3 H2.out.1.1) (And.intro (H2.out.2.trans (hb3.mono H2.out.2.size)) (hM3.mono (Nat.succ_le_of_lt H2.out.1.1))))
  clear hb3 H2 hf3 hM3
  have c0 := H3.out.1.2 0 _ rfl; have c1 := H3.out.1.2 1 _ rfl; have c2 := H3.out.1.2 2 _ rfl
  have k0 := wrap_u8_of k (by have := HBD.out; omega); have k1 := wrap_u8_of f (by have := HBD.out; omega); have k2 := wrap_u8_of o (by have := HBD.out; omega)
  have HT := Lib.hid (holds_four w3 k f o (by have := HBD.out; omega) (by have := HBD.out; omega) (by have := HBD.out; omega))
  have HL4 : Hid (([] ++ leN S 4 : List Nat).length + [k, f, o, 0].length ≤ 140737488355328) := by show ([] ++ leN S 4 : List Nat).length + [k, f, o, 0].length ≤ 140737488355328; simp [leN_length]
  have HB4 := Lib.hid (show w.heap.size + 1 ≤ (w3.alloc (.cells #[.int .u8 k, .int .u8 f, .int .u8 o, .int .u8 0] 5)).heap.size from by have := H3.out.1.1; simp; omega)
  go_wp2_with (at_builtin; refine appM rfl _ _ rfl v3 ([] ++ leN S 4) rfl (H3.out.2.2.later ((Below.refl _ _).alloc (Nat.le_refl _) _)) ⟨w3.heap.size, 0, none⟩ 4 4 [k, f, o, 0] rfl HT.out HL4.out (Below.refl _ _) HB4.out ?_; intro v4 w4 hM4 hb4)
  have H4 := Lib.hid (And.intro ((H3.out.1.alloc _).below hb4 (Nat.lt_succ_self _)) (And.intro ((H3.out.2.1.alloc H3.out.2.1.size _).trans (hb4.mono (Nat.le_succ _))) hM4))
  clear hb4 hM4 H3 HT HL4 HB4 c0 c1 c2 k0 k1 k2
  refine (put_mine v4 _ body.size 4 _ H4.out.2.2 (by omega) (by decide) (by decide) (.inr (Nat.div_eq_of_lt (by omega))) (by simp [leN_length])).mono ?_
  rintro e w5 ⟨v5, rfl, hM5, hb5⟩
  have H5 := Lib.hid (And.intro (H4.out.1.below hb5 H4.out.1.1) (And.intro (H4.out.2.1.trans (hb5.mono H4.out.2.1.size)) (hM5.mono (Nat.succ_le_of_lt H4.out.1.1))))
  clear hb5 hM5 H4
  have c11 := H5.out.1.2 11 _ rfl
  go_wp2_with fail
  refine (put_mine v5 _ par 8 _ H5.out.2.2 hpar (by decide) (by decide) (.inl rfl) (by simp [leN_length])).mono ?_
  rintro e w6 ⟨v6, rfl, hM6, hb6⟩
  have H6 := Lib.hid (And.intro (H5.out.1.below hb6 H5.out.1.1) (And.intro (H5.out.2.1.trans (hb6.mono H5.out.2.1.size)) (hM6.mono (Nat.succ_le_of_lt H5.out.1.1))))
  clear hb6 hM6 H5 c11
  go_wp2_with fail
  refine (numbers_any _ _).mono ?_
  rintro e w7 ⟨rfl, hb7⟩
  have H7 := Lib.hid (And.intro (H6.out.1.below hb7 H6.out.1.1) (And.intro (H6.out.2.1.trans (hb7.mono H6.out.2.1.size)) (H6.out.2.2.later hb7)))
  clear hb7 H6
  obtain ⟨L0, hL0⟩ : ∃ L0, L0 = [] ++ leN S 4 ++ [k, f, o, 0] ++ leN body.size 4 ++ leN par 8 := ⟨_, rfl⟩
  rw [← hL0] at H7
  have hL0n : L0.length = 20 := by rw [hL0]; simp [leN_length]
  have HL0 := Lib.hid hL0
  have HL0N := Lib.hid hL0n
  clear hL0 hL0n
  go_wp2_with fail
  go_loopw [6, 55] (fun bv i wr => ∃ n : Nat, n ≤ 8 ∧ i = .int .i64 n ∧ Hid (Row wr w.heap.size #[.int .i64 k, .int .i64 f, .int .i64 o, .int .i64 v, .int .i64 p, .int .i64 c, .int .i64 cl, .int .i64 se, .int .i64 rq, .int .i64 a, .int .i64 b, .int .u64 par] ∧ Below w.heap.size w wr ∧
      Mine (w.heap.size + 1) wr bv (L0 ++ ([v, p, c, cl, se, rq, a, b].take n).flatMap (leN · 8)))) (fun _ i _ => 8 - (intOf i).toNat)
  case atStart => exact ⟨0, by omega, rfl, Lib.hid (by simpa using H7.out)⟩
  case round =>
    clear H7
    obtain ⟨n, hn, rfl, H⟩ := hrel
    by_cases hlt : n < 8
    · obtain ⟨x, hx, ik, cx, hns⟩ : ∃ x : Nat, x ≤ 72057594037927935 ∧ (∀ w2, (Instr.index 87 (.agg #[.pointer (some ⟨w.heap.size, 3, none⟩), .pointer (some ⟨w.heap.size, 4, none⟩), .pointer (some ⟨w.heap.size, 5, none⟩), .pointer (some ⟨w.heap.size, 6, none⟩), .pointer (some ⟨w.heap.size, 7, none⟩), .pointer (some ⟨w.heap.size, 8, none⟩), .pointer (some ⟨w.heap.size, 9, none⟩), .pointer (some ⟨w.heap.size, 10, none⟩)]) (.int .i64 n)).run Tryd.prog w2 = .ok (.pointer (some ⟨w.heap.size, 3 + n, none⟩)) w2) ∧
          wr.cell? ⟨w.heap.size, 3 + n, none⟩ = some (.int .i64 x) ∧ [v, p, c, cl, se, rq, a, b].take (n + 1) = [v, p, c, cl, se, rq, a, b].take n ++ [x] := by
        have hbd := HBD.out
        rcases (show n = 0 ∨ n = 1 ∨ n = 2 ∨ n = 3 ∨ n = 4 ∨ n = 5 ∨ n = 6 ∨ n = 7 from by omega) with rfl | rfl | rfl | rfl | rfl | rfl | rfl | rfl
        · exact ⟨v, by omega, fun _ => by kernel_rfl, H.out.1.2 3 _ rfl, rfl⟩
        · exact ⟨p, by omega, fun _ => by kernel_rfl, H.out.1.2 4 _ rfl, rfl⟩
        · exact ⟨c, by omega, fun _ => by kernel_rfl, H.out.1.2 5 _ rfl, rfl⟩
        · exact ⟨cl, by omega, fun _ => by kernel_rfl, H.out.1.2 6 _ rfl, rfl⟩
        · exact ⟨se, by omega, fun _ => by kernel_rfl, H.out.1.2 7 _ rfl, rfl⟩
        · exact ⟨rq, by omega, fun _ => by kernel_rfl, H.out.1.2 8 _ rfl, rfl⟩
        · exact ⟨a, by omega, fun _ => by kernel_rfl, H.out.1.2 9 _ rfl, rfl⟩
        · exact ⟨b, by omega, fun _ => by kernel_rfl, H.out.1.2 10 _ rfl, rfl⟩
      have HNS := Lib.hid hns
      clear hns
      have hw1 := wrap_u64_of x (by omega)
      obtain ⟨L, hL⟩ : ∃ L, L = L0 ++ ([v, p, c, cl, se, rq, a, b].take n).flatMap (leN · 8) := ⟨_, rfl⟩
      have hLn : L.length ≤ 140737488355320 := by
        rw [hL, List.length_append, List.length_flatMap, HL0N.out]
        have : (List.map (fun m => (leN m 8).length) ([v, p, c, cl, se, rq, a, b].take n)).sum ≤ 64 := by
          rcases (show n = 0 ∨ n = 1 ∨ n = 2 ∨ n = 3 ∨ n = 4 ∨ n = 5 ∨ n = 6 ∨ n = 7 from by omega) with rfl | rfl | rfl | rfl | rfl | rfl | rfl | rfl <;> simp [leN_length]
        omega
      have HL := Lib.hid hL
      have HLN := Lib.hid hLn
      rw [← hL] at H
      clear hL hLn
      go_wp2_with fail
      refine (put_mine _ L x 8 _ H.out.2.2 (by omega) (by decide) (by decide) (.inl rfl) (by have := HLN.out; omega)).mono ?_
      rintro e w8 ⟨v8, rfl, hM8, hb8⟩
      have H8 := Lib.hid (And.intro (H.out.1.below hb8 H.out.1.1) (And.intro (H.out.2.1.trans (hb8.mono H.out.2.1.size)) (hM8.mono (Nat.succ_le_of_lt H.out.1.1))))
      clear hb8 hM8 H cx
      go_wp2_with fail
      go_roundw
      case rel =>
        refine ⟨n + 1, by omega, by go_num, Lib.hid ?_⟩
        rw [HNS.out, List.flatMap_append, ← List.append_assoc, ← HL.out]
        simpa using H8.out
      case measure => simp [intOf]; omega
    · obtain rfl : n = 8 := by omega
      obtain ⟨L, hL⟩ : ∃ L, L = L0 ++ [v, p, c, cl, se, rq, a, b].flatMap (leN · 8) := ⟨_, rfl⟩
      have H' := H.out
      rw [show [v, p, c, cl, se, rq, a, b].take 8 = [v, p, c, cl, se, rq, a, b] from rfl, ← hL] at H'
      have hLn : L.length = 84 := by rw [hL, List.length_append, HL0N.out]; simp [leN_length]
      obtain ⟨hR, hBel, hM⟩ := H'
      obtain ⟨h8, g, cap, hv, hrest⟩ := hM
      rw [hLn] at hv
      subst hv
      have hM : Mine (w.heap.size + 1) wr (.slice (some ⟨g, 0, none⟩) 84 cap) L := ⟨h8, g, cap, by rw [hLn], hrest⟩
      clear h8 hrest
      have HL := Lib.hid hL
      have HLN := Lib.hid hLn
      have HM := Lib.hid hM
      have HBel := Lib.hid hBel
      have HSZ := Lib.hid hR.1
      clear hL hLn hM hBel H hR
      have HL4 : Hid (L.length + 40 ≤ 140737488355328) := Lib.hid (by rw [HLN.out]; decide)
      go_wp2_with (at_builtin; refine appZ rfl _ _ rfl _ L rfl HM.out .i64 40 rfl HL4.out (Below.refl _ _) HSZ.out ?_)
      intro v9 w9 hM9 hb9
      obtain ⟨L9, hL9⟩ : ∃ L9, L9 = L ++ List.replicate 40 0 := ⟨_, rfl⟩
      have hM9 : Mine (w.heap.size + 1) w9 v9 (L ++ List.replicate 40 0) := hM9
      rw [← hL9] at hM9
      have hL9n : L9.length = 124 := by rw [hL9, List.length_append, HLN.out]; rfl
      have hH9 := hM9.holds
      obtain ⟨h8, g9, cap9, hv, hrest⟩ := hM9
      rw [hL9n] at hv
      subst hv
      have H9 := Lib.hid (And.intro hH9 (HBel.out.trans (hb9.mono (Nat.le_succ _))))
      have h89 := Lib.hid h8
      have HL9 := Lib.hid hL9
      have HL9N := Lib.hid hL9n
      have rt := run_text w9 _ _ _ L9 H9.out.1
      clear hL9 hL9n hH9 h8 hrest hb9 HM HBel HSZ HL4
      go_wp2_with fail
      refine (sum_all (text L9) _ (by rw [text_size, HL9N.out]; decide)).mono ?_
      rw [nats_text L9 h89.out]
      rintro e w10 ⟨rfl, hb10⟩
      have H10 := Lib.hid (And.intro (H9.out.1.later hb10) (H9.out.2.trans (hb10.mono H9.out.2.size)))
      clear hb10 H9 rt
      have hlt9 := add_lt 0 L9
      obtain ⟨S9, hS9⟩ : ∃ S9, Crc.add 0 L9 = S9 := ⟨_, rfl⟩
      rw [hS9] at hlt9 ⊢
      have HS9 := Lib.hid hS9
      clear hS9
      have hw9 := wrap_u64_of S9 (by omega)
      go_wp2_with fail
      refine (put_ok none 0 [] S9 4 _ (Holds.nil _) (by omega) (by decide) (by decide) (.inr (Nat.div_eq_of_lt hlt9)) (by decide)).mono ?_
      rintro e w11 ⟨v11, rfl, hf11, hb11⟩
      obtain ⟨M, hM⟩ : ∃ M, M = [] ++ leN S9 4 := ⟨_, rfl⟩
      rw [← hM] at hf11
      have hMn : M.length = 4 := by rw [hM]; simp [leN_length]
      have hH11 := hf11.holds
      obtain ⟨h8, p11, cap11, hv, hrest⟩ := hH11
      rw [u8s_length, hMn] at hv
      subst hv
      have hH11 : Holds w11 (.slice p11 4 cap11) M := ⟨h8, p11, cap11, by rw [u8s_length, hMn], hrest⟩
      have r9 := run_text w11 _ _ _ L9 (H10.out.1.later hb11)
      have r11 := run_text w11 _ _ _ M hH11
      have H11 := Lib.hid (H10.out.2.trans (hb11.mono H10.out.2.size))
      have HM := Lib.hid hM
      have z1 : (text M).size = 4 := by rw [text_size, hMn]
      have z2 : (text L9).size = 124 := by rw [text_size, HL9N.out]
      have z3 : (text M ++ text L9).size = 128 := by rw [ByteArray.size_append, z1, z2]
      clear hM hMn hrest h8 hH11 hf11 hb11 H10
      go_wp2_with fail
      have hfin : packL k f o [v, p, c, cl, se, rq, a, b] par (nats body) = M ++ L9 ++ nats body := by
        have e9 : packIn k f o [v, p, c, cl, se, rq, a, b] par (nats body) = L9 := by
          unfold packIn
          rw [HL9.out, HL.out, HL0.out, HS.out, nats_length, List.nil_append]
        unfold packL
        rw [e9, HS9.out, HM.out, List.nil_append]
      rw [hfin, text_append, text_append, text_nats]
      go_ret2
      exact ⟨rfl, H11.out⟩
end Go.Proofs.YtpbjjmenkoigjaaDoor
end

section
namespace Go.Proofs.YtpbjjmenkoigjaaDoor
open Go.RowKit
theorem leN_inj {n m size : Nat} (hn : n < 256 ^ size) (hm : m < 256 ^ size) (h : leN n size = leN m size) : n = m := by
  have e := congrArg valN h
  rw [valN_leN, valN_leN, Nat.mod_eq_of_lt hn, Nat.mod_eq_of_lt hm] at e
  exact e
theorem packIn_length (k f o v p c cl se rq a b par : Nat) (body : List Nat) : (packIn k f o [v, p, c, cl, se, rq, a, b] par body).length = 124 := by
  simp [packIn, leN_length]
theorem packL_length (k f o v p c cl se rq a b par : Nat) (body : List Nat) : (packL k f o [v, p, c, cl, se, rq, a, b] par body).length = 128 + body.length := by
  unfold packL
  rw [List.length_append, List.length_append, leN_length, packIn_length]
theorem lt8 {n : Nat} (h : n < 18446744073709551616) : n < 256 ^ 8 := by
  have e : (256 : Nat) ^ 8 = 18446744073709551616 := by decide
  rw [e]; exact h
theorem packIn_inj {k f o v p c cl se rq a b par k' f' o' v' p' c' cl' se' rq' a' b' par' : Nat} {body body' : List Nat}
    (hs : v < 18446744073709551616 ∧ p < 18446744073709551616 ∧ c < 18446744073709551616 ∧ cl < 18446744073709551616 ∧ se < 18446744073709551616 ∧ rq < 18446744073709551616 ∧ a < 18446744073709551616 ∧ b < 18446744073709551616 ∧ par < 18446744073709551616)
    (hs' : v' < 18446744073709551616 ∧ p' < 18446744073709551616 ∧ c' < 18446744073709551616 ∧ cl' < 18446744073709551616 ∧ se' < 18446744073709551616 ∧ rq' < 18446744073709551616 ∧ a' < 18446744073709551616 ∧ b' < 18446744073709551616 ∧ par' < 18446744073709551616)
    (h : packIn k f o [v, p, c, cl, se, rq, a, b] par body = packIn k' f' o' [v', p', c', cl', se', rq', a', b'] par' body') :
    k = k' ∧ f = f' ∧ o = o' ∧ v = v' ∧ p = p' ∧ c = c' ∧ cl = cl' ∧ se = se' ∧ rq = rq' ∧ a = a' ∧ b = b' ∧ par = par' := by
  unfold packIn at h
  simp only [List.append_assoc, List.flatMap_cons, List.flatMap_nil, List.nil_append, List.cons_append] at h
  have h1 := (List.append_inj h (by rw [leN_length, leN_length])).2
  injection h1 with e1 h1
  injection h1 with e2 h1
  injection h1 with e3 h1
  injection h1 with _ h1
  have h2 := (List.append_inj h1 (by rw [leN_length, leN_length])).2
  obtain ⟨p1, h3⟩ := List.append_inj h2 (by rw [leN_length, leN_length])
  obtain ⟨p2, h4⟩ := List.append_inj h3 (by rw [leN_length, leN_length])
  obtain ⟨p3, h5⟩ := List.append_inj h4 (by rw [leN_length, leN_length])
  obtain ⟨p4, h6⟩ := List.append_inj h5 (by rw [leN_length, leN_length])
  obtain ⟨p5, h7⟩ := List.append_inj h6 (by rw [leN_length, leN_length])
  obtain ⟨p6, h8⟩ := List.append_inj h7 (by rw [leN_length, leN_length])
  obtain ⟨p7, h9⟩ := List.append_inj h8 (by rw [leN_length, leN_length])
  obtain ⟨p8, h10⟩ := List.append_inj h9 (by rw [leN_length, leN_length])
  obtain ⟨p9, _⟩ := List.append_inj h10 (by rw [leN_length, leN_length])
  obtain ⟨s1, s2, s3, s4, s5, s6, s7, s8, s9⟩ := hs
  obtain ⟨t1, t2, t3, t4, t5, t6, t7, t8, t9⟩ := hs'
  exact ⟨e1, e2, e3, leN_inj (lt8 s1) (lt8 t1) p2, leN_inj (lt8 s2) (lt8 t2) p3, leN_inj (lt8 s3) (lt8 t3) p4, leN_inj (lt8 s4) (lt8 t4) p5, leN_inj (lt8 s5) (lt8 t5) p6, leN_inj (lt8 s6) (lt8 t6) p7, leN_inj (lt8 s7) (lt8 t7) p8, leN_inj (lt8 s8) (lt8 t8) p9, leN_inj (lt8 s9) (lt8 t9) p1⟩
theorem packL_inj {k f o v p c cl se rq a b par k' f' o' v' p' c' cl' se' rq' a' b' par' : Nat} {body body' : List Nat}
    (h : packL k f o [v, p, c, cl, se, rq, a, b] par body = packL k' f' o' [v', p', c', cl', se', rq', a', b'] par' body') :
    packIn k f o [v, p, c, cl, se, rq, a, b] par body = packIn k' f' o' [v', p', c', cl', se', rq', a', b'] par' body' ∧ body = body' := by
  unfold packL at h
  obtain ⟨h1, h2⟩ := List.append_inj h (by rw [List.length_append, List.length_append, leN_length, leN_length, packIn_length, packIn_length])
  exact ⟨(List.append_inj h1 (by rw [leN_length, leN_length])).2, h2⟩
theorem packIn_lt {k f o : Nat} (hk : k < 256) (hf : f < 256) (ho : o < 256) (ns : List Nat) (par : Nat) (body : List Nat) : ∀ x ∈ packIn k f o ns par body, x < 256 := by
  intro x hx
  unfold packIn at hx
  simp only [List.mem_append] at hx
  rcases hx with ((((h | h) | h) | h) | h) | h
  · exact leN_lt _ _ x h
  · simp at h; omega
  · exact leN_lt _ _ x h
  · exact leN_lt _ _ x h
  · obtain ⟨n, _, h⟩ := List.mem_flatMap.1 h
    exact leN_lt _ _ x h
  · rw [(List.mem_replicate.1 h).2]; decide
theorem packL_lt {k f o : Nat} (hk : k < 256) (hf : f < 256) (ho : o < 256) (ns : List Nat) (par : Nat) (body : List Nat) (hb : ∀ x ∈ body, x < 256) : ∀ x ∈ packL k f o ns par body, x < 256 := by
  intro x hx
  unfold packL at hx
  simp only [List.mem_append] at hx
  rcases hx with (h | h) | h
  · exact leN_lt _ _ x h
  · exact packIn_lt hk hf ho ns par body x h
  · exact hb x h
/-- A header's numbers that may be are natural ones. -/
theorem headB_nat {k f o v p c cl se rq a b : Int} (h : headB k f o v p c cl se rq a b = true) : ∃ k' f' o' v' p' c' cl' se' rq' a' b' : Nat, k = k' ∧ f = f' ∧ o = o' ∧ v = v' ∧ p = p' ∧ c = c' ∧ cl = cl' ∧ se = se' ∧ rq = rq' ∧ a = a' ∧ b = b' := by
  have h := of_decide_eq_true h
  exact ⟨k.toNat, f.toNat, o.toNat, v.toNat, p.toNat, c.toNat, cl.toNat, se.toNat, rq.toNat, a.toNat, b.toNat, by omega, by omega, by omega, by omega, by omega, by omega, by omega, by omega, by omega, by omega, by omega⟩
/-- What packing gives: the bytes, and the error's number. -/
def packS (k f o v p c cl se rq a b par : Int) (body : ByteArray) : ByteArray :=
  if headB k f o v p c cl se rq a b = true ∧ body.size ≤ 3968 then text (packL k.toNat f.toNat o.toNat [v.toNat, p.toNat, c.toNat, cl.toNat, se.toNat, rq.toNat, a.toNat, b.toNat] par.toNat (nats body)) else ⟨#[]⟩
def packE (k f o v p c cl se rq a b : Int) (body : ByteArray) : Int := if headB k f o v p c cl se rq a b = true then (if body.size ≤ 3968 then 0 else 5) else 4
theorem pack_any (k f o v p c cl se rq a b par : Int) (body : ByteArray) (hpar : 0 ≤ par ∧ par ≤ 18446744073709551615) (w : World) :
    Calls Tryd.prog 47 #[.agg #[.int .i64 k, .int .i64 f, .int .i64 o, .int .i64 v, .int .i64 p, .int .i64 c, .int .i64 cl, .int .i64 se, .int .i64 rq, .int .i64 a, .int .i64 b, .int .u64 par], .string body] w fun e w' =>
      e = .returned (.tuple #[.string (packS k f o v p c cl se rq a b par body), .int .i64 (packE k f o v p c cl se rq a b body)]) ∧ Below w.heap.size w w' := by
  cases hh : headB k f o v p c cl se rq a b
  · have e1 : packS k f o v p c cl se rq a b par body = ⟨#[]⟩ := if_neg (by rw [hh]; simp)
    have e2 : packE k f o v p c cl se rq a b body = 4 := if_neg (by rw [hh]; simp)
    rw [e1, e2]
    exact pack_form _ _ _ _ _ _ _ _ _ _ _ _ _ _ hh
  · by_cases hl : body.size ≤ 3968
    · have e1 : packS k f o v p c cl se rq a b par body = text (packL k.toNat f.toNat o.toNat [v.toNat, p.toNat, c.toNat, cl.toNat, se.toNat, rq.toNat, a.toNat, b.toNat] par.toNat (nats body)) := if_pos ⟨hh, hl⟩
      have e2 : packE k f o v p c cl se rq a b body = 0 := by unfold packE; rw [if_pos hh, if_pos hl]
      rw [e1, e2]
      obtain ⟨k', f', o', v', p', c', cl', se', rq', a', b', rfl, rfl, rfl, rfl, rfl, rfl, rfl, rfl, rfl, rfl, rfl⟩ := headB_nat hh
      obtain ⟨par', rfl⟩ : ∃ n : Nat, par = n := ⟨par.toNat, by omega⟩
      simp only [Int.toNat_natCast]
      exact pack_ok _ _ _ _ _ _ _ _ _ _ _ _ _ _ hh hl (by omega)
    · have e1 : packS k f o v p c cl se rq a b par body = ⟨#[]⟩ := if_neg (fun h => hl h.2)
      have e2 : packE k f o v p c cl se rq a b body = 5 := by unfold packE; rw [if_pos hh, if_neg hl]
      rw [e1, e2]
      exact pack_long _ _ _ _ _ _ _ _ _ _ _ _ _ _ hh (by omega)
theorem packE_ok {k f o v p c cl se rq a b : Int} {body : ByteArray} (h : packE k f o v p c cl se rq a b body = 0) : headB k f o v p c cl se rq a b = true ∧ body.size ≤ 3968 := by
  unfold packE at h
  split at h
  · split at h
    · exact ⟨‹_›, ‹_›⟩
    · cases h
  · cases h
set_option maxRecDepth 100000 in
set_option maxHeartbeats 2000000 in
theorem packS_inj {k f o v p c cl se rq a b par k' f' o' v' p' c' cl' se' rq' a' b' par' : Int} {body body' : ByteArray} (hpar : 0 ≤ par ∧ par ≤ 18446744073709551615) (hpar' : 0 ≤ par' ∧ par' ≤ 18446744073709551615)
    (h1 : packE k f o v p c cl se rq a b body = 0) (h2 : packE k' f' o' v' p' c' cl' se' rq' a' b' body' = 0) (h : packS k f o v p c cl se rq a b par body = packS k' f' o' v' p' c' cl' se' rq' a' b' par' body') :
    (k = k' ∧ f = f' ∧ o = o' ∧ v = v' ∧ p = p' ∧ c = c' ∧ cl = cl' ∧ se = se' ∧ rq = rq' ∧ a = a' ∧ b = b' ∧ par = par') ∧ body = body' := by
  obtain ⟨hh, hl⟩ := packE_ok h1
  obtain ⟨hh', hl'⟩ := packE_ok h2
  clear h1 h2
  unfold packS at h
  rw [if_pos ⟨hh, hl⟩, if_pos ⟨hh', hl'⟩] at h
  clear hl hl'
  obtain ⟨k, f, o, v, p, c, cl, se, rq, a, b, rfl, rfl, rfl, rfl, rfl, rfl, rfl, rfl, rfl, rfl, rfl⟩ := headB_nat hh
  obtain ⟨k', f', o', v', p', c', cl', se', rq', a', b', rfl, rfl, rfl, rfl, rfl, rfl, rfl, rfl, rfl, rfl, rfl⟩ := headB_nat hh'
  obtain ⟨par, rfl⟩ : ∃ n : Nat, par = n := ⟨par.toNat, by omega⟩
  obtain ⟨par', rfl⟩ : ∃ n : Nat, par' = n := ⟨par'.toNat, by omega⟩
  simp only [Int.toNat_natCast] at h
  have b1 := of_decide_eq_true hh
  have b2 := of_decide_eq_true hh'
  clear hh hh'
  have e := congrArg nats h
  clear h
  rw [nats_text _ (packL_lt (by omega) (by omega) (by omega) _ _ _ (nats_lt body)), nats_text _ (packL_lt (by omega) (by omega) (by omega) _ _ _ (nats_lt body'))] at e
  obtain ⟨e1, e2⟩ := packL_inj e
  clear e
  obtain ⟨q1, q2, q3, q4, q5, q6, q7, q8, q9, q10, q11, q12⟩ := packIn_inj ⟨by omega, by omega, by omega, by omega, by omega, by omega, by omega, by omega, by omega⟩ ⟨by omega, by omega, by omega, by omega, by omega, by omega, by omega, by omega, by omega⟩ e1
  subst q1 q2 q3 q4 q5 q6 q7 q8 q9 q10 q11 q12
  exact ⟨⟨rfl, rfl, rfl, rfl, rfl, rfl, rfl, rfl, rfl, rfl, rfl, rfl⟩, nats_inj e2⟩
end Go.Proofs.YtpbjjmenkoigjaaDoor
end

section
namespace Go.Proofs.YtpbjjmenkoigjaaDoor
open Go.RowKit
namespace Crc
theorem add_lt32 (sum : Nat) (l : List Nat) : add sum l < 4294967296 := by unfold add; omega
/-- One turned byte turns the sum. -/
theorem turn_mid (p q : List Nat) (b x : Nat) (hp : Bytes p) (hb : b < 256) (hx : x < 256) (hq : Bytes q) (h : add 0 (p ++ (x :: q)) = add 0 (p ++ (b :: q))) : x = b := by
  have hap : ∀ y, y < 256 → Bytes (p ++ (y :: q)) := fun y hy z hz => by
    rcases List.mem_append.1 hz with h | h
    · exact hp z h
    · rcases List.mem_cons.1 h with h | h
      · subst h; exact hy
      · exact hq z h
  have l1 := fold_lt _ (4294967295 - 0) (by decide) (hap x hx)
  have l2 := fold_lt _ (4294967295 - 0) (by decide) (hap b hb)
  unfold add at h
  have h3 : fold (4294967295 - 0) (p ++ (x :: q)) = fold (4294967295 - 0) (p ++ (b :: q)) := by omega
  rw [fold_append, fold_append] at h3
  generalize fold (4294967295 - 0) p = r at h3
  have e : byte r x = byte r b ^^^ bits 8 (b ^^^ x) := by
    unfold byte
    rw [← bits_xor]
    congr 1
    rw [Nat.xor_assoc, ← Nat.xor_assoc b b x, Nat.xor_self, Nat.zero_xor]
  have e1 : ∀ y, fold r (y :: q) = fold (byte r y) q := fun y => List.foldl_cons ..
  rw [e1, e1, e, fold_diff] at h3
  have h4 := xor_cancel h3
  have ht : b ^^^ x < 4294967296 := Nat.lt_of_lt_of_le (Nat.xor_lt_two_pow (n := 8) hb hx) (by decide)
  have h5 := bits_ker 8 _ ht (bits_ker _ _ (bits_lt 8 _ ht) h4)
  have h6 := congrArg (b ^^^ ·) h5
  simp only [← Nat.xor_assoc, Nat.xor_self, Nat.zero_xor, Nat.xor_zero] at h6
  exact h6
theorem turn_at (l : List Nat) (i x : Nat) (hl : Bytes l) (hx : x < 256) (hi : i < l.length) (h : add 0 (l.set i x) = add 0 l) : x = l[i] := by
  have e : l = l.take i ++ (l[i] :: l.drop (i + 1)) := by rw [← List.drop_eq_getElem_cons hi, List.take_append_drop]
  have e2 : l.set i x = l.take i ++ (x :: l.drop (i + 1)) := List.set_eq_take_append_cons_drop .. |>.trans (if_pos hi)
  have h1 : add 0 (l.set i x) = add 0 (l.take i ++ (l[i] :: l.drop (i + 1))) := h.trans (congrArg (add 0) e)
  rw [e2] at h1
  exact turn_mid _ _ _ _ (fun z hz => hl z (List.mem_of_mem_take hz)) (hl _ (List.getElem_mem hi)) hx (fun z hz => hl z (List.mem_of_mem_drop hz)) h1
end Crc
/-- What a header's bytes meet. -/
def Good (l : List Nat) : Prop := ∃ I body : List Nat, I.length = 124 ∧ (∀ x ∈ I, x < 256) ∧ (∀ x ∈ body, x < 256) ∧ body.length ≤ 3968 ∧ I.take 4 = leN (Crc.add 0 body) 4 ∧ (I.drop 8).take 4 = leN body.length 4 ∧ l = leN (Crc.add 0 I) 4 ++ I ++ body
theorem lt4 {n : Nat} (h : n < 4294967296) : n < 256 ^ 4 := by
  have e : (256 : Nat) ^ 4 = 4294967296 := by decide
  rw [e]; exact h
theorem set_three (c I body : List Nat) (i x : Nat) (hc : c.length = 4) (hI : I.length = 124) (c' I' body' : List Nat) (hc' : c'.length = 4) (hI' : I'.length = 124)
    (h : (c ++ I ++ body).set i x = c' ++ I' ++ body') :
    (i < 4 → c' = c.set i x ∧ I' = I ∧ body' = body) ∧ (4 ≤ i → i < 128 → c' = c ∧ I' = I.set (i - 4) x ∧ body' = body) ∧ (128 ≤ i → c' = c ∧ I' = I ∧ body' = body.set (i - 128) x) := by
  have e : c' = (c ++ I ++ body |>.set i x).take 4 ∧ I' = ((c ++ I ++ body |>.set i x).drop 4).take 124 ∧ body' = (c ++ I ++ body |>.set i x).drop 128 := by
    rw [h]
    refine ⟨?_, ?_, ?_⟩
    · rw [List.append_assoc, List.take_left' hc']
    · rw [List.append_assoc, List.drop_left' hc', List.take_left' hI']
    · rw [List.drop_left' (by rw [List.length_append, hc', hI'])]
  have hci : (c ++ I).length = 128 := by rw [List.length_append, hc, hI]
  obtain ⟨e1, e2, e3⟩ := e
  refine ⟨fun hi => ?_, fun hi hi2 => ?_, fun hi => ?_⟩
  · have es : (c ++ I ++ body).set i x = c.set i x ++ I ++ body := by
      rw [List.set_append_left _ _ (by omega), List.set_append_left _ _ (by omega)]
    rw [es] at e1 e2 e3
    rw [List.append_assoc, List.take_left' (by rw [List.length_set, hc])] at e1
    rw [List.append_assoc, List.drop_left' (by rw [List.length_set, hc]), List.take_left' hI] at e2
    rw [List.drop_left' (by rw [List.length_append, List.length_set, hc, hI])] at e3
    exact ⟨e1, e2, e3⟩
  · have es : (c ++ I ++ body).set i x = c ++ I.set (i - 4) x ++ body := by
      rw [List.set_append_left _ _ (by omega), List.set_append_right _ _ (by omega), hc]
    rw [es] at e1 e2 e3
    rw [List.append_assoc, List.take_left' hc] at e1
    rw [List.append_assoc, List.drop_left' hc, List.take_left' (by rw [List.length_set, hI])] at e2
    rw [List.drop_left' (by rw [List.length_append, List.length_set, hc, hI])] at e3
    exact ⟨e1, e2, e3⟩
  · have es : (c ++ I ++ body).set i x = c ++ I ++ body.set (i - 128) x := by
      rw [List.set_append_right _ _ (by omega), hci]
    rw [es] at e1 e2 e3
    rw [List.append_assoc, List.take_left' hc] at e1
    rw [List.append_assoc, List.drop_left' hc, List.take_left' hI] at e2
    rw [List.drop_left' hci] at e3
    exact ⟨e1, e2, e3⟩
theorem good_turn {l : List Nat} (h : Good l) (i x : Nat) (hi : i < l.length) (hx : x < 256) (hne : x ≠ l[i]) : ¬ Good (l.set i x) := by
  obtain ⟨I, body, hI, hI8, hb8, hbl, h4, _, hl⟩ := h
  rintro ⟨I', body', hI', _, _, _, h4', _, hl'⟩
  have hg : l[i]? = some l[i] := List.getElem?_eq_getElem hi
  have hn : (l.set i x) ≠ l := by
    intro e
    have := congrArg (fun z : List Nat => z[i]?) e
    simp only [List.getElem?_set_self hi, hg] at this
    injection this with this
    exact hne this
  have hll : l.length = 128 + body.length := by rw [hl, List.length_append, List.length_append, leN_length, hI]
  have h3 := set_three (leN (Crc.add 0 I) 4) I body i x (leN_length _ _) hI (leN (Crc.add 0 I') 4) I' body' (leN_length _ _) hI' (by rw [← hl]; exact hl')
  rcases Nat.lt_or_ge i 4 with h | h
  · obtain ⟨_, e2, e3⟩ := h3.1 h
    subst e2 e3
    exact hn (hl'.trans hl.symm)
  · rcases Nat.lt_or_ge i 128 with h' | h'
    · obtain ⟨e1, e2, e3⟩ := h3.2.1 h h'
      subst e3
      have ec := leN_inj (lt4 (Crc.add_lt32 _ _)) (lt4 (Crc.add_lt32 _ _)) e1
      rw [e2] at ec
      have := Crc.turn_at I (i - 4) x hI8 hx (by omega) ec
      refine hne (this.trans ?_)
      have : l[i]? = some I[i - 4] := by
        rw [hl, List.getElem?_append_left (by rw [List.length_append, leN_length, hI]; exact h'), List.getElem?_append_right (by rw [leN_length]; exact h), leN_length, List.getElem?_eq_getElem]
      rw [hg] at this
      injection this with this
      exact this.symm
    · obtain ⟨e1, e2, e3⟩ := h3.2.2 h'
      subst e2
      rw [h4] at h4'
      have ec := leN_inj (lt4 (Crc.add_lt32 _ _)) (lt4 (Crc.add_lt32 _ _)) h4'
      rw [e3] at ec
      clear h3 h hn hl' e1 e3
      obtain ⟨j, hj⟩ : ∃ j, i = 128 + j := ⟨i - 128, by omega⟩
      rw [show i - 128 = j by omega] at ec
      have hjb : j < body.length := by omega
      have := Crc.turn_at body j x hb8 hx hjb ec.symm
      refine hne (this.trans ?_)
      have e128 : (leN (Crc.add 0 I') 4 ++ I').length = 128 := (List.length_append ..).trans (by rw [leN_length]; omega)
      have : l[i]? = some body[j] := by
        rw [hl, List.getElem?_append_right (by rw [e128]; exact h'), e128, show i - 128 = j by omega, List.getElem?_eq_getElem hjb]
      rw [hg] at this
      injection this with this
      exact this.symm
theorem good_length {l l' : List Nat} (h : Good l) (h' : Good l') (he : l.take 128 = l'.take 128) : l.length = l'.length := by
  obtain ⟨I, body, hI, hI8, hb8, hbl, h4, hn, hl⟩ := h
  obtain ⟨I', body', hI', hI8', hb8', hbl', h4', hn', hl'⟩ := h'
  have e : leN (Crc.add 0 I) 4 ++ I = leN (Crc.add 0 I') 4 ++ I' := by
    rw [hl, hl', List.take_left' (by rw [List.length_append, leN_length, hI]), List.take_left' (by rw [List.length_append, leN_length, hI'])] at he
    exact he
  have e2 := (List.append_inj e (by rw [leN_length, leN_length])).2
  subst e2
  rw [hn] at hn'
  have ec := leN_inj (lt4 (by omega)) (lt4 (by omega)) hn'
  rw [hl, hl', List.length_append, List.length_append (bs := body'), ec]
theorem good_min {l : List Nat} (h : Good l) : 128 ≤ l.length := by
  obtain ⟨I, body, hI, _, _, _, _, _, hl⟩ := h
  rw [hl, List.length_append, List.length_append, leN_length, hI]; omega
theorem good_short {l : List Nat} (h : Good l) : ¬ Good (l.take (l.length - 1)) := by
  intro h'
  have m := good_min h
  have m' := good_min h'
  rw [List.length_take] at m'
  have := good_length h h' (by rw [List.take_take, Nat.min_eq_left (by omega)])
  rw [List.length_take] at this
  omega
theorem good_more {l : List Nat} (h : Good l) (x : Nat) : ¬ Good (l ++ [x]) := by
  intro h'
  have m := good_min h
  have := good_length h h' (by rw [List.take_append_of_le_length m])
  rw [List.length_append, List.length_singleton] at this
  omega
theorem packL_good {k f o : Nat} (hk : k < 256) (hf : f < 256) (ho : o < 256) (v p c cl se rq a b : Nat) (par : Nat) (body : List Nat) (hb : ∀ x ∈ body, x < 256) (hl : body.length ≤ 3968) : Good (packL k f o [v, p, c, cl, se, rq, a, b] par body) := by
  refine ⟨packIn k f o [v, p, c, cl, se, rq, a, b] par body, body, packIn_length .., packIn_lt hk hf ho _ _ _, hb, hl, ?_, ?_, rfl⟩
  · unfold packIn
    simp only [List.append_assoc]
    exact List.take_left' (leN_length _ _)
  · unfold packIn
    have e : leN (Crc.add 0 body) 4 ++ [k, f, o, 0] ++ leN body.length 4 ++ leN par 8 ++ [v, p, c, cl, se, rq, a, b].flatMap (leN · 8) ++ List.replicate 40 0 = (leN (Crc.add 0 body) 4 ++ [k, f, o, 0]) ++ (leN body.length 4 ++ (leN par 8 ++ [v, p, c, cl, se, rq, a, b].flatMap (leN · 8) ++ List.replicate 40 0)) := by
      simp only [List.append_assoc]
    rw [e, List.drop_left' (by rw [List.length_append, leN_length]; rfl), List.take_left' (leN_length _ _)]
/-- The fields that bytes hold. -/
def uk (l : List Nat) (i : Nat) : Int := ((l.getD (8 + i) 0 : Nat) : Int)
def up (l : List Nat) : Int := ((valN ((l.drop 16).take 8) : Nat) : Int)
def un (l : List Nat) (j : Nat) : Int := IntKind.i64.wrap ((valN ((l.drop (24 + 8 * j)).take 8) : Nat) : Int)
def unE (s : ByteArray) : Int := packE (uk (nats s) 0) (uk (nats s) 1) (uk (nats s) 2) (un (nats s) 0) (un (nats s) 1) (un (nats s) 2) (un (nats s) 3) (un (nats s) 4) (un (nats s) 5) (un (nats s) 6) (un (nats s) 7) (s.extract 128 s.size)
def unS (s : ByteArray) : ByteArray := packS (uk (nats s) 0) (uk (nats s) 1) (uk (nats s) 2) (un (nats s) 0) (un (nats s) 1) (un (nats s) 2) (un (nats s) 3) (un (nats s) 4) (un (nats s) 5) (un (nats s) 6) (un (nats s) 7) (up (nats s)) (s.extract 128 s.size)
def unOk (s : ByteArray) : Bool := decide (128 ≤ s.size ∧ unE s = 0 ∧ unS s = s)
theorem up_bd (l : List Nat) (h : ∀ x ∈ l, x < 256) : 0 ≤ up l ∧ up l ≤ 18446744073709551615 := by
  have := valN_bound ((l.drop 16).take 8) (fun b hb => h b (List.mem_of_mem_drop (List.mem_of_mem_take hb))) (by rw [List.length_take]; exact Nat.min_le_left _ _)
  unfold up; omega
theorem packS_good {k f o v p c cl se rq a b par : Int} {body : ByteArray} (h1 : packE k f o v p c cl se rq a b body = 0) : Good (nats (packS k f o v p c cl se rq a b par body)) := by
  obtain ⟨hh, hl⟩ := packE_ok h1
  unfold packS
  rw [if_pos ⟨hh, hl⟩]
  have b1 := of_decide_eq_true hh
  rw [nats_text _ (packL_lt (by omega) (by omega) (by omega) _ _ _ (nats_lt body))]
  exact packL_good (by omega) (by omega) (by omega) _ _ _ _ _ _ _ _ _ _ (nats_lt body) (by rw [nats_length]; exact hl)
theorem unOk_good {s : ByteArray} (h : unOk s = true) : Good (nats s) := by
  have h := of_decide_eq_true h
  have hg : Good (nats (unS s)) := packS_good h.2.1
  rw [h.2.2] at hg
  exact hg
theorem cut_mid (A B C : List Nat) (a b : Nat) (ha : A.length = a) (hb : B.length = b) : ((A ++ (B ++ C)).drop a).take b = B := by
  rw [List.drop_left' ha, List.take_left' hb]
theorem wrap_small (n : Nat) (h : n ≤ 72057594037927935) : IntKind.i64.wrap (n : Int) = n := by rw [IntKind.wrap_i64]; omega
theorem val8 (n : Nat) (h : n < 18446744073709551616) : valN (leN n 8) = n := by rw [valN_leN, Nat.mod_eq_of_lt (lt8 h)]
theorem un_packed {l A B C : List Nat} (j x : Nat) (hl : l = A ++ (B ++ C)) (hA : A.length = 24 + 8 * j) (hB : B = leN x 8) (hx : x ≤ 72057594037927935) : un l j = x := by
  unfold un
  rw [hl, cut_mid A B C _ 8 hA (by rw [hB, leN_length]), hB, val8 x (by omega), wrap_small x hx]
set_option maxHeartbeats 1000000 in
theorem packed_fields (k f o v p c cl se rq a b par : Nat) (body : List Nat) (hpar : par < 18446744073709551616)
    (hb : v ≤ 72057594037927935 ∧ p ≤ 72057594037927935 ∧ c ≤ 72057594037927935 ∧ cl ≤ 72057594037927935 ∧ se ≤ 72057594037927935 ∧ rq ≤ 72057594037927935 ∧ a ≤ 72057594037927935 ∧ b ≤ 72057594037927935) (l : List Nat) (hl : l = packL k f o [v, p, c, cl, se, rq, a, b] par body) :
    (uk l 0 = k ∧ uk l 1 = f ∧ uk l 2 = o) ∧ up l = par ∧ (un l 0 = v ∧ un l 1 = p ∧ un l 2 = c ∧ un l 3 = cl ∧ un l 4 = se ∧ un l 5 = rq ∧ un l 6 = a ∧ un l 7 = b) := by
  obtain ⟨h0, h1, h2, h3, h4, h5, h6, h7⟩ := hb
  obtain ⟨c0, hc0, hl⟩ : ∃ c0 : List Nat, c0.length = 4 ∧ l = c0 ++ packIn k f o [v, p, c, cl, se, rq, a, b] par body ++ body := ⟨_, leN_length _ _, hl⟩
  obtain ⟨c1, hc1, hp⟩ : ∃ c1 : List Nat, c1.length = 4 ∧ packIn k f o [v, p, c, cl, se, rq, a, b] par body = c1 ++ [k, f, o, 0] ++ leN body.length 4 ++ leN par 8 ++ [v, p, c, cl, se, rq, a, b].flatMap (leN · 8) ++ List.replicate 40 0 := ⟨_, leN_length _ _, rfl⟩
  rw [hp] at hl
  simp only [List.flatMap_cons, List.flatMap_nil, List.append_nil] at hl
  obtain ⟨d0, hd0, hl⟩ : ∃ d0 : List Nat, d0.length = 4 ∧ l = c0 ++ (c1 ++ [k, f, o, 0] ++ d0 ++ leN par 8 ++ (leN v 8 ++ (leN p 8 ++ (leN c 8 ++ (leN cl 8 ++ (leN se 8 ++ (leN rq 8 ++ (leN a 8 ++ leN b 8))))))) ++ List.replicate 40 0) ++ body := ⟨_, leN_length _ _, hl⟩
  obtain ⟨r, hl⟩ : ∃ r, l = c0 ++ (c1 ++ ([k, f, o, 0] ++ (d0 ++ (leN par 8 ++ (leN v 8 ++ (leN p 8 ++ (leN c 8 ++ (leN cl 8 ++ (leN se 8 ++ (leN rq 8 ++ (leN a 8 ++ (leN b 8 ++ r)))))))))))) := ⟨List.replicate 40 0 ++ body, by rw [hl]; simp only [List.append_assoc]⟩
  clear hp
  refine ⟨?_, ?_, ?_, ?_, ?_, ?_, ?_, ?_, ?_, ?_⟩
  · have hq : ∀ i, uk l i = (([k, f, o, 0] ++ (d0 ++ (leN par 8 ++ (leN v 8 ++ (leN p 8 ++ (leN c 8 ++ (leN cl 8 ++ (leN se 8 ++ (leN rq 8 ++ (leN a 8 ++ (leN b 8 ++ r)))))))))) : List Nat).getD i 0 : Nat) := by
      intro i
      unfold uk
      rw [hl, ← List.append_assoc c0 c1, List.getD_eq_getElem?_getD, List.getD_eq_getElem?_getD, List.getElem?_append_right (by rw [List.length_append, hc0, hc1]; omega), List.length_append, hc0, hc1, show 8 + i - (4 + 4) = i by omega]
    rw [hq, hq, hq]
    exact ⟨rfl, rfl, rfl⟩
  · unfold up
    rw [hl, show c0 ++ (c1 ++ ([k, f, o, 0] ++ (d0 ++ (leN par 8 ++ (leN v 8 ++ (leN p 8 ++ (leN c 8 ++ (leN cl 8 ++ (leN se 8 ++ (leN rq 8 ++ (leN a 8 ++ (leN b 8 ++ r))))))))))))
      = (c0 ++ (c1 ++ ([k, f, o, 0] ++ d0))) ++ (leN par 8 ++ (leN v 8 ++ (leN p 8 ++ (leN c 8 ++ (leN cl 8 ++ (leN se 8 ++ (leN rq 8 ++ (leN a 8 ++ (leN b 8 ++ r))))))))) by simp only [List.append_assoc],
      cut_mid _ _ _ 16 8 (by simp [hc0, hc1, hd0]) (leN_length _ _), val8 par hpar]
  · exact un_packed (A := c0 ++ (c1 ++ ([k, f, o, 0] ++ (d0 ++ leN par 8)))) 0 v (by rw [hl]; simp only [List.append_assoc]; rfl) (by simp [hc0, hc1, hd0, leN_length]) rfl h0
  · exact un_packed (A := c0 ++ (c1 ++ ([k, f, o, 0] ++ (d0 ++ (leN par 8 ++ leN v 8))))) 1 p (by rw [hl]; simp only [List.append_assoc]; rfl) (by simp [hc0, hc1, hd0, leN_length]) rfl h1
  · exact un_packed (A := c0 ++ (c1 ++ ([k, f, o, 0] ++ (d0 ++ (leN par 8 ++ (leN v 8 ++ leN p 8)))))) 2 c (by rw [hl]; simp only [List.append_assoc]; rfl) (by simp [hc0, hc1, hd0, leN_length]) rfl h2
  · exact un_packed (A := c0 ++ (c1 ++ ([k, f, o, 0] ++ (d0 ++ (leN par 8 ++ (leN v 8 ++ (leN p 8 ++ leN c 8))))))) 3 cl (by rw [hl]; simp only [List.append_assoc]; rfl) (by simp [hc0, hc1, hd0, leN_length]) rfl h3
  · exact un_packed (A := c0 ++ (c1 ++ ([k, f, o, 0] ++ (d0 ++ (leN par 8 ++ (leN v 8 ++ (leN p 8 ++ (leN c 8 ++ leN cl 8)))))))) 4 se (by rw [hl]; simp only [List.append_assoc]; rfl) (by simp [hc0, hc1, hd0, leN_length]) rfl h4
  · exact un_packed (A := c0 ++ (c1 ++ ([k, f, o, 0] ++ (d0 ++ (leN par 8 ++ (leN v 8 ++ (leN p 8 ++ (leN c 8 ++ (leN cl 8 ++ leN se 8))))))))) 5 rq (by rw [hl]; simp only [List.append_assoc]; rfl) (by simp [hc0, hc1, hd0, leN_length]) rfl h5
  · exact un_packed (A := c0 ++ (c1 ++ ([k, f, o, 0] ++ (d0 ++ (leN par 8 ++ (leN v 8 ++ (leN p 8 ++ (leN c 8 ++ (leN cl 8 ++ (leN se 8 ++ leN rq 8)))))))))) 6 a (by rw [hl]; simp only [List.append_assoc]; rfl) (by simp [hc0, hc1, hd0, leN_length]) rfl h6
  · exact un_packed (A := c0 ++ (c1 ++ ([k, f, o, 0] ++ (d0 ++ (leN par 8 ++ (leN v 8 ++ (leN p 8 ++ (leN c 8 ++ (leN cl 8 ++ (leN se 8 ++ (leN rq 8 ++ leN a 8))))))))))) 7 b (by rw [hl]; simp only [List.append_assoc]; rfl) (by simp [hc0, hc1, hd0, leN_length]) rfl h7
set_option maxHeartbeats 1000000 in
/-- What was packed is unpacked as it was. -/
theorem un_back {k f o v p c cl se rq a b par : Int} {body s : ByteArray} (hpar : 0 ≤ par ∧ par ≤ 18446744073709551615) (h1 : packE k f o v p c cl se rq a b body = 0) (hs : s = packS k f o v p c cl se rq a b par body) :
    unOk s = true ∧ s.extract 128 s.size = body ∧ s.size = 128 + body.size ∧ (uk (nats s) 0 = k ∧ uk (nats s) 1 = f ∧ uk (nats s) 2 = o) ∧ up (nats s) = par ∧ (un (nats s) 0 = v ∧ un (nats s) 1 = p ∧ un (nats s) 2 = c ∧ un (nats s) 3 = cl ∧ un (nats s) 4 = se ∧ un (nats s) 5 = rq ∧ un (nats s) 6 = a ∧ un (nats s) 7 = b) := by
  obtain ⟨hh, hl⟩ := packE_ok h1
  have b1 := of_decide_eq_true hh
  have hn : nats s = packL k.toNat f.toNat o.toNat [v.toNat, p.toNat, c.toNat, cl.toNat, se.toNat, rq.toNat, a.toNat, b.toNat] par.toNat (nats body) := by
    rw [hs]
    unfold packS
    rw [if_pos ⟨hh, hl⟩]
    exact nats_text _ (packL_lt (by omega) (by omega) (by omega) _ _ _ (nats_lt body))
  have hz : s.size = 128 + body.size := by rw [← nats_length, hn, packL_length, nats_length]
  have hx : s.extract 128 s.size = body := by
    apply nats_inj
    rw [nats_extract, List.take_of_length_le (by rw [nats_length]; exact Nat.le_refl _), hn]
    unfold packL
    exact List.drop_left' (by rw [List.length_append, leN_length, packIn_length])
  have hf := packed_fields k.toNat f.toNat o.toNat v.toNat p.toNat c.toNat cl.toNat se.toNat rq.toNat a.toNat b.toNat par.toNat (nats body) (by omega) ⟨by omega, by omega, by omega, by omega, by omega, by omega, by omega, by omega⟩ (nats s) hn
  have t : ∀ x : Int, 0 ≤ x → ((x.toNat : Nat) : Int) = x := fun x h => Int.toNat_of_nonneg h
  rw [t k (by omega), t f (by omega), t o (by omega), t par (by omega), t v (by omega), t p (by omega), t c (by omega), t cl (by omega), t se (by omega), t rq (by omega), t a (by omega), t b (by omega)] at hf
  refine ⟨decide_eq_true ⟨by omega, ?_, ?_⟩, hx, hz, hf⟩
  · obtain ⟨⟨e1, e2, e3⟩, e4, e5, e6, e7, e8, e9, e10, e11, e12⟩ := hf
    unfold unE
    rw [hx, e1, e2, e3, e5, e6, e7, e8, e9, e10, e11, e12]
    exact h1
  · obtain ⟨⟨e1, e2, e3⟩, e4, e5, e6, e7, e8, e9, e10, e11, e12⟩ := hf
    unfold unS
    rw [hx, e1, e2, e3, e4, e5, e6, e7, e8, e9, e10, e11, e12]
    exact hs.symm
end Go.Proofs.YtpbjjmenkoigjaaDoor
end

section
namespace Go.Proofs.YtpbjjmenkoigjaaDoor
open Go.RowKit
def unHdr (l : List Nat) (n : Nat) : Array Value := #[.int .i64 (uk l 0), .int .i64 (uk l 1), .int .i64 (uk l 2), .int .i64 (if 0 < n then un l 0 else 0), .int .i64 (if 1 < n then un l 1 else 0), .int .i64 (if 2 < n then un l 2 else 0), .int .i64 (if 3 < n then un l 3 else 0),
  .int .i64 (if 4 < n then un l 4 else 0), .int .i64 (if 5 < n then un l 5 else 0), .int .i64 (if 6 < n then un l 6 else 0), .int .i64 (if 7 < n then un l 7 else 0), .int .u64 (up l)]
def UnPost (s : ByteArray) (w : World) (e : Ending) (w' : World) : Prop := e = .returned (if unOk s = true then .tuple #[.agg (unHdr (nats s) 8), .string (s.extract 128 s.size), .int .i64 0] else .tuple #[.agg #[.int .i64 0, .int .i64 0, .int .i64 0, .int .i64 0, .int .i64 0, .int .i64 0, .int .i64 0, .int .i64 0, .int .i64 0, .int .i64 0, .int .i64 0, .int .u64 0], .string ⟨#[]⟩, .int .i64 4]) ∧ Below w.heap.size w w'
theorem UnPost.yes {s : ByteArray} {w w' : World} {hd : Array Value} (h : unOk s = true) (hE : unHdr (nats s) 8 = hd) (hb : Below w.heap.size w w') : UnPost s w (.returned (.tuple #[.agg hd, .string (s.extract 128 s.size), .int .i64 0])) w' := by
  subst hE
  exact ⟨by rw [if_pos h], hb⟩
theorem UnPost.no {s : ByteArray} {w w' : World} (h : unOk s = false) (hb : Below w.heap.size w w') : UnPost s w (.returned (.tuple #[.agg #[.int .i64 0, .int .i64 0, .int .i64 0, .int .i64 0, .int .i64 0, .int .i64 0, .int .i64 0, .int .i64 0, .int .i64 0, .int .i64 0, .int .i64 0, .int .u64 0], .string ⟨#[]⟩, .int .i64 4])) w' := ⟨by rw [if_neg (by rw [h]; simp)], hb⟩
def hdr0 : Array Value := #[.int .i64 0, .int .i64 0, .int .i64 0, .int .i64 0, .int .i64 0, .int .i64 0, .int .i64 0, .int .i64 0, .int .i64 0, .int .i64 0, .int .i64 0, .int .u64 0]
theorem unHdr_set (l : List Nat) (n : Nat) (hn : n < 8) : (unHdr l n).setIfInBounds (3 + n) (.int .i64 (un l n)) = unHdr l (n + 1) := by
  rcases (show n = 0 ∨ n = 1 ∨ n = 2 ∨ n = 3 ∨ n = 4 ∨ n = 5 ∨ n = 6 ∨ n = 7 from by omega) with rfl | rfl | rfl | rfl | rfl | rfl | rfl | rfl <;> rfl
theorem takeR_cut (l : List Nat) (a : Nat) (h : a + 8 ≤ 128) (hl : 128 ≤ l.length) : takeR (l.take 128) a 8 = (((valN ((l.drop a).take 8) : Nat) : Int), 0) := by
  have e := takeR_ok (l.take 128) a 8 (by decide) (by decide) (by rw [List.length_take]; omega)
  rw [show ((l.take 128).drop a).take 8 = (l.drop a).take 8 by rw [List.drop_take, List.take_take, Nat.min_eq_left (by omega)]] at e
  exact e
theorem Holds.other {w : World} {b o n cap : Nat} {l : List Nat} (h : Holds w (.slice (some ⟨b, o, none⟩) n cap) l) (p : Addr) (hp : p.block ≠ b) (v : Value) : Holds (w.setCell p v) (.slice (some ⟨b, o, none⟩) n cap) l := by
  obtain ⟨h1, q, c, hv, hn, hc⟩ := h
  refine ⟨h1, q, c, hv, hn, fun a ha i x hx => ?_⟩
  have hb : (a.add i).block = b := by
    injection hv with e1
    subst e1
    have hadd : (⟨b, o, none⟩ : Addr).add i = ⟨b, o + i, none⟩ := by unfold Addr.add; split <;> simp_all
    injection ha with ha
    subst ha
    rw [hadd]
  exact (World.cell?_setCell_other w _ _ _ (by intro e; exact hp (by rw [← e] at hb; exact hb))).trans (hc a ha i x hx)
end Go.Proofs.YtpbjjmenkoigjaaDoor
end

section
namespace Go.Proofs.YtpbjjmenkoigjaaDoor
open Go.RowKit
theorem step_int (h : Nat) (c : Int) (w : World) (hh : h < 18446744073709551616) (h0 : 0 ≤ c) (hc : c < 256) :
    Calls Tryd.prog 48 #[.int .u64 h, .int .u8 c] w fun e w' => e = .returned (.int .u64 (Chain.step h c.toNat)) ∧ w = w' := by
  obtain ⟨n, rfl⟩ := Int.eq_ofNat_of_zero_le h0
  exact step_any h n w hh (by omega)
theorem lens_succ : ∀ (k n : Nat), Chain.lens (k + 1) n = Chain.lens k n ++ [n / 256 ^ k % 256]
  | 0, n => by simp [Chain.lens]
  | k + 1, n => by
    show n % 256 :: Chain.lens (k + 1) (n / 256) = (n % 256 :: Chain.lens k (n / 256)) ++ _
    rw [lens_succ k (n / 256), Nat.div_div_eq_div_mul, Nat.pow_succ, Nat.mul_comm (256 ^ k)]; rfl
/-- A chain's state behind k bytes of a text; behind the text and k bytes of its length. -/
def chA (h : Nat) (l : List Nat) (k : Nat) : Nat := (l.take k).foldl Chain.step (Chain.start h)
def chB (h : Nat) (l : List Nat) (k : Nat) : Nat := (l ++ Chain.lens k l.length).foldl Chain.step (Chain.start h)
theorem chA_lt (h : Nat) (l : List Nat) (k : Nat) (hh : h < 18446744073709551616) : chA h l k < 18446744073709551616 := Chain.fold_lt _ _ (Chain.start_lt hh)
theorem chB_lt (h : Nat) (l : List Nat) (k : Nat) (hh : h < 18446744073709551616) : chB h l k < 18446744073709551616 := Chain.fold_lt _ _ (Chain.start_lt hh)
theorem chA_succ (h : Nat) (s : ByteArray) (k : Nat) (hk : k < s.size) : chA h (nats s) (k + 1) = Chain.step (chA h (nats s) k) (s[k]).toNat := by
  unfold chA; rw [nats_take s k hk, List.foldl_append, List.foldl_cons, List.foldl_nil]
theorem chA_end (h : Nat) (l : List Nat) (n : Nat) (hn : n = l.length) : chA h l n = chB h l 0 := by
  unfold chA chB; rw [List.take_of_length_le (by omega)]; simp [Chain.lens]
theorem chB_succ (h : Nat) (l : List Nat) (k : Nat) : chB h l (k + 1) = Chain.step (chB h l k) (l.length / 256 ^ k % 256) := by
  unfold chB; rw [lens_succ, ← List.append_assoc, List.foldl_append, List.foldl_cons, List.foldl_nil]
theorem chB_end (h : Nat) (l : List Nat) : chB h l 8 = Chain.chain h l := rfl
theorem start_eq (h : Nat) (hh : h < 18446744073709551616) : bits BinOp.xor IntKind.u64 (h : Int) 14695981039346656037 = ((Chain.start h : Nat) : Int) :=
  u64_xor_nat h 14695981039346656037 hh (by decide)
set_option maxHeartbeats 400000 in
theorem chain_any (h : Nat) (s : ByteArray) (w : World) (hh : h < 18446744073709551616) (hl : s.size ≤ maxLen) :
    Calls Tryd.prog 34 #[.int .u64 h, .string s] w fun e w' => e = .returned (.int .u64 (Chain.chain h (nats s))) ∧ w = w' := by
  unfold maxLen at hl
  have hst := Lib.hid (start_eq h hh)
  go_enter Tryd.func34, Tryd.ntmps34
  go_wp2
  go_loop [0, 12] (fun r i => ∃ k : Nat, k ≤ s.size ∧ i = .int .i64 k ∧ r = .int .u64 (chA h (nats s) k)) (fun _ i => s.size - (intOf i).toNat)
  case atStart => exact ⟨0, by omega, rfl, by rw [hst.out]; rfl⟩
  case round =>
    obtain ⟨k, hk, rfl, rfl⟩ := hrel
    have hq := chA_lt h (nats s) k hh
    by_cases hlt : k < s.size
    · have HS := Lib.hid (chA_succ h s k hlt)
      have hb := (s[k]).toNat_lt
      go_wp2_with (go_at_call 48; refine (step_any _ _ _ hq hb).mono ?_; rintro e w1 ⟨rfl, rfl⟩)
      go_round
      case rel => exact ⟨k + 1, by omega, by go_num, by rw [HS.out]⟩
      case measure => simp [intOf]; omega
    · obtain rfl : k = s.size := by omega
      have HE := Lib.hid (chA_end h (nats s) s.size (nats_length s).symm)
      go_wp2
      go_loop [0, 6, 7] (fun r n j => ∃ m : Nat, m ≤ 8 ∧ j = .int .i64 m ∧ n = .int .i64 ((s.size / 256 ^ m : Nat) : Int) ∧ r = .int .u64 (chB h (nats s) m)) (fun _ _ j => 8 - (intOf j).toNat)
      case atStart => exact ⟨0, by omega, rfl, by simp, by rw [HE.out]⟩
      case round =>
        obtain ⟨m, hm, rfl, rfl, rfl⟩ := hrel
        have hq := chB_lt h (nats s) m hh
        by_cases hm8 : m < 8
        · have hsl := nats_length s
          have HS := Lib.hid (chB_succ h (nats s) m)
          have HL := Lib.hid hsl
          clear hsl
          have hn : s.size / 256 ^ m ≤ s.size := Nat.div_le_self _ _
          have HD := Lib.hid (show s.size / 256 ^ (m + 1) = s.size / 256 ^ m / 256 from by rw [Nat.pow_succ, Nat.div_div_eq_div_mul])
          obtain ⟨n, hnn⟩ : ∃ n, n = s.size / 256 ^ m := ⟨_, rfl⟩
          rw [← hnn] at hn ⊢
          have HN := Lib.hid hnn
          clear hnn
          go_wp2_with (go_at_call 48; refine (step_int _ _ _ hq (by omega) (by omega)).mono ?_; rintro e w1 ⟨rfl, rfl⟩)
          go_round
          case rel => exact ⟨m + 1, by omega, by go_num, by rw [HD.out, ← HN.out]; go_num, by rw [HS.out, HL.out, ← HN.out, show ((n : Int) % 256).toNat = n % 256 from by omega]⟩
          case measure => simp [intOf]; omega
        · obtain rfl : m = 8 := by omega
          go_wp2
          go_ret
          exact ⟨rfl, rfl⟩
end Go.Proofs.YtpbjjmenkoigjaaDoor
end

section
namespace Go.Proofs.YtpbjjmenkoigjaaDoor
open Go.RowKit
theorem steps_int (r : Int) (w : World) (h0 : 0 ≤ r) (hh : r < 4294967296) :
    Calls Tryd.prog 93 #[.int .u32 r, .int .i64 8] w fun e w' => e = .returned (.int .u32 (Crc.bits 8 r.toNat)) ∧ w = w' := by
  obtain ⟨n, rfl⟩ := Int.eq_ofNat_of_zero_le h0
  exact steps_any n w (by omega)
theorem xor_bd (a b : Nat) (ha : a < 4294967296) (hb : b < 4294967296) : 0 ≤ bits BinOp.xor IntKind.u32 (a : Int) (b : Int) ∧ bits BinOp.xor IntKind.u32 (a : Int) (b : Int) < 4294967296 ∧ (bits BinOp.xor IntKind.u32 (a : Int) (b : Int)).toNat = a ^^^ b := by
  rw [u32_xor_nat a b ha hb]
  have : a ^^^ b < 4294967296 := Nat.xor_lt_two_pow (n := 32) ha hb
  omega
set_option maxHeartbeats 400000 in
theorem refadd_any (sum : Nat) (s : ByteArray) (w : World) (hs : sum < 4294967296) (hl : s.size ≤ maxLen) :
    Calls Tryd.prog 92 #[.int .u32 sum, .string s] w fun e w' => e = .returned (.int .u32 (Crc.add sum (nats s))) ∧ w = w' := by
  unfold maxLen at hl
  have e0 : (4294967295 : Int) - sum = ((4294967295 - sum : Nat) : Int) := by omega
  have E0 := Lib.hid e0
  clear e0
  go_enter Tryd.func92, Tryd.ntmps92
  go_wp2
  go_loop [5, 6] (fun r i => ∃ k : Nat, k ≤ s.size ∧ i = .int .i64 k ∧ r = .int .u32 (Crc.fold (4294967295 - sum) ((nats s).take k))) (fun _ i => s.size - (intOf i).toNat)
  case atStart => exact ⟨0, by omega, rfl, by rw [E0.out]; rfl⟩
  case round =>
    obtain ⟨k, hk, rfl, rfl⟩ := hrel
    have hq := Crc.fold_lt ((nats s).take k) (4294967295 - sum) (by omega) (fun b hb => nats_bytes s b (List.mem_of_mem_take hb))
    by_cases hlt : k < s.size
    · have HF := Lib.hid (fold_take s (4294967295 - sum) k hlt)
      obtain ⟨q, hqq⟩ : ∃ q, q = Crc.fold (4294967295 - sum) ((nats s).take k) := ⟨_, rfl⟩
      rw [← hqq] at hq ⊢
      have HQ := Lib.hid hqq
      clear hqq
      have hbt := (s[k]).toNat_lt
      have hx := xor_bd q (s[k]).toNat hq (by omega)
      obtain ⟨x1, x2, x3⟩ := hx
      have X3 := Lib.hid x3
      clear x3
      go_wp2_with (go_at_call 93; refine (steps_int _ _ x1 x2).mono ?_; rintro e w1 ⟨rfl, rfl⟩)
      go_round
      case rel => exact ⟨k + 1, by omega, by go_num, by rw [HF.out, ← HQ.out, X3.out]; rfl⟩
      case measure => simp [intOf]; omega
    · obtain rfl : k = s.size := by omega
      have hfin : (nats s).take s.size = nats s := List.take_of_length_le (by rw [nats_length]; omega)
      have HX := Lib.hid hfin
      clear hfin
      go_wp2
      go_ret
      refine ⟨ret_int ?_, rfl⟩
      rw [HX.out] at hq ⊢
      unfold Crc.add
      omega
theorem refsum_all (s : ByteArray) (w : World) (hl : s.size ≤ maxLen) :
    Calls Tryd.prog 89 #[.string s] w fun e w' => e = .returned (.int .u32 (Crc.add 0 (nats s))) ∧ w = w' := by
  go_enter Tryd.func89, Tryd.ntmps89
  go_wp2_with (go_at_call 92; refine (refadd_any 0 s _ (by omega) hl).mono ?_; rintro e w1 ⟨rfl, rfl⟩)
  go_ret
  exact ⟨rfl, rfl⟩
/-- The reference's chain: one loop over the text and the length's bytes. -/
def chR (h : Nat) (l : List Nat) (k : Nat) : Nat := if k ≤ l.length then chA h l k else chB h l (k - l.length)
theorem step_bd (q c : Nat) (hq : q < 18446744073709551616) (hc : c < 256) : bits BinOp.xor IntKind.u64 (IntKind.u64.wrap (bits BinOp.xor IntKind.u64 (q : Int) (c : Int) * 1099511628211)) (IntKind.u64.wrap ((IntKind.u64.wrap (bits BinOp.xor IntKind.u64 (q : Int) (c : Int) * 1099511628211)).tdiv 536870912)) = ((Chain.step q c : Nat) : Int) := by
  rw [← step_eq q c hq hc]
  congr 1
  have hx : ∀ z : Int, 0 ≤ IntKind.u64.wrap z ∧ IntKind.u64.wrap z ≤ 18446744073709551615 := by
    intro z
    have e : IntKind.u64.wrap z = z % 18446744073709551616 := by simp [IntKind.wrap, IntKind.bits, IntKind.signed]
    rw [e]; omega
  have h1 := hx (bits BinOp.xor IntKind.u64 (q : Int) (c : Int) * 1099511628211)
  exact IntWalk.u64_quo _ _ ⟨h1.1, h1.2, by decide⟩
set_option maxHeartbeats 400000 in
theorem refchain_any (h : Nat) (s : ByteArray) (w : World) (hh : h < 18446744073709551616) (hl : s.size < 9223372036854775800) :
    Calls Tryd.prog 76 #[.int .u64 h, .string s] w fun e w' => e = .returned (.int .u64 (Chain.chain h (nats s))) ∧ w = w' := by
  have hst := Lib.hid (start_eq h hh)
  have hsl := Lib.hid (nats_length s)
  go_enter Tryd.func76, Tryd.ntmps76
  go_wp2
  go_loop [0, 5, 6] (fun r n i => ∃ k : Nat, k ≤ s.size + 8 ∧ i = .int .i64 k ∧ n = .int .u64 ((s.size / 256 ^ (k - s.size) : Nat) : Int) ∧ r = .int .u64 (chR h (nats s) k)) (fun _ _ i => s.size + 8 - (intOf i).toNat)
  case atStart => exact ⟨0, by omega, rfl, by simp, by rw [hst.out]; rfl⟩
  case round =>
    obtain ⟨k, hk, rfl, rfl, rfl⟩ := hrel
    have hq : chR h (nats s) k < 18446744073709551616 := by unfold chR; split; exact chA_lt _ _ _ hh; exact chB_lt _ _ _ hh
    by_cases hlt : k < s.size
    · have hb := (s[k]).toNat_lt
      have HS := Lib.hid (show chR h (nats s) (k + 1) = Chain.step (chR h (nats s) k) (s[k]).toNat from by
        unfold chR; rw [hsl.out, if_pos (by omega), if_pos (by omega)]; exact chA_succ h s k hlt)
      have HN := Lib.hid (show s.size / 256 ^ (k - s.size) = s.size / 256 ^ (k + 1 - s.size) from by rw [show k - s.size = 0 from by omega, show k + 1 - s.size = 0 from by omega])
      obtain ⟨n, hnn⟩ : ∃ n, n = s.size / 256 ^ (k - s.size) := ⟨_, rfl⟩
      obtain ⟨q, hqq⟩ : ∃ q, q = chR h (nats s) k := ⟨_, rfl⟩
      rw [← hnn] at HN ⊢
      rw [← hqq] at hq HS ⊢
      clear hnn hqq
      have HX := Lib.hid (step_bd q (s[k]).toNat hq (by omega))
      go_wp2
      go_round
      case rel => exact ⟨k + 1, by omega, by go_num, by rw [HN.out], by rw [HS.out, ← HX.out]⟩
      case measure => simp [intOf]; omega
    · by_cases hlt8 : k < s.size + 8
      · have hb : s.size / 256 ^ (k - s.size) % 256 < 256 := Nat.mod_lt _ (by decide)
        have HS := Lib.hid (show chR h (nats s) (k + 1) = Chain.step (chR h (nats s) k) (s.size / 256 ^ (k - s.size) % 256) from by
          have e : chR h (nats s) k = chB h (nats s) (k - s.size) := by
            unfold chR; rw [hsl.out]
            split
            · obtain rfl : k = s.size := by omega
              rw [Nat.sub_self]; exact chA_end _ _ _ hsl.out.symm
            · rfl
          rw [e]
          unfold chR; rw [hsl.out, if_neg (by omega), show k + 1 - s.size = (k - s.size) + 1 from by omega, chB_succ, hsl.out])
        have HN := Lib.hid (show s.size / 256 ^ (k + 1 - s.size) = s.size / 256 ^ (k - s.size) / 256 from by
          rw [show k + 1 - s.size = (k - s.size) + 1 from by omega, Nat.pow_succ, Nat.div_div_eq_div_mul])
        have hn : s.size / 256 ^ (k - s.size) ≤ s.size := Nat.div_le_self _ _
        obtain ⟨n, hnn⟩ : ∃ n, n = s.size / 256 ^ (k - s.size) := ⟨_, rfl⟩
        obtain ⟨q, hqq⟩ : ∃ q, q = chR h (nats s) k := ⟨_, rfl⟩
        rw [← hnn] at HN HS hb hn ⊢
        rw [← hqq] at hq HS ⊢
        clear hnn hqq
        have hx := step_bd q (n % 256) hq hb
        rw [show ((n % 256 : Nat) : Int) = (n : Int) % 256 from by omega] at hx
        have HX := Lib.hid hx
        clear hx
        go_wp2
        go_round
        case rel => exact ⟨k + 1, by omega, by go_num, by rw [HN.out]; go_num, by rw [HS.out, ← HX.out]⟩
        case measure => simp [intOf]; omega
      · obtain rfl : k = s.size + 8 := by omega
        have HF := Lib.hid (show chR h (nats s) (s.size + 8) = Chain.chain h (nats s) from by
          unfold chR; rw [hsl.out, if_neg (by omega), show s.size + 8 - s.size = 8 from by omega, chB_end])
        go_wp2
        go_ret
        exact ⟨ret_int (by rw [HF.out]), rfl⟩
end Go.Proofs.YtpbjjmenkoigjaaDoor
end

section
namespace Go.Proofs.YtpbjjmenkoigjaaDoor
open Go.RowKit
theorem rsmall_yes (n : Int) (w : World) (h : 0 ≤ n ∧ n ≤ 255) : Calls Tryd.prog 90 #[.int .i64 n] w fun e w' => e = .returned (.bool true) ∧ w = w' := by
  obtain ⟨h1, h2⟩ := h
  go_enter Tryd.func90, Tryd.ntmps90
  go_wp2
  go_ret
  exact ⟨ret_bool (by first | (simp; done) | (simp; omega)), rfl⟩
theorem rsmall_no (n : Int) (w : World) (h : ¬ (0 ≤ n ∧ n ≤ 255)) : Calls Tryd.prog 90 #[.int .i64 n] w fun e w' => e = .returned (.bool false) ∧ w = w' := by
  by_cases h1 : n < 0
  · clear h
    go_enter Tryd.func90, Tryd.ntmps90
    go_wp2
    go_ret
    exact ⟨ret_bool (by first | (simp; done) | (simp; omega)), rfl⟩
  · have h2 : 255 < n := by omega
    have h3 : 0 ≤ n := by omega
    clear h h1
    go_enter Tryd.func90, Tryd.ntmps90
    go_wp2
    go_ret
    exact ⟨ret_bool (by first | (simp; done) | (simp; omega)), rfl⟩
theorem rfits_yes (n : Int) (w : World) (h : 0 ≤ n ∧ n ≤ 72057594037927935) : Calls Tryd.prog 91 #[.int .i64 n] w fun e w' => e = .returned (.bool true) ∧ w = w' := by
  obtain ⟨h1, h2⟩ := h
  go_enter Tryd.func91, Tryd.ntmps91
  go_wp2
  go_ret
  exact ⟨ret_bool (by first | (simp; done) | (simp; omega)), rfl⟩
theorem rfits_no (n : Int) (w : World) (h : ¬ (0 ≤ n ∧ n ≤ 72057594037927935)) : Calls Tryd.prog 91 #[.int .i64 n] w fun e w' => e = .returned (.bool false) ∧ w = w' := by
  by_cases h1 : n < 0
  · clear h
    go_enter Tryd.func91, Tryd.ntmps91
    go_wp2
    go_ret
    exact ⟨ret_bool (by first | (simp; done) | (simp; omega)), rfl⟩
  · have h2 : 72057594037927935 < n := by omega
    have h3 : 0 ≤ n := by omega
    clear h h1
    go_enter Tryd.func91, Tryd.ntmps91
    go_wp2
    go_ret
    exact ⟨ret_bool (by first | (simp; done) | (simp; omega)), rfl⟩
set_option maxHeartbeats 8000000 in
theorem refright_any (k f o v p c cl se rq a b : Int) (par : Int) (w : World) :
    Calls Tryd.prog 87 #[.agg #[.int .i64 k, .int .i64 f, .int .i64 o, .int .i64 v, .int .i64 p, .int .i64 c, .int .i64 cl, .int .i64 se, .int .i64 rq, .int .i64 a, .int .i64 b, .int .u64 par]] w fun e w' => e = .returned (.bool (headB k f o v p c cl se rq a b)) ∧ Below w.heap.size w w' := by
  by_cases h0 : 0 ≤ k ∧ k ≤ 255
  rotate_left
  · have H0 := Lib.hid h0
    have HF := Lib.hid (headB_no k f o v p c cl se rq a b (by have := H0.out; omega))
    go_enter Tryd.func87, Tryd.ntmps87
    go_wp2_with fail
    refine (rsmall_no _ _ H0.out).mono ?_
    rintro e w1 ⟨rfl, rfl⟩
    go_wp2_with fail
    go_ret
    exact ⟨ret_bool HF.out.symm, (Below.refl _ _).alloc (Nat.le_refl _) _⟩
  have H0 := Lib.hid h0
  clear h0
  by_cases h1 : 0 ≤ f ∧ f ≤ 255
  rotate_left
  · have H1 := Lib.hid h1
    have HF := Lib.hid (headB_no k f o v p c cl se rq a b (by have := H1.out; omega))
    go_enter Tryd.func87, Tryd.ntmps87
    go_wp2_with fail
    refine (rsmall_yes _ _ H0.out).mono ?_
    rintro e w1 ⟨rfl, rfl⟩
    go_wp2_with fail
    refine (rsmall_no _ _ H1.out).mono ?_
    rintro e w1 ⟨rfl, rfl⟩
    go_wp2_with fail
    go_ret
    exact ⟨ret_bool HF.out.symm, (Below.refl _ _).alloc (Nat.le_refl _) _⟩
  have H1 := Lib.hid h1
  clear h1
  by_cases h2 : 0 ≤ o ∧ o ≤ 255
  rotate_left
  · have H2 := Lib.hid h2
    have HF := Lib.hid (headB_no k f o v p c cl se rq a b (by have := H2.out; omega))
    go_enter Tryd.func87, Tryd.ntmps87
    go_wp2_with fail
    refine (rsmall_yes _ _ H0.out).mono ?_
    rintro e w1 ⟨rfl, rfl⟩
    go_wp2_with fail
    refine (rsmall_yes _ _ H1.out).mono ?_
    rintro e w1 ⟨rfl, rfl⟩
    go_wp2_with fail
    refine (rsmall_no _ _ H2.out).mono ?_
    rintro e w1 ⟨rfl, rfl⟩
    go_wp2_with fail
    go_ret
    exact ⟨ret_bool HF.out.symm, (Below.refl _ _).alloc (Nat.le_refl _) _⟩
  have H2 := Lib.hid h2
  clear h2
  by_cases h3 : 0 ≤ v ∧ v ≤ 72057594037927935
  rotate_left
  · have H3 := Lib.hid h3
    have HF := Lib.hid (headB_no k f o v p c cl se rq a b (by have := H3.out; omega))
    go_enter Tryd.func87, Tryd.ntmps87
    go_wp2_with fail
    refine (rsmall_yes _ _ H0.out).mono ?_
    rintro e w1 ⟨rfl, rfl⟩
    go_wp2_with fail
    refine (rsmall_yes _ _ H1.out).mono ?_
    rintro e w1 ⟨rfl, rfl⟩
    go_wp2_with fail
    refine (rsmall_yes _ _ H2.out).mono ?_
    rintro e w1 ⟨rfl, rfl⟩
    go_wp2_with fail
    refine (rfits_no _ _ H3.out).mono ?_
    rintro e w1 ⟨rfl, rfl⟩
    go_wp2_with fail
    go_ret
    exact ⟨ret_bool HF.out.symm, (Below.refl _ _).alloc (Nat.le_refl _) _⟩
  have H3 := Lib.hid h3
  clear h3
  by_cases h4 : 0 ≤ p ∧ p ≤ 72057594037927935
  rotate_left
  · have H4 := Lib.hid h4
    have HF := Lib.hid (headB_no k f o v p c cl se rq a b (by have := H4.out; omega))
    go_enter Tryd.func87, Tryd.ntmps87
    go_wp2_with fail
    refine (rsmall_yes _ _ H0.out).mono ?_
    rintro e w1 ⟨rfl, rfl⟩
    go_wp2_with fail
    refine (rsmall_yes _ _ H1.out).mono ?_
    rintro e w1 ⟨rfl, rfl⟩
    go_wp2_with fail
    refine (rsmall_yes _ _ H2.out).mono ?_
    rintro e w1 ⟨rfl, rfl⟩
    go_wp2_with fail
    refine (rfits_yes _ _ H3.out).mono ?_
    rintro e w1 ⟨rfl, rfl⟩
    go_wp2_with fail
    refine (rfits_no _ _ H4.out).mono ?_
    rintro e w1 ⟨rfl, rfl⟩
    go_wp2_with fail
    go_ret
    exact ⟨ret_bool HF.out.symm, (Below.refl _ _).alloc (Nat.le_refl _) _⟩
  have H4 := Lib.hid h4
  clear h4
  by_cases h5 : 0 ≤ c ∧ c ≤ 72057594037927935
  rotate_left
  · have H5 := Lib.hid h5
    have HF := Lib.hid (headB_no k f o v p c cl se rq a b (by have := H5.out; omega))
    go_enter Tryd.func87, Tryd.ntmps87
    go_wp2_with fail
    refine (rsmall_yes _ _ H0.out).mono ?_
    rintro e w1 ⟨rfl, rfl⟩
    go_wp2_with fail
    refine (rsmall_yes _ _ H1.out).mono ?_
    rintro e w1 ⟨rfl, rfl⟩
    go_wp2_with fail
    refine (rsmall_yes _ _ H2.out).mono ?_
    rintro e w1 ⟨rfl, rfl⟩
    go_wp2_with fail
    refine (rfits_yes _ _ H3.out).mono ?_
    rintro e w1 ⟨rfl, rfl⟩
    go_wp2_with fail
    refine (rfits_yes _ _ H4.out).mono ?_
    rintro e w1 ⟨rfl, rfl⟩
    go_wp2_with fail
    refine (rfits_no _ _ H5.out).mono ?_
    rintro e w1 ⟨rfl, rfl⟩
    go_wp2_with fail
    go_ret
    exact ⟨ret_bool HF.out.symm, (Below.refl _ _).alloc (Nat.le_refl _) _⟩
  have H5 := Lib.hid h5
  clear h5
  by_cases h6 : 0 ≤ cl ∧ cl ≤ 72057594037927935
  rotate_left
  · have H6 := Lib.hid h6
    have HF := Lib.hid (headB_no k f o v p c cl se rq a b (by have := H6.out; omega))
    go_enter Tryd.func87, Tryd.ntmps87
    go_wp2_with fail
    refine (rsmall_yes _ _ H0.out).mono ?_
    rintro e w1 ⟨rfl, rfl⟩
    go_wp2_with fail
    refine (rsmall_yes _ _ H1.out).mono ?_
    rintro e w1 ⟨rfl, rfl⟩
    go_wp2_with fail
    refine (rsmall_yes _ _ H2.out).mono ?_
    rintro e w1 ⟨rfl, rfl⟩
    go_wp2_with fail
    refine (rfits_yes _ _ H3.out).mono ?_
    rintro e w1 ⟨rfl, rfl⟩
    go_wp2_with fail
    refine (rfits_yes _ _ H4.out).mono ?_
    rintro e w1 ⟨rfl, rfl⟩
    go_wp2_with fail
    refine (rfits_yes _ _ H5.out).mono ?_
    rintro e w1 ⟨rfl, rfl⟩
    go_wp2_with fail
    refine (rfits_no _ _ H6.out).mono ?_
    rintro e w1 ⟨rfl, rfl⟩
    go_wp2_with fail
    go_ret
    exact ⟨ret_bool HF.out.symm, (Below.refl _ _).alloc (Nat.le_refl _) _⟩
  have H6 := Lib.hid h6
  clear h6
  by_cases h7 : 0 ≤ se ∧ se ≤ 72057594037927935
  rotate_left
  · have H7 := Lib.hid h7
    have HF := Lib.hid (headB_no k f o v p c cl se rq a b (by have := H7.out; omega))
    go_enter Tryd.func87, Tryd.ntmps87
    go_wp2_with fail
    refine (rsmall_yes _ _ H0.out).mono ?_
    rintro e w1 ⟨rfl, rfl⟩
    go_wp2_with fail
    refine (rsmall_yes _ _ H1.out).mono ?_
    rintro e w1 ⟨rfl, rfl⟩
    go_wp2_with fail
    refine (rsmall_yes _ _ H2.out).mono ?_
    rintro e w1 ⟨rfl, rfl⟩
    go_wp2_with fail
    refine (rfits_yes _ _ H3.out).mono ?_
    rintro e w1 ⟨rfl, rfl⟩
    go_wp2_with fail
    refine (rfits_yes _ _ H4.out).mono ?_
    rintro e w1 ⟨rfl, rfl⟩
    go_wp2_with fail
    refine (rfits_yes _ _ H5.out).mono ?_
    rintro e w1 ⟨rfl, rfl⟩
    go_wp2_with fail
    refine (rfits_yes _ _ H6.out).mono ?_
    rintro e w1 ⟨rfl, rfl⟩
    go_wp2_with fail
    refine (rfits_no _ _ H7.out).mono ?_
    rintro e w1 ⟨rfl, rfl⟩
    go_wp2_with fail
    go_ret
    exact ⟨ret_bool HF.out.symm, (Below.refl _ _).alloc (Nat.le_refl _) _⟩
  have H7 := Lib.hid h7
  clear h7
  by_cases h8 : 0 ≤ rq ∧ rq ≤ 72057594037927935
  rotate_left
  · have H8 := Lib.hid h8
    have HF := Lib.hid (headB_no k f o v p c cl se rq a b (by have := H8.out; omega))
    go_enter Tryd.func87, Tryd.ntmps87
    go_wp2_with fail
    refine (rsmall_yes _ _ H0.out).mono ?_
    rintro e w1 ⟨rfl, rfl⟩
    go_wp2_with fail
    refine (rsmall_yes _ _ H1.out).mono ?_
    rintro e w1 ⟨rfl, rfl⟩
    go_wp2_with fail
    refine (rsmall_yes _ _ H2.out).mono ?_
    rintro e w1 ⟨rfl, rfl⟩
    go_wp2_with fail
    refine (rfits_yes _ _ H3.out).mono ?_
    rintro e w1 ⟨rfl, rfl⟩
    go_wp2_with fail
    refine (rfits_yes _ _ H4.out).mono ?_
    rintro e w1 ⟨rfl, rfl⟩
    go_wp2_with fail
    refine (rfits_yes _ _ H5.out).mono ?_
    rintro e w1 ⟨rfl, rfl⟩
    go_wp2_with fail
    refine (rfits_yes _ _ H6.out).mono ?_
    rintro e w1 ⟨rfl, rfl⟩
    go_wp2_with fail
    refine (rfits_yes _ _ H7.out).mono ?_
    rintro e w1 ⟨rfl, rfl⟩
    go_wp2_with fail
    refine (rfits_no _ _ H8.out).mono ?_
    rintro e w1 ⟨rfl, rfl⟩
    go_wp2_with fail
    go_ret
    exact ⟨ret_bool HF.out.symm, (Below.refl _ _).alloc (Nat.le_refl _) _⟩
  have H8 := Lib.hid h8
  clear h8
  by_cases h9 : 0 ≤ a ∧ a ≤ 72057594037927935
  rotate_left
  · have H9 := Lib.hid h9
    have HF := Lib.hid (headB_no k f o v p c cl se rq a b (by have := H9.out; omega))
    go_enter Tryd.func87, Tryd.ntmps87
    go_wp2_with fail
    refine (rsmall_yes _ _ H0.out).mono ?_
    rintro e w1 ⟨rfl, rfl⟩
    go_wp2_with fail
    refine (rsmall_yes _ _ H1.out).mono ?_
    rintro e w1 ⟨rfl, rfl⟩
    go_wp2_with fail
    refine (rsmall_yes _ _ H2.out).mono ?_
    rintro e w1 ⟨rfl, rfl⟩
    go_wp2_with fail
    refine (rfits_yes _ _ H3.out).mono ?_
    rintro e w1 ⟨rfl, rfl⟩
    go_wp2_with fail
    refine (rfits_yes _ _ H4.out).mono ?_
    rintro e w1 ⟨rfl, rfl⟩
    go_wp2_with fail
    refine (rfits_yes _ _ H5.out).mono ?_
    rintro e w1 ⟨rfl, rfl⟩
    go_wp2_with fail
    refine (rfits_yes _ _ H6.out).mono ?_
    rintro e w1 ⟨rfl, rfl⟩
    go_wp2_with fail
    refine (rfits_yes _ _ H7.out).mono ?_
    rintro e w1 ⟨rfl, rfl⟩
    go_wp2_with fail
    refine (rfits_yes _ _ H8.out).mono ?_
    rintro e w1 ⟨rfl, rfl⟩
    go_wp2_with fail
    refine (rfits_no _ _ H9.out).mono ?_
    rintro e w1 ⟨rfl, rfl⟩
    go_wp2_with fail
    go_ret
    exact ⟨ret_bool HF.out.symm, (Below.refl _ _).alloc (Nat.le_refl _) _⟩
  have H9 := Lib.hid h9
  clear h9
  by_cases h10 : 0 ≤ b ∧ b ≤ 72057594037927935
  rotate_left
  · have H10 := Lib.hid h10
    have HF := Lib.hid (headB_no k f o v p c cl se rq a b (by have := H10.out; omega))
    go_enter Tryd.func87, Tryd.ntmps87
    go_wp2_with fail
    refine (rsmall_yes _ _ H0.out).mono ?_
    rintro e w1 ⟨rfl, rfl⟩
    go_wp2_with fail
    refine (rsmall_yes _ _ H1.out).mono ?_
    rintro e w1 ⟨rfl, rfl⟩
    go_wp2_with fail
    refine (rsmall_yes _ _ H2.out).mono ?_
    rintro e w1 ⟨rfl, rfl⟩
    go_wp2_with fail
    refine (rfits_yes _ _ H3.out).mono ?_
    rintro e w1 ⟨rfl, rfl⟩
    go_wp2_with fail
    refine (rfits_yes _ _ H4.out).mono ?_
    rintro e w1 ⟨rfl, rfl⟩
    go_wp2_with fail
    refine (rfits_yes _ _ H5.out).mono ?_
    rintro e w1 ⟨rfl, rfl⟩
    go_wp2_with fail
    refine (rfits_yes _ _ H6.out).mono ?_
    rintro e w1 ⟨rfl, rfl⟩
    go_wp2_with fail
    refine (rfits_yes _ _ H7.out).mono ?_
    rintro e w1 ⟨rfl, rfl⟩
    go_wp2_with fail
    refine (rfits_yes _ _ H8.out).mono ?_
    rintro e w1 ⟨rfl, rfl⟩
    go_wp2_with fail
    refine (rfits_yes _ _ H9.out).mono ?_
    rintro e w1 ⟨rfl, rfl⟩
    go_wp2_with fail
    refine (rfits_no _ _ H10.out).mono ?_
    rintro e w1 ⟨rfl, rfl⟩
    go_wp2_with fail
    go_ret
    exact ⟨ret_bool HF.out.symm, (Below.refl _ _).alloc (Nat.le_refl _) _⟩
  have H10 := Lib.hid h10
  clear h10
  have HF := Lib.hid (headB_yes k f o v p c cl se rq a b ⟨H0.out, H1.out, H2.out, H3.out, H4.out, H5.out, H6.out, H7.out, H8.out, H9.out, H10.out⟩)
  go_enter Tryd.func87, Tryd.ntmps87
  go_wp2_with fail
  refine (rsmall_yes _ _ H0.out).mono ?_
  rintro e w1 ⟨rfl, rfl⟩
  go_wp2_with fail
  refine (rsmall_yes _ _ H1.out).mono ?_
  rintro e w1 ⟨rfl, rfl⟩
  go_wp2_with fail
  refine (rsmall_yes _ _ H2.out).mono ?_
  rintro e w1 ⟨rfl, rfl⟩
  go_wp2_with fail
  refine (rfits_yes _ _ H3.out).mono ?_
  rintro e w1 ⟨rfl, rfl⟩
  go_wp2_with fail
  refine (rfits_yes _ _ H4.out).mono ?_
  rintro e w1 ⟨rfl, rfl⟩
  go_wp2_with fail
  refine (rfits_yes _ _ H5.out).mono ?_
  rintro e w1 ⟨rfl, rfl⟩
  go_wp2_with fail
  refine (rfits_yes _ _ H6.out).mono ?_
  rintro e w1 ⟨rfl, rfl⟩
  go_wp2_with fail
  refine (rfits_yes _ _ H7.out).mono ?_
  rintro e w1 ⟨rfl, rfl⟩
  go_wp2_with fail
  refine (rfits_yes _ _ H8.out).mono ?_
  rintro e w1 ⟨rfl, rfl⟩
  go_wp2_with fail
  refine (rfits_yes _ _ H9.out).mono ?_
  rintro e w1 ⟨rfl, rfl⟩
  go_wp2_with fail
  refine (rfits_yes _ _ H10.out).mono ?_
  rintro e w1 ⟨rfl, rfl⟩
  go_wp2_with fail
  go_ret
  exact ⟨ret_bool HF.out.symm, (Below.refl _ _).alloc (Nat.le_refl _) _⟩
theorem holds_zero (w : World) (p : Option Addr) (c : Nat) : Holds w (.slice p 0 c) [] := ⟨fun b hb => (by cases hb), p, c, rfl, fun _ => rfl, fun a ha i x hx => (by cases hx)⟩
set_option maxHeartbeats 1000000 in
/-- comptorref05.put: a number that fits, behind bytes. -/
theorem rput (p : Option Addr) (cap : Nat) (L : List Nat) (n size : Nat) (w : World) (hb : Holds w (.slice p L.length cap) L) (hn : n < 18446744073709551616) (hs : 1 ≤ size) (hs8 : size ≤ 8) (hfit : n / 256 ^ size = 0) (hlen : L.length + 8 ≤ 140737488355328) :
    Calls Tryd.prog 88 #[.slice p L.length cap, .int .u64 n, .int .i64 size] w fun e w' => ∃ v', e = .returned v' ∧ OwnB w.heap.size w' v' (L ++ leN n size) ∧ Below w.heap.size w w' := by
  have HC := Lib.hid (refput_loop p cap L n size w hb hn hs hs8 hlen)
  have HZ := Lib.hid hfit
  clear hb hn hs hs8 hfit hlen
  go_enter Tryd.func88, Tryd.ntmps88
  go_wp2_with fail
  refine HC.out.mono ?_
  rintro e w1 ⟨hb1, hP⟩
  obtain ⟨v', rfl, hO⟩ : ∃ v', e = .returned (.tuple #[v', .int .i64 0]) ∧ OwnB w.heap.size w1 v' (L ++ leN n size) := by
    rcases hP with h | h
    · exact h.2
    · exact absurd HZ.out h.1
  have H1 := Lib.hid (And.intro hO hb1)
  clear hP hO hb1
  go_wp2_with fail
  go_ret
  exact ⟨v', rfl, H1.out.1, H1.out.2⟩
theorem OwnB.mono {B B' : Nat} {w : World} {v : Value} {L : List Nat} (h : OwnB B w v L) (hB : B' ≤ B) : OwnB B' w v L := by
  refine ⟨h.1, ?_⟩
  have h2 := h.2
  unfold World.ownsRow at h2 ⊢
  refine ⟨h2.1, ?_⟩
  rcases h2.2 with h | ⟨g, cap, cur, r1, r2, r3⟩
  · exact .inl h
  · exact .inr ⟨g, cap, cur, r1, Nat.le_trans hB r2, r3⟩
theorem OwnB.slice' {B : Nat} {w : World} {v : Value} {l : List Nat} (h : OwnB B w v l) : ∃ p cap, v = .slice p l.length cap ∧ l.length ≤ cap := by
  rcases h.2.2 with ⟨rfl, hn⟩ | ⟨g, cap, cur, rfl, _, _, hc, _⟩
  · exact ⟨none, 0, by rw [hn], by omega⟩
  · exact ⟨_, cap, rfl, hc⟩
theorem rputO {B : Nat} (v : Value) (L : List Nat) (n size : Nat) (w : World) (hO : OwnB B w v L) (hn : n < 18446744073709551616) (hs : 1 ≤ size) (hs8 : size ≤ 8) (hfit : n / 256 ^ size = 0) (hlen : L.length + 8 ≤ 140737488355328) :
    Calls Tryd.prog 88 #[v, .int .u64 n, .int .i64 size] w fun e w' => ∃ v', e = .returned v' ∧ OwnB w.heap.size w' v' (L ++ leN n size) ∧ Below w.heap.size w w' := by
  have hh := hO.holds
  obtain ⟨p, cap, rfl, _⟩ := hO.slice'
  exact rput p cap L n size w hh hn hs hs8 hfit hlen
end Go.Proofs.YtpbjjmenkoigjaaDoor
end

section
namespace Go.Proofs.YtpbjjmenkoigjaaDoor
open Go.RowKit
set_option maxHeartbeats 2000000 in
theorem rpack_form (k f o v p c cl se rq a b : Int) (par : Int) (body : ByteArray) (w : World) (h : headB k f o v p c cl se rq a b = false) :
    Calls Tryd.prog 83 #[.agg #[.int .i64 k, .int .i64 f, .int .i64 o, .int .i64 v, .int .i64 p, .int .i64 c, .int .i64 cl, .int .i64 se, .int .i64 rq, .int .i64 a, .int .i64 b, .int .u64 par], .string body] w fun e w' => e = .returned (.tuple #[.string ⟨#[]⟩, .int .i64 4]) ∧ Below w.heap.size w w' := by
  have hr := fun w => refright_any k f o v p c cl se rq a b par w
  rw [h] at hr
  have HR := Lib.hid hr
  clear hr h
  have HB0 := Lib.hid ((Below.refl w.heap.size w).alloc (Nat.le_refl _) (.cells #[.int .i64 k, .int .i64 f, .int .i64 o, .int .i64 v, .int .i64 p, .int .i64 c, .int .i64 cl, .int .i64 se, .int .i64 rq, .int .i64 a, .int .i64 b, .int .u64 par] 75))
  go_enter Tryd.func83, Tryd.ntmps83
  go_wp2_with fail
  refine (HR.out _).mono ?_
  rintro e w1 ⟨rfl, hb1⟩
  go_wp2_with fail
  go_ret2
  exact ⟨rfl, HB0.out.trans (hb1.mono (by simp))⟩
set_option maxHeartbeats 2000000 in
theorem rpack_long (k f o v p c cl se rq a b : Int) (par : Int) (body : ByteArray) (w : World) (h : headB k f o v p c cl se rq a b = true) (hl : 3968 < body.size) :
    Calls Tryd.prog 83 #[.agg #[.int .i64 k, .int .i64 f, .int .i64 o, .int .i64 v, .int .i64 p, .int .i64 c, .int .i64 cl, .int .i64 se, .int .i64 rq, .int .i64 a, .int .i64 b, .int .u64 par], .string body] w fun e w' => e = .returned (.tuple #[.string ⟨#[]⟩, .int .i64 5]) ∧ Below w.heap.size w w' := by
  have hr := fun w => refright_any k f o v p c cl se rq a b par w
  rw [h] at hr
  have HR := Lib.hid hr
  clear hr h
  have HB0 := Lib.hid ((Below.refl w.heap.size w).alloc (Nat.le_refl _) (.cells #[.int .i64 k, .int .i64 f, .int .i64 o, .int .i64 v, .int .i64 p, .int .i64 c, .int .i64 cl, .int .i64 se, .int .i64 rq, .int .i64 a, .int .i64 b, .int .u64 par] 75))
  have hl' : (3968 : Int) < body.size := by omega
  go_enter Tryd.func83, Tryd.ntmps83
  go_wp2_with fail
  refine (HR.out _).mono ?_
  rintro e w1 ⟨rfl, hb1⟩
  go_wp2_with fail
  go_ret2
  exact ⟨rfl, HB0.out.trans (hb1.mono (by simp))⟩
theorem leN_one (x : Nat) (h : x < 256) : leN x 1 = [x] := by
  simp [leN, List.range_succ]; omega
set_option maxHeartbeats 8000000 in
theorem rpack_ok (k f o v p c cl se rq a b : Nat) (par : Nat) (body : ByteArray) (w : World) (h : headB k f o v p c cl se rq a b = true) (hl : body.size ≤ 3968) (hpar : par < 18446744073709551616) :
    Calls Tryd.prog 83 #[.agg #[.int .i64 k, .int .i64 f, .int .i64 o, .int .i64 v, .int .i64 p, .int .i64 c, .int .i64 cl, .int .i64 se, .int .i64 rq, .int .i64 a, .int .i64 b, .int .u64 par], .string body] w fun e w' =>
      e = .returned (.tuple #[.string (text (packL k f o [v, p, c, cl, se, rq, a, b] par (nats body))), .int .i64 0]) ∧ Below w.heap.size w w' := by
  have hr := fun w => refright_any k f o v p c cl se rq a b par w
  have hbd := of_decide_eq_true h
  rw [h] at hr
  have HR := Lib.hid hr
  clear hr h
  have HB0 := Lib.hid ((Below.refl w.heap.size w).alloc (Nat.le_refl _) (.cells #[.int .i64 k, .int .i64 f, .int .i64 o, .int .i64 v, .int .i64 p, .int .i64 c, .int .i64 cl, .int .i64 se, .int .i64 rq, .int .i64 a, .int .i64 b, .int .u64 par] 75))
  have HROW := Lib.hid (Row.new w #[.int .i64 k, .int .i64 f, .int .i64 o, .int .i64 v, .int .i64 p, .int .i64 c, .int .i64 cl, .int .i64 se, .int .i64 rq, .int .i64 a, .int .i64 b, .int .u64 par] 75 _ rfl)
  have hl' : ¬ (3968 : Int) < body.size := by omega
  have HBD := Lib.hid hbd
  clear hbd
  go_enter Tryd.func83, Tryd.ntmps83
  go_wp2_with fail
  refine (HR.out _).mono ?_
  rintro e w1 ⟨rfl, hb1⟩
  have H1 := Lib.hid (And.intro (HROW.out.below hb1 HROW.out.1) (HB0.out.trans (hb1.mono HB0.out.size)))
  clear hb1 HB0 HROW
  go_wp2_with fail
  have H1 := Lib.hid (And.intro (H1.out.1.alloc (.cells #[] 5)) (H1.out.2.alloc H1.out.2.size (.cells #[] 5)))
  refine (refsum_all body _ (by unfold maxLen; omega)).mono ?_
  rintro e w2 ⟨rfl, rfl⟩
  have hlt := add_lt 0 (nats body)
  obtain ⟨S, hS⟩ : ∃ S, Crc.add 0 (nats body) = S := ⟨_, rfl⟩
  rw [hS] at hlt ⊢
  have HS := Lib.hid hS
  clear hS
  have hw0 := wrap_u64_of S (by omega)
  go_wp2_with fail
  refine (rput _ 0 [] S 4 _ (holds_zero _ _ _) (by omega) (by decide) (by decide) (Nat.div_eq_of_lt hlt) (by decide)).mono ?_
  rintro e w2 ⟨v2, rfl, hO, hb⟩
  obtain ⟨L, hL⟩ : ∃ L, L = [] ++ leN S 4 := ⟨_, rfl⟩
  rw [← hL] at hO
  have HLN := Lib.hid (show L.length = 4 by rw [hL]; simp [leN_length])
  have HL := Lib.hid hL
  have H := Lib.hid (And.intro (H1.out.1.below hb H1.out.1.1) (And.intro (H1.out.2.trans (hb.mono H1.out.2.size)) (hO.mono (Nat.succ_le_of_lt (show w.heap.size < _ from H1.out.1.1)))))
  clear hL hb hO H1 hw0
  have cc := H.out.1.2 0 _ rfl
  have hfit : k < 256 ^ 1 := by rw [show (256 : Nat) ^ 1 = 256 from by decide]; have := HBD.out; omega
  have hw0 := wrap_u64_of k (by have := HBD.out; omega)
  have HF := Lib.hid hfit
  clear hfit
  go_wp2_with fail
  refine (rputO _ L k 1 _ H.out.2.2 (by have := HBD.out; omega) (by decide) (by decide) (Nat.div_eq_of_lt HF.out) (by rw [HLN.out]; decide)).mono ?_
  rintro e w3 ⟨v3, rfl, hO, hb⟩
  obtain ⟨L', hL⟩ : ∃ L', L' = L ++ leN k 1 := ⟨_, rfl⟩
  rw [← hL] at hO
  have HLN' := Lib.hid (show L'.length = 5 by rw [hL, List.length_append, leN_length, HLN.out])
  have HL' := Lib.hid (show L' = [] ++ leN S 4 ++ leN k 1 by rw [hL, HL.out])
  have H' := Lib.hid (And.intro (H.out.1.below hb H.out.1.1) (And.intro (H.out.2.1.trans (hb.mono H.out.2.1.size)) (hO.mono (Nat.succ_le_of_lt H.out.1.1))))
  clear hL hb hO H HL HLN HF hw0 cc
  obtain ⟨L, HLN, HL, H⟩ : ∃ L : List Nat, Hid (L.length = 5) ∧ Hid (L = [] ++ leN S 4 ++ leN k 1) ∧ Hid (Row w3 w.heap.size #[.int .i64 k, .int .i64 f, .int .i64 o, .int .i64 v, .int .i64 p, .int .i64 c, .int .i64 cl, .int .i64 se, .int .i64 rq, .int .i64 a, .int .i64 b, .int .u64 par] ∧ Below w.heap.size w w3 ∧ OwnB (w.heap.size + 1) w3 v3 L) := ⟨L', HLN', HL', H'⟩
  clear HLN' HL' H' L'
  have cc := H.out.1.2 1 _ rfl
  have hfit : f < 256 ^ 1 := by rw [show (256 : Nat) ^ 1 = 256 from by decide]; have := HBD.out; omega
  have hw0 := wrap_u64_of f (by have := HBD.out; omega)
  have HF := Lib.hid hfit
  clear hfit
  go_wp2_with fail
  refine (rputO _ L f 1 _ H.out.2.2 (by have := HBD.out; omega) (by decide) (by decide) (Nat.div_eq_of_lt HF.out) (by rw [HLN.out]; decide)).mono ?_
  rintro e w3 ⟨v3, rfl, hO, hb⟩
  obtain ⟨L', hL⟩ : ∃ L', L' = L ++ leN f 1 := ⟨_, rfl⟩
  rw [← hL] at hO
  have HLN' := Lib.hid (show L'.length = 6 by rw [hL, List.length_append, leN_length, HLN.out])
  have HL' := Lib.hid (show L' = [] ++ leN S 4 ++ leN k 1 ++ leN f 1 by rw [hL, HL.out])
  have H' := Lib.hid (And.intro (H.out.1.below hb H.out.1.1) (And.intro (H.out.2.1.trans (hb.mono H.out.2.1.size)) (hO.mono (Nat.succ_le_of_lt H.out.1.1))))
  clear hL hb hO H HL HLN HF hw0 cc
  obtain ⟨L, HLN, HL, H⟩ : ∃ L : List Nat, Hid (L.length = 6) ∧ Hid (L = [] ++ leN S 4 ++ leN k 1 ++ leN f 1) ∧ Hid (Row w3 w.heap.size #[.int .i64 k, .int .i64 f, .int .i64 o, .int .i64 v, .int .i64 p, .int .i64 c, .int .i64 cl, .int .i64 se, .int .i64 rq, .int .i64 a, .int .i64 b, .int .u64 par] ∧ Below w.heap.size w w3 ∧ OwnB (w.heap.size + 1) w3 v3 L) := ⟨L', HLN', HL', H'⟩
  clear HLN' HL' H' L'
  have cc := H.out.1.2 2 _ rfl
  have hfit : o < 256 ^ 1 := by rw [show (256 : Nat) ^ 1 = 256 from by decide]; have := HBD.out; omega
  have hw0 := wrap_u64_of o (by have := HBD.out; omega)
  have HF := Lib.hid hfit
  clear hfit
  go_wp2_with fail
  refine (rputO _ L o 1 _ H.out.2.2 (by have := HBD.out; omega) (by decide) (by decide) (Nat.div_eq_of_lt HF.out) (by rw [HLN.out]; decide)).mono ?_
  rintro e w3 ⟨v3, rfl, hO, hb⟩
  obtain ⟨L', hL⟩ : ∃ L', L' = L ++ leN o 1 := ⟨_, rfl⟩
  rw [← hL] at hO
  have HLN' := Lib.hid (show L'.length = 7 by rw [hL, List.length_append, leN_length, HLN.out])
  have HL' := Lib.hid (show L' = [] ++ leN S 4 ++ leN k 1 ++ leN f 1 ++ leN o 1 by rw [hL, HL.out])
  have H' := Lib.hid (And.intro (H.out.1.below hb H.out.1.1) (And.intro (H.out.2.1.trans (hb.mono H.out.2.1.size)) (hO.mono (Nat.succ_le_of_lt H.out.1.1))))
  clear hL hb hO H HL HLN HF hw0 cc
  obtain ⟨L, HLN, HL, H⟩ : ∃ L : List Nat, Hid (L.length = 7) ∧ Hid (L = [] ++ leN S 4 ++ leN k 1 ++ leN f 1 ++ leN o 1) ∧ Hid (Row w3 w.heap.size #[.int .i64 k, .int .i64 f, .int .i64 o, .int .i64 v, .int .i64 p, .int .i64 c, .int .i64 cl, .int .i64 se, .int .i64 rq, .int .i64 a, .int .i64 b, .int .u64 par] ∧ Below w.heap.size w w3 ∧ OwnB (w.heap.size + 1) w3 v3 L) := ⟨L', HLN', HL', H'⟩
  clear HLN' HL' H' L'
  have hfit : 0 < 256 ^ 1 := by rw [show (256 : Nat) ^ 1 = 256 from by decide]; have := HBD.out; omega
  have HF := Lib.hid hfit
  clear hfit
  go_wp2_with fail
  refine (rputO _ L 0 1 _ H.out.2.2 (by have := HBD.out; omega) (by decide) (by decide) (Nat.div_eq_of_lt HF.out) (by rw [HLN.out]; decide)).mono ?_
  rintro e w3 ⟨v3, rfl, hO, hb⟩
  obtain ⟨L', hL⟩ : ∃ L', L' = L ++ leN 0 1 := ⟨_, rfl⟩
  rw [← hL] at hO
  have HLN' := Lib.hid (show L'.length = 8 by rw [hL, List.length_append, leN_length, HLN.out])
  have HL' := Lib.hid (show L' = [] ++ leN S 4 ++ leN k 1 ++ leN f 1 ++ leN o 1 ++ leN 0 1 by rw [hL, HL.out])
  have H' := Lib.hid (And.intro (H.out.1.below hb H.out.1.1) (And.intro (H.out.2.1.trans (hb.mono H.out.2.1.size)) (hO.mono (Nat.succ_le_of_lt H.out.1.1))))
  clear hL hb hO H HL HLN HF
  obtain ⟨L, HLN, HL, H⟩ : ∃ L : List Nat, Hid (L.length = 8) ∧ Hid (L = [] ++ leN S 4 ++ leN k 1 ++ leN f 1 ++ leN o 1 ++ leN 0 1) ∧ Hid (Row w3 w.heap.size #[.int .i64 k, .int .i64 f, .int .i64 o, .int .i64 v, .int .i64 p, .int .i64 c, .int .i64 cl, .int .i64 se, .int .i64 rq, .int .i64 a, .int .i64 b, .int .u64 par] ∧ Below w.heap.size w w3 ∧ OwnB (w.heap.size + 1) w3 v3 L) := ⟨L', HLN', HL', H'⟩
  clear HLN' HL' H' L'
  have hfit : body.size < 256 ^ 4 := by rw [show (256 : Nat) ^ 4 = 4294967296 from by decide]; have := HBD.out; omega
  have hw0 := wrap_u64_of body.size (by have := HBD.out; omega)
  have HF := Lib.hid hfit
  clear hfit
  go_wp2_with fail
  refine (rputO _ L body.size 4 _ H.out.2.2 (by have := HBD.out; omega) (by decide) (by decide) (Nat.div_eq_of_lt HF.out) (by rw [HLN.out]; decide)).mono ?_
  rintro e w3 ⟨v3, rfl, hO, hb⟩
  obtain ⟨L', hL⟩ : ∃ L', L' = L ++ leN body.size 4 := ⟨_, rfl⟩
  rw [← hL] at hO
  have HLN' := Lib.hid (show L'.length = 12 by rw [hL, List.length_append, leN_length, HLN.out])
  have HL' := Lib.hid (show L' = [] ++ leN S 4 ++ leN k 1 ++ leN f 1 ++ leN o 1 ++ leN 0 1 ++ leN body.size 4 by rw [hL, HL.out])
  have H' := Lib.hid (And.intro (H.out.1.below hb H.out.1.1) (And.intro (H.out.2.1.trans (hb.mono H.out.2.1.size)) (hO.mono (Nat.succ_le_of_lt H.out.1.1))))
  clear hL hb hO H HL HLN HF hw0
  obtain ⟨L, HLN, HL, H⟩ : ∃ L : List Nat, Hid (L.length = 12) ∧ Hid (L = [] ++ leN S 4 ++ leN k 1 ++ leN f 1 ++ leN o 1 ++ leN 0 1 ++ leN body.size 4) ∧ Hid (Row w3 w.heap.size #[.int .i64 k, .int .i64 f, .int .i64 o, .int .i64 v, .int .i64 p, .int .i64 c, .int .i64 cl, .int .i64 se, .int .i64 rq, .int .i64 a, .int .i64 b, .int .u64 par] ∧ Below w.heap.size w w3 ∧ OwnB (w.heap.size + 1) w3 v3 L) := ⟨L', HLN', HL', H'⟩
  clear HLN' HL' H' L'
  have cc := H.out.1.2 11 _ rfl
  have hfit : par < 256 ^ 8 := by rw [show (256 : Nat) ^ 8 = 18446744073709551616 from by decide]; have := HBD.out; omega
  have HF := Lib.hid hfit
  clear hfit
  go_wp2_with fail
  refine (rputO _ L par 8 _ H.out.2.2 (by have := HBD.out; omega) (by decide) (by decide) (Nat.div_eq_of_lt HF.out) (by rw [HLN.out]; decide)).mono ?_
  rintro e w3 ⟨v3, rfl, hO, hb⟩
  obtain ⟨L', hL⟩ : ∃ L', L' = L ++ leN par 8 := ⟨_, rfl⟩
  rw [← hL] at hO
  have HLN' := Lib.hid (show L'.length = 20 by rw [hL, List.length_append, leN_length, HLN.out])
  have HL' := Lib.hid (show L' = [] ++ leN S 4 ++ leN k 1 ++ leN f 1 ++ leN o 1 ++ leN 0 1 ++ leN body.size 4 ++ leN par 8 by rw [hL, HL.out])
  have H' := Lib.hid (And.intro (H.out.1.below hb H.out.1.1) (And.intro (H.out.2.1.trans (hb.mono H.out.2.1.size)) (hO.mono (Nat.succ_le_of_lt H.out.1.1))))
  clear hL hb hO H HL HLN HF cc
  obtain ⟨L, HLN, HL, H⟩ : ∃ L : List Nat, Hid (L.length = 20) ∧ Hid (L = [] ++ leN S 4 ++ leN k 1 ++ leN f 1 ++ leN o 1 ++ leN 0 1 ++ leN body.size 4 ++ leN par 8) ∧ Hid (Row w3 w.heap.size #[.int .i64 k, .int .i64 f, .int .i64 o, .int .i64 v, .int .i64 p, .int .i64 c, .int .i64 cl, .int .i64 se, .int .i64 rq, .int .i64 a, .int .i64 b, .int .u64 par] ∧ Below w.heap.size w w3 ∧ OwnB (w.heap.size + 1) w3 v3 L) := ⟨L', HLN', HL', H'⟩
  clear HLN' HL' H' L'
  have cc := H.out.1.2 3 _ rfl
  have hfit : v < 256 ^ 8 := by rw [show (256 : Nat) ^ 8 = 18446744073709551616 from by decide]; have := HBD.out; omega
  have hw0 := wrap_u64_of v (by have := HBD.out; omega)
  have HF := Lib.hid hfit
  clear hfit
  go_wp2_with fail
  refine (rputO _ L v 8 _ H.out.2.2 (by have := HBD.out; omega) (by decide) (by decide) (Nat.div_eq_of_lt HF.out) (by rw [HLN.out]; decide)).mono ?_
  rintro e w3 ⟨v3, rfl, hO, hb⟩
  obtain ⟨L', hL⟩ : ∃ L', L' = L ++ leN v 8 := ⟨_, rfl⟩
  rw [← hL] at hO
  have HLN' := Lib.hid (show L'.length = 28 by rw [hL, List.length_append, leN_length, HLN.out])
  have HL' := Lib.hid (show L' = [] ++ leN S 4 ++ leN k 1 ++ leN f 1 ++ leN o 1 ++ leN 0 1 ++ leN body.size 4 ++ leN par 8 ++ leN v 8 by rw [hL, HL.out])
  have H' := Lib.hid (And.intro (H.out.1.below hb H.out.1.1) (And.intro (H.out.2.1.trans (hb.mono H.out.2.1.size)) (hO.mono (Nat.succ_le_of_lt H.out.1.1))))
  clear hL hb hO H HL HLN HF hw0 cc
  obtain ⟨L, HLN, HL, H⟩ : ∃ L : List Nat, Hid (L.length = 28) ∧ Hid (L = [] ++ leN S 4 ++ leN k 1 ++ leN f 1 ++ leN o 1 ++ leN 0 1 ++ leN body.size 4 ++ leN par 8 ++ leN v 8) ∧ Hid (Row w3 w.heap.size #[.int .i64 k, .int .i64 f, .int .i64 o, .int .i64 v, .int .i64 p, .int .i64 c, .int .i64 cl, .int .i64 se, .int .i64 rq, .int .i64 a, .int .i64 b, .int .u64 par] ∧ Below w.heap.size w w3 ∧ OwnB (w.heap.size + 1) w3 v3 L) := ⟨L', HLN', HL', H'⟩
  clear HLN' HL' H' L'
  have cc := H.out.1.2 4 _ rfl
  have hfit : p < 256 ^ 8 := by rw [show (256 : Nat) ^ 8 = 18446744073709551616 from by decide]; have := HBD.out; omega
  have hw0 := wrap_u64_of p (by have := HBD.out; omega)
  have HF := Lib.hid hfit
  clear hfit
  go_wp2_with fail
  refine (rputO _ L p 8 _ H.out.2.2 (by have := HBD.out; omega) (by decide) (by decide) (Nat.div_eq_of_lt HF.out) (by rw [HLN.out]; decide)).mono ?_
  rintro e w3 ⟨v3, rfl, hO, hb⟩
  obtain ⟨L', hL⟩ : ∃ L', L' = L ++ leN p 8 := ⟨_, rfl⟩
  rw [← hL] at hO
  have HLN' := Lib.hid (show L'.length = 36 by rw [hL, List.length_append, leN_length, HLN.out])
  have HL' := Lib.hid (show L' = [] ++ leN S 4 ++ leN k 1 ++ leN f 1 ++ leN o 1 ++ leN 0 1 ++ leN body.size 4 ++ leN par 8 ++ leN v 8 ++ leN p 8 by rw [hL, HL.out])
  have H' := Lib.hid (And.intro (H.out.1.below hb H.out.1.1) (And.intro (H.out.2.1.trans (hb.mono H.out.2.1.size)) (hO.mono (Nat.succ_le_of_lt H.out.1.1))))
  clear hL hb hO H HL HLN HF hw0 cc
  obtain ⟨L, HLN, HL, H⟩ : ∃ L : List Nat, Hid (L.length = 36) ∧ Hid (L = [] ++ leN S 4 ++ leN k 1 ++ leN f 1 ++ leN o 1 ++ leN 0 1 ++ leN body.size 4 ++ leN par 8 ++ leN v 8 ++ leN p 8) ∧ Hid (Row w3 w.heap.size #[.int .i64 k, .int .i64 f, .int .i64 o, .int .i64 v, .int .i64 p, .int .i64 c, .int .i64 cl, .int .i64 se, .int .i64 rq, .int .i64 a, .int .i64 b, .int .u64 par] ∧ Below w.heap.size w w3 ∧ OwnB (w.heap.size + 1) w3 v3 L) := ⟨L', HLN', HL', H'⟩
  clear HLN' HL' H' L'
  have cc := H.out.1.2 5 _ rfl
  have hfit : c < 256 ^ 8 := by rw [show (256 : Nat) ^ 8 = 18446744073709551616 from by decide]; have := HBD.out; omega
  have hw0 := wrap_u64_of c (by have := HBD.out; omega)
  have HF := Lib.hid hfit
  clear hfit
  go_wp2_with fail
  refine (rputO _ L c 8 _ H.out.2.2 (by have := HBD.out; omega) (by decide) (by decide) (Nat.div_eq_of_lt HF.out) (by rw [HLN.out]; decide)).mono ?_
  rintro e w3 ⟨v3, rfl, hO, hb⟩
  obtain ⟨L', hL⟩ : ∃ L', L' = L ++ leN c 8 := ⟨_, rfl⟩
  rw [← hL] at hO
  have HLN' := Lib.hid (show L'.length = 44 by rw [hL, List.length_append, leN_length, HLN.out])
  have HL' := Lib.hid (show L' = [] ++ leN S 4 ++ leN k 1 ++ leN f 1 ++ leN o 1 ++ leN 0 1 ++ leN body.size 4 ++ leN par 8 ++ leN v 8 ++ leN p 8 ++ leN c 8 by rw [hL, HL.out])
  have H' := Lib.hid (And.intro (H.out.1.below hb H.out.1.1) (And.intro (H.out.2.1.trans (hb.mono H.out.2.1.size)) (hO.mono (Nat.succ_le_of_lt H.out.1.1))))
  clear hL hb hO H HL HLN HF hw0 cc
  obtain ⟨L, HLN, HL, H⟩ : ∃ L : List Nat, Hid (L.length = 44) ∧ Hid (L = [] ++ leN S 4 ++ leN k 1 ++ leN f 1 ++ leN o 1 ++ leN 0 1 ++ leN body.size 4 ++ leN par 8 ++ leN v 8 ++ leN p 8 ++ leN c 8) ∧ Hid (Row w3 w.heap.size #[.int .i64 k, .int .i64 f, .int .i64 o, .int .i64 v, .int .i64 p, .int .i64 c, .int .i64 cl, .int .i64 se, .int .i64 rq, .int .i64 a, .int .i64 b, .int .u64 par] ∧ Below w.heap.size w w3 ∧ OwnB (w.heap.size + 1) w3 v3 L) := ⟨L', HLN', HL', H'⟩
  clear HLN' HL' H' L'
  have cc := H.out.1.2 6 _ rfl
  have hfit : cl < 256 ^ 8 := by rw [show (256 : Nat) ^ 8 = 18446744073709551616 from by decide]; have := HBD.out; omega
  have hw0 := wrap_u64_of cl (by have := HBD.out; omega)
  have HF := Lib.hid hfit
  clear hfit
  go_wp2_with fail
  refine (rputO _ L cl 8 _ H.out.2.2 (by have := HBD.out; omega) (by decide) (by decide) (Nat.div_eq_of_lt HF.out) (by rw [HLN.out]; decide)).mono ?_
  rintro e w3 ⟨v3, rfl, hO, hb⟩
  obtain ⟨L', hL⟩ : ∃ L', L' = L ++ leN cl 8 := ⟨_, rfl⟩
  rw [← hL] at hO
  have HLN' := Lib.hid (show L'.length = 52 by rw [hL, List.length_append, leN_length, HLN.out])
  have HL' := Lib.hid (show L' = [] ++ leN S 4 ++ leN k 1 ++ leN f 1 ++ leN o 1 ++ leN 0 1 ++ leN body.size 4 ++ leN par 8 ++ leN v 8 ++ leN p 8 ++ leN c 8 ++ leN cl 8 by rw [hL, HL.out])
  have H' := Lib.hid (And.intro (H.out.1.below hb H.out.1.1) (And.intro (H.out.2.1.trans (hb.mono H.out.2.1.size)) (hO.mono (Nat.succ_le_of_lt H.out.1.1))))
  clear hL hb hO H HL HLN HF hw0 cc
  obtain ⟨L, HLN, HL, H⟩ : ∃ L : List Nat, Hid (L.length = 52) ∧ Hid (L = [] ++ leN S 4 ++ leN k 1 ++ leN f 1 ++ leN o 1 ++ leN 0 1 ++ leN body.size 4 ++ leN par 8 ++ leN v 8 ++ leN p 8 ++ leN c 8 ++ leN cl 8) ∧ Hid (Row w3 w.heap.size #[.int .i64 k, .int .i64 f, .int .i64 o, .int .i64 v, .int .i64 p, .int .i64 c, .int .i64 cl, .int .i64 se, .int .i64 rq, .int .i64 a, .int .i64 b, .int .u64 par] ∧ Below w.heap.size w w3 ∧ OwnB (w.heap.size + 1) w3 v3 L) := ⟨L', HLN', HL', H'⟩
  clear HLN' HL' H' L'
  have cc := H.out.1.2 7 _ rfl
  have hfit : se < 256 ^ 8 := by rw [show (256 : Nat) ^ 8 = 18446744073709551616 from by decide]; have := HBD.out; omega
  have hw0 := wrap_u64_of se (by have := HBD.out; omega)
  have HF := Lib.hid hfit
  clear hfit
  go_wp2_with fail
  refine (rputO _ L se 8 _ H.out.2.2 (by have := HBD.out; omega) (by decide) (by decide) (Nat.div_eq_of_lt HF.out) (by rw [HLN.out]; decide)).mono ?_
  rintro e w3 ⟨v3, rfl, hO, hb⟩
  obtain ⟨L', hL⟩ : ∃ L', L' = L ++ leN se 8 := ⟨_, rfl⟩
  rw [← hL] at hO
  have HLN' := Lib.hid (show L'.length = 60 by rw [hL, List.length_append, leN_length, HLN.out])
  have HL' := Lib.hid (show L' = [] ++ leN S 4 ++ leN k 1 ++ leN f 1 ++ leN o 1 ++ leN 0 1 ++ leN body.size 4 ++ leN par 8 ++ leN v 8 ++ leN p 8 ++ leN c 8 ++ leN cl 8 ++ leN se 8 by rw [hL, HL.out])
  have H' := Lib.hid (And.intro (H.out.1.below hb H.out.1.1) (And.intro (H.out.2.1.trans (hb.mono H.out.2.1.size)) (hO.mono (Nat.succ_le_of_lt H.out.1.1))))
  clear hL hb hO H HL HLN HF hw0 cc
  obtain ⟨L, HLN, HL, H⟩ : ∃ L : List Nat, Hid (L.length = 60) ∧ Hid (L = [] ++ leN S 4 ++ leN k 1 ++ leN f 1 ++ leN o 1 ++ leN 0 1 ++ leN body.size 4 ++ leN par 8 ++ leN v 8 ++ leN p 8 ++ leN c 8 ++ leN cl 8 ++ leN se 8) ∧ Hid (Row w3 w.heap.size #[.int .i64 k, .int .i64 f, .int .i64 o, .int .i64 v, .int .i64 p, .int .i64 c, .int .i64 cl, .int .i64 se, .int .i64 rq, .int .i64 a, .int .i64 b, .int .u64 par] ∧ Below w.heap.size w w3 ∧ OwnB (w.heap.size + 1) w3 v3 L) := ⟨L', HLN', HL', H'⟩
  clear HLN' HL' H' L'
  have cc := H.out.1.2 8 _ rfl
  have hfit : rq < 256 ^ 8 := by rw [show (256 : Nat) ^ 8 = 18446744073709551616 from by decide]; have := HBD.out; omega
  have hw0 := wrap_u64_of rq (by have := HBD.out; omega)
  have HF := Lib.hid hfit
  clear hfit
  go_wp2_with fail
  refine (rputO _ L rq 8 _ H.out.2.2 (by have := HBD.out; omega) (by decide) (by decide) (Nat.div_eq_of_lt HF.out) (by rw [HLN.out]; decide)).mono ?_
  rintro e w3 ⟨v3, rfl, hO, hb⟩
  obtain ⟨L', hL⟩ : ∃ L', L' = L ++ leN rq 8 := ⟨_, rfl⟩
  rw [← hL] at hO
  have HLN' := Lib.hid (show L'.length = 68 by rw [hL, List.length_append, leN_length, HLN.out])
  have HL' := Lib.hid (show L' = [] ++ leN S 4 ++ leN k 1 ++ leN f 1 ++ leN o 1 ++ leN 0 1 ++ leN body.size 4 ++ leN par 8 ++ leN v 8 ++ leN p 8 ++ leN c 8 ++ leN cl 8 ++ leN se 8 ++ leN rq 8 by rw [hL, HL.out])
  have H' := Lib.hid (And.intro (H.out.1.below hb H.out.1.1) (And.intro (H.out.2.1.trans (hb.mono H.out.2.1.size)) (hO.mono (Nat.succ_le_of_lt H.out.1.1))))
  clear hL hb hO H HL HLN HF hw0 cc
  obtain ⟨L, HLN, HL, H⟩ : ∃ L : List Nat, Hid (L.length = 68) ∧ Hid (L = [] ++ leN S 4 ++ leN k 1 ++ leN f 1 ++ leN o 1 ++ leN 0 1 ++ leN body.size 4 ++ leN par 8 ++ leN v 8 ++ leN p 8 ++ leN c 8 ++ leN cl 8 ++ leN se 8 ++ leN rq 8) ∧ Hid (Row w3 w.heap.size #[.int .i64 k, .int .i64 f, .int .i64 o, .int .i64 v, .int .i64 p, .int .i64 c, .int .i64 cl, .int .i64 se, .int .i64 rq, .int .i64 a, .int .i64 b, .int .u64 par] ∧ Below w.heap.size w w3 ∧ OwnB (w.heap.size + 1) w3 v3 L) := ⟨L', HLN', HL', H'⟩
  clear HLN' HL' H' L'
  have cc := H.out.1.2 9 _ rfl
  have hfit : a < 256 ^ 8 := by rw [show (256 : Nat) ^ 8 = 18446744073709551616 from by decide]; have := HBD.out; omega
  have hw0 := wrap_u64_of a (by have := HBD.out; omega)
  have HF := Lib.hid hfit
  clear hfit
  go_wp2_with fail
  refine (rputO _ L a 8 _ H.out.2.2 (by have := HBD.out; omega) (by decide) (by decide) (Nat.div_eq_of_lt HF.out) (by rw [HLN.out]; decide)).mono ?_
  rintro e w3 ⟨v3, rfl, hO, hb⟩
  obtain ⟨L', hL⟩ : ∃ L', L' = L ++ leN a 8 := ⟨_, rfl⟩
  rw [← hL] at hO
  have HLN' := Lib.hid (show L'.length = 76 by rw [hL, List.length_append, leN_length, HLN.out])
  have HL' := Lib.hid (show L' = [] ++ leN S 4 ++ leN k 1 ++ leN f 1 ++ leN o 1 ++ leN 0 1 ++ leN body.size 4 ++ leN par 8 ++ leN v 8 ++ leN p 8 ++ leN c 8 ++ leN cl 8 ++ leN se 8 ++ leN rq 8 ++ leN a 8 by rw [hL, HL.out])
  have H' := Lib.hid (And.intro (H.out.1.below hb H.out.1.1) (And.intro (H.out.2.1.trans (hb.mono H.out.2.1.size)) (hO.mono (Nat.succ_le_of_lt H.out.1.1))))
  clear hL hb hO H HL HLN HF hw0 cc
  obtain ⟨L, HLN, HL, H⟩ : ∃ L : List Nat, Hid (L.length = 76) ∧ Hid (L = [] ++ leN S 4 ++ leN k 1 ++ leN f 1 ++ leN o 1 ++ leN 0 1 ++ leN body.size 4 ++ leN par 8 ++ leN v 8 ++ leN p 8 ++ leN c 8 ++ leN cl 8 ++ leN se 8 ++ leN rq 8 ++ leN a 8) ∧ Hid (Row w3 w.heap.size #[.int .i64 k, .int .i64 f, .int .i64 o, .int .i64 v, .int .i64 p, .int .i64 c, .int .i64 cl, .int .i64 se, .int .i64 rq, .int .i64 a, .int .i64 b, .int .u64 par] ∧ Below w.heap.size w w3 ∧ OwnB (w.heap.size + 1) w3 v3 L) := ⟨L', HLN', HL', H'⟩
  clear HLN' HL' H' L'
  have cc := H.out.1.2 10 _ rfl
  have hfit : b < 256 ^ 8 := by rw [show (256 : Nat) ^ 8 = 18446744073709551616 from by decide]; have := HBD.out; omega
  have hw0 := wrap_u64_of b (by have := HBD.out; omega)
  have HF := Lib.hid hfit
  clear hfit
  go_wp2_with fail
  refine (rputO _ L b 8 _ H.out.2.2 (by have := HBD.out; omega) (by decide) (by decide) (Nat.div_eq_of_lt HF.out) (by rw [HLN.out]; decide)).mono ?_
  rintro e w3 ⟨v3, rfl, hO, hb⟩
  obtain ⟨L', hL⟩ : ∃ L', L' = L ++ leN b 8 := ⟨_, rfl⟩
  rw [← hL] at hO
  have HLN' := Lib.hid (show L'.length = 84 by rw [hL, List.length_append, leN_length, HLN.out])
  have HL' := Lib.hid (show L' = [] ++ leN S 4 ++ leN k 1 ++ leN f 1 ++ leN o 1 ++ leN 0 1 ++ leN body.size 4 ++ leN par 8 ++ leN v 8 ++ leN p 8 ++ leN c 8 ++ leN cl 8 ++ leN se 8 ++ leN rq 8 ++ leN a 8 ++ leN b 8 by rw [hL, HL.out])
  have H' := Lib.hid (And.intro (H.out.1.below hb H.out.1.1) (And.intro (H.out.2.1.trans (hb.mono H.out.2.1.size)) (hO.mono (Nat.succ_le_of_lt H.out.1.1))))
  clear hL hb hO H HL HLN HF hw0 cc
  obtain ⟨L, HLN, HL, H⟩ : ∃ L : List Nat, Hid (L.length = 84) ∧ Hid (L = [] ++ leN S 4 ++ leN k 1 ++ leN f 1 ++ leN o 1 ++ leN 0 1 ++ leN body.size 4 ++ leN par 8 ++ leN v 8 ++ leN p 8 ++ leN c 8 ++ leN cl 8 ++ leN se 8 ++ leN rq 8 ++ leN a 8 ++ leN b 8) ∧ Hid (Row w3 w.heap.size #[.int .i64 k, .int .i64 f, .int .i64 o, .int .i64 v, .int .i64 p, .int .i64 c, .int .i64 cl, .int .i64 se, .int .i64 rq, .int .i64 a, .int .i64 b, .int .u64 par] ∧ Below w.heap.size w w3 ∧ OwnB (w.heap.size + 1) w3 v3 L) := ⟨L', HLN', HL', H'⟩
  clear HLN' HL' H' L'
  go_wp2_with fail
  go_loopw [6] (fun bv wr => ∃ n : Nat, n ≤ 40 ∧ Hid (w.heap.size < wr.heap.size ∧ Below w.heap.size w wr ∧ OwnB (w.heap.size + 1) wr bv (L ++ List.replicate n 0)) ∧ ∃ q cq, bv = .slice q ((84 + n : Nat) : Int).toNat cq) (fun bv _ => match bv with | .slice _ n _ => 124 - n | _ => 0)
  case atStart =>
    obtain ⟨q, cq, hv, _⟩ := H.out.2.2.slice'
    exact ⟨0, by omega, Lib.hid ⟨H.out.1.1, H.out.2.1, by simpa using H.out.2.2⟩, q, cq, by rw [hv, HLN.out]; rfl⟩
  case round =>
    obtain ⟨n, hn, HR, q, cq, rfl⟩ := hrel
    clear H
    rw [Int.toNat_natCast] at HR ⊢
    have HLZ := Lib.hid (show (L ++ List.replicate n 0).length = 84 + n by rw [List.length_append, HLN.out, List.length_replicate])
    have HLY := Lib.hid (show (L ++ List.replicate (n + 1) 0).length = 84 + (n + 1) by rw [List.length_append, HLN.out, List.length_replicate])
    by_cases hlt : n < 40
    · have hlt' : ((84 : Int) + n) < 124 := by omega
      go_wp2_with (with_reducible refine app1 rfl _ _ rfl _ _ rfl HR.out.2.2 _ 0 ?hc ?hd rfl ?he (Below.refl _ _) ?hg ?_)
      case hc => rfl
      case hd => decide
      case he => rw [HLZ.out]; omega
      case hg => exact HR.out.1
      intro v4 w4 hO4 hb4
      have hO4 : OwnB (w.heap.size + 1) w4 v4 (L ++ List.replicate (n + 1) 0) := by rw [List.replicate_succ']; first | exact hO4 | (rw [← List.append_assoc]; exact hO4)
      obtain ⟨q4, cq4, hv, _⟩ := hO4.slice'
      rw [HLY.out] at hv
      subst hv
      have HR4 := Lib.hid (And.intro (Nat.lt_of_lt_of_le HR.out.1 hb4.size) (And.intro (HR.out.2.1.trans (hb4.mono (Nat.le_succ _))) hO4))
      clear hO4 hb4 HR HLZ HLY
      go_wp2_with fail
      go_roundw
      case rel => exact ⟨n + 1, by omega, HR4, q4, cq4, by simp; omega⟩
      case measure => simp; omega
    · obtain rfl : n = 40 := by omega
      have hlt' : ¬ ((84 : Int) + 40) < 124 := by omega
      obtain ⟨L9, hL9⟩ : ∃ L9, L9 = L ++ List.replicate 40 0 := ⟨_, rfl⟩
      have HR' := HR.out
      rw [← hL9] at HR'
      have hL9n : L9.length = 124 := by rw [hL9, List.length_append, HLN.out]; rfl
      have hH9 := HR'.2.2.holds
      have h8 := HR'.2.2.1
      have H9 := Lib.hid (And.intro hH9 (And.intro HR'.2.1 HR'.1))
      have h89 := Lib.hid h8
      have HL9 := Lib.hid hL9
      have HL9N := Lib.hid hL9n
      have rt := fun w' hb => run_text w' _ _ _ L9 (H9.out.1.later (w' := w') hb)
      have rt := rt (wr.alloc (.cells #[] 5)) ((Below.refl _ _).alloc (Nat.le_refl _) _)
      clear hL9 hL9n hH9 h8 HR' HR HLZ HLY
      go_wp2_with fail
      refine (refsum_all (text L9) _ (by rw [text_size, HL9N.out]; decide)).mono ?_
      rw [nats_text L9 h89.out]
      rintro e w10 ⟨rfl, rfl⟩
      have H10 := Lib.hid (And.intro (H9.out.1.later ((Below.refl _ _).alloc (Nat.le_refl _) (.cells #[] 5))) (H9.out.2.1.alloc H9.out.2.1.size (.cells #[] 5)))
      clear H9 rt
      have hlt9 := add_lt 0 L9
      obtain ⟨S9, hS9⟩ : ∃ S9, Crc.add 0 L9 = S9 := ⟨_, rfl⟩
      rw [hS9] at hlt9 ⊢
      have HS9 := Lib.hid hS9
      clear hS9
      have hw9 := wrap_u64_of S9 (by omega)
      go_wp2_with fail
      refine (rput _ 0 [] S9 4 _ (holds_zero _ _ _) (by omega) (by decide) (by decide) (Nat.div_eq_of_lt hlt9) (by decide)).mono ?_
      rintro e w11 ⟨v11, rfl, hf11, hb11⟩
      obtain ⟨M, hM⟩ : ∃ M, M = [] ++ leN S9 4 := ⟨_, rfl⟩
      rw [← hM] at hf11
      have hMn : M.length = 4 := by rw [hM]; simp [leN_length]
      have hH11 := hf11.holds
      obtain ⟨q11, cq11, hv, _⟩ := hf11.slice'
      rw [hMn] at hv
      subst hv
      have r9 := run_text w11 _ _ _ L9 (H10.out.1.later hb11)
      have r11 := run_text w11 _ _ _ M hH11
      have H11 := Lib.hid (H10.out.2.trans (hb11.mono H10.out.2.size))
      have HM := Lib.hid hM
      have z1 : (text M).size = 4 := by rw [text_size, hMn]
      have z2 : (text L9).size = 124 := by rw [text_size, HL9N.out]
      have z3 : (text M ++ text L9).size = 128 := by rw [ByteArray.size_append, z1, z2]
      clear hM hMn hH11 hf11 hb11 H10
      go_wp2_with fail
      have hfin : packL k f o [v, p, c, cl, se, rq, a, b] par (nats body) = M ++ L9 ++ nats body := by
        have e9 : packIn k f o [v, p, c, cl, se, rq, a, b] par (nats body) = L9 := by
          have hbd := HBD.out
          unfold packIn
          rw [HL9.out, HL.out, HS.out, nats_length, List.nil_append, leN_one k (by omega), leN_one f (by omega), leN_one o (by omega), leN_one 0 (by omega)]
          simp [List.append_assoc]
        unfold packL
        rw [e9, HS9.out, HM.out, List.nil_append]
      rw [hfin, text_append, text_append, text_nats]
      go_ret2
      exact ⟨rfl, H11.out⟩
end Go.Proofs.YtpbjjmenkoigjaaDoor
end

section
namespace Go.Proofs.YtpbjjmenkoigjaaDoor
open Go.RowKit
theorem add_none : Crc.add 0 [] = 0 := by decide +kernel
def awkL : List Nat := packL 0 0 0 [0, 0, 0, 0, 0, 0, 0, 0] 0 []
theorem awk_size : (text awkL).size = 128 := by rw [text_size]; unfold awkL; rw [packL_length]; rfl
theorem awk_cut : (text awkL).extract 4 8 = ⟨#[0, 0, 0, 0]⟩ := by
  have e : ∀ q : List Nat, q.length = 4 → ∀ r : List Nat, (text (q ++ ([0, 0, 0, 0] ++ r))).extract 4 8 = ⟨#[0, 0, 0, 0]⟩ := by
    intro q hq r
    match q, hq with
    | [q0, q1, q2, q3], _ =>
      apply ByteArray.ext
      rw [ByteArray.data_extract]
      apply Array.toList_inj.1
      simp [text]
  have h : awkL = leN (Crc.add 0 (packIn 0 0 0 [0, 0, 0, 0, 0, 0, 0, 0] 0 [])) 4 ++ ([0, 0, 0, 0] ++ ([0, 0, 0, 0] ++ leN 0 4 ++ leN 0 8 ++ [0, 0, 0, 0, 0, 0, 0, 0].flatMap (leN · 8) ++ List.replicate 40 0)) := by
    unfold awkL packL
    rw [List.append_nil]
    conv => lhs; rhs; unfold packIn; rw [add_none]
    rfl
  rw [h]
  exact e _ (leN_length _ _) _
theorem awk_yes (w : World) : Calls Tryd.prog 47 #[.agg #[.int .i64 0, .int .i64 0, .int .i64 0, .int .i64 0, .int .i64 0, .int .i64 0, .int .i64 0, .int .i64 0, .int .i64 0, .int .i64 0, .int .i64 0, .int .u64 0], .string ⟨#[]⟩] w fun e w' =>
      e = .returned (.tuple #[.string (text awkL), .int .i64 0]) ∧ Below w.heap.size w w' :=
  pack_ok 0 0 0 0 0 0 0 0 0 0 0 0 ⟨#[]⟩ w (by decide) (by decide) (by decide)
theorem awk_not (w : World) : Calls Tryd.prog 47 #[.agg #[.int .i64 0, .int .i64 0, .int .i64 0, .int .i64 (-1), .int .i64 0, .int .i64 0, .int .i64 0, .int .i64 0, .int .i64 0, .int .i64 0, .int .i64 0, .int .u64 0], .string ⟨#[]⟩] w fun e w' =>
      e = .returned (.tuple #[.string ⟨#[]⟩, .int .i64 4]) ∧ Below w.heap.size w w' :=
  pack_form 0 0 0 (-1) 0 0 0 0 0 0 0 0 ⟨#[]⟩ w (by decide)
end Go.Proofs.YtpbjjmenkoigjaaDoor
end

section
namespace Go.Proofs.YtpbjjmenkoigjaaDoor
open Go.RowKit
theorem rpack_any (k f o v p c cl se rq a b par : Int) (body : ByteArray) (hpar : 0 ≤ par ∧ par ≤ 18446744073709551615) (w : World) :
    Calls Tryd.prog 83 #[.agg #[.int .i64 k, .int .i64 f, .int .i64 o, .int .i64 v, .int .i64 p, .int .i64 c, .int .i64 cl, .int .i64 se, .int .i64 rq, .int .i64 a, .int .i64 b, .int .u64 par], .string body] w fun e w' =>
      e = .returned (.tuple #[.string (packS k f o v p c cl se rq a b par body), .int .i64 (packE k f o v p c cl se rq a b body)]) ∧ Below w.heap.size w w' := by
  cases hh : headB k f o v p c cl se rq a b
  · have e1 : packS k f o v p c cl se rq a b par body = ⟨#[]⟩ := if_neg (by rw [hh]; simp)
    have e2 : packE k f o v p c cl se rq a b body = 4 := if_neg (by rw [hh]; simp)
    rw [e1, e2]
    exact rpack_form _ _ _ _ _ _ _ _ _ _ _ _ _ _ hh
  · by_cases hl : body.size ≤ 3968
    · have e1 : packS k f o v p c cl se rq a b par body = text (packL k.toNat f.toNat o.toNat [v.toNat, p.toNat, c.toNat, cl.toNat, se.toNat, rq.toNat, a.toNat, b.toNat] par.toNat (nats body)) := if_pos ⟨hh, hl⟩
      have e2 : packE k f o v p c cl se rq a b body = 0 := by unfold packE; rw [if_pos hh, if_pos hl]
      rw [e1, e2]
      obtain ⟨k', f', o', v', p', c', cl', se', rq', a', b', rfl, rfl, rfl, rfl, rfl, rfl, rfl, rfl, rfl, rfl, rfl⟩ := headB_nat hh
      obtain ⟨par', rfl⟩ : ∃ n : Nat, par = n := ⟨par.toNat, by omega⟩
      simp only [Int.toNat_natCast]
      exact rpack_ok _ _ _ _ _ _ _ _ _ _ _ _ _ _ hh hl (by omega)
    · have e1 : packS k f o v p c cl se rq a b par body = ⟨#[]⟩ := if_neg (fun h => hl h.2)
      have e2 : packE k f o v p c cl se rq a b body = 5 := by unfold packE; rw [if_pos hh, if_neg hl]
      rw [e1, e2]
      exact rpack_long _ _ _ _ _ _ _ _ _ _ _ _ _ _ hh (by omega)
theorem packS_none {k f o v p c cl se rq a b par : Int} {body : ByteArray} (h : packE k f o v p c cl se rq a b body ≠ 0) : packS k f o v p c cl se rq a b par body = ⟨#[]⟩ := by
  unfold packS packE at *
  by_cases h1 : headB k f o v p c cl se rq a b = true
  · by_cases h2 : body.size ≤ 3968
    · rw [if_pos h1, if_pos h2] at h; exact absurd rfl h
    · rw [if_neg (fun q => h2 q.2)]
  · rw [if_neg (fun q => h1 q.1)]
theorem packS_size {k f o v p c cl se rq a b par : Int} {body : ByteArray} : (packS k f o v p c cl se rq a b par body).size ≤ 128 + 3968 := by
  unfold packS
  split
  · next h => rw [text_size, packL_length, nats_length]; omega
  · decide
/-- The header that the law keeps, and nothing older turned. -/
def HS (w : World) (cs : Array Value) (W : World) : Prop := Row W w.heap.size cs ∧ Below w.heap.size w W
theorem HS.next {w W W' : World} {cs : Array Value} (h : HS w cs W) (hb : Below W.heap.size W W') : HS w cs W' := ⟨h.1.below hb h.1.1, h.2.trans (hb.mono h.2.size)⟩
theorem HS.drew {w W : World} {cs : Array Value} (h : HS w cs W) : HS w cs W.drew := ⟨h.1, h.2.drew⟩
theorem HS.new (w : World) (cs : Array Value) (t : TypeId) : HS w cs (w.alloc (.cells cs t)) := ⟨Row.new w _ _ _ rfl, (Below.refl _ _).alloc (Nat.le_refl _) _⟩
end Go.Proofs.YtpbjjmenkoigjaaDoor
end

section
namespace Go.Proofs.YtpbjjmenkoigjaaDoor
open Go.RowKit
set_option maxRecDepth 100000 in
set_option maxHeartbeats 1000000 in
theorem header_any (view op under par client sess req oper : Int) (body : ByteArray) (w : World) :
    Calls Tryd.prog 37 #[.agg #[.int .i64 view, .int .i64 op, .int .i64 under, .int .u64 par, .int .i64 client, .int .i64 sess, .int .i64 req, .int .i64 oper, .string body]] w fun e w' => e = .returned (.agg #[.int .i64 255, .int .i64 0, .int .i64 oper, .int .i64 view, .int .i64 op, .int .i64 0, .int .i64 client, .int .i64 sess, .int .i64 req, .int .i64 under, .int .i64 0, .int .u64 par]) ∧ Below w.heap.size w w' := by
  go_enter Tryd.func37, Tryd.ntmps37
  go_wp2
  exact bodyPost_ret (v := .agg #[.int .i64 255, .int .i64 0, .int .i64 oper, .int .i64 view, .int .i64 op, .int .i64 0, .int .i64 client, .int .i64 sess, .int .i64 req, .int .i64 under, .int .i64 0, .int .u64 par]) (by simp [results, Tryd.results37, go_sem]) rfl ⟨rfl, ((Below.refl _ _).alloc (Nat.le_refl _) _).alloc (by simp) _⟩
/-- What an entry's own fields must be, beside its header's bounds. -/
def entOwn (view op under client oper : Int) (body : ByteArray) : Prop := (1 ≤ op) ∧ (1 ≤ client) ∧ (1 ≤ oper) ∧ (under ≤ view) ∧ ((body.size : Int) ≤ 200)
def entB (view op under client sess req oper : Int) (body : ByteArray) : Bool := headB 255 0 oper view op 0 client sess req under 0 && decide ((1 ≤ op) ∧ (1 ≤ client) ∧ (1 ≤ oper) ∧ (under ≤ view) ∧ ((body.size : Int) ≤ 200))
theorem entB_head (view op under client sess req oper : Int) (body : ByteArray) (h : headB 255 0 oper view op 0 client sess req under 0 = false) : entB view op under client sess req oper body = false := by unfold entB; rw [h]; rfl
theorem entB_no (view op under client sess req oper : Int) (body : ByteArray) (h : ¬ ((1 ≤ op) ∧ (1 ≤ client) ∧ (1 ≤ oper) ∧ (under ≤ view) ∧ ((body.size : Int) ≤ 200))) : entB view op under client sess req oper body = false := by unfold entB; rw [decide_eq_false h, Bool.and_false]
theorem entB_yes (view op under client sess req oper : Int) (body : ByteArray) (h1 : headB 255 0 oper view op 0 client sess req under 0 = true) (h : (1 ≤ op) ∧ (1 ≤ client) ∧ (1 ≤ oper) ∧ (under ≤ view) ∧ ((body.size : Int) ≤ 200)) : entB view op under client sess req oper body = true := by unfold entB; rw [h1, decide_eq_true h]; rfl
set_option maxRecDepth 100000 in
set_option maxHeartbeats 2000000 in
theorem entright_any (view op under par client sess req oper : Int) (body : ByteArray) (w : World) :
    Calls Tryd.prog 20 #[.agg #[.int .i64 view, .int .i64 op, .int .i64 under, .int .u64 par, .int .i64 client, .int .i64 sess, .int .i64 req, .int .i64 oper, .string body]] w fun e w' => e = .returned (.bool (entB view op under client sess req oper body)) ∧ Below w.heap.size w w' := by
  have hr := fun w => right_any 255 0 oper view op 0 client sess req under 0 par w
  have HNO := Lib.hid (entB_no view op under client sess req oper body)
  have HYES := Lib.hid (entB_yes view op under client sess req oper body)
  have HH := Lib.hid (entB_head view op under client sess req oper body)
  cases hx : headB 255 0 oper view op 0 client sess req under 0
  · rw [hx] at hr
    have HR := Lib.hid hr
    have HF := Lib.hid (HH.out hx)
    clear hr hx
    go_enter Tryd.func20, Tryd.ntmps20
    go_wp2_with fail
    refine (header_any view op under par client sess req oper body _).mono ?_
    rintro e w1 ⟨rfl, hb1⟩
    go_wp2_with fail
    refine (HR.out _).mono ?_
    rintro e w2 ⟨rfl, hb2⟩
    go_wp2_with fail
    go_ret
    exact ⟨ret_bool HF.out.symm, ((Below.refl _ _).alloc (Nat.le_refl _) _).trans ((hb1.trans (hb2.mono hb1.size)).mono (by simp))⟩
  · rw [hx] at hr
    have HR := Lib.hid hr
    have HX := Lib.hid hx
    clear hr hx
    by_cases h0 : op < 1
    · have HF := Lib.hid (HNO.out (by omega))
      go_enter Tryd.func20, Tryd.ntmps20
      go_wp2_with fail
      have hcc := fun i => cell_of_row (w.alloc (.cells #[.int .i64 view, .int .i64 op, .int .i64 under, .int .u64 par, .int .i64 client, .int .i64 sess, .int .i64 req, .int .i64 oper, .string body] 35)) w.heap.size i _ _ _ (heap_alloc_new w _)
      have hb0 : Below w.heap.size w (w.alloc (.cells #[.int .i64 view, .int .i64 op, .int .i64 under, .int .u64 par, .int .i64 client, .int .i64 sess, .int .i64 req, .int .i64 oper, .string body] 35)) := (Below.refl _ _).alloc (Nat.le_refl _) _
      have hs0 : (w.alloc (.cells #[.int .i64 view, .int .i64 op, .int .i64 under, .int .u64 par, .int .i64 client, .int .i64 sess, .int .i64 req, .int .i64 oper, .string body] 35)).heap.size = w.heap.size + 1 := by simp
      refine (header_any view op under par client sess req oper body _).mono ?_
      generalize w.alloc (.cells #[.int .i64 view, .int .i64 op, .int .i64 under, .int .u64 par, .int .i64 client, .int .i64 sess, .int .i64 req, .int .i64 oper, .string body] 35) = w0 at *
      rintro e w1 ⟨rfl, hb1⟩
      rw [hs0] at hb1
      have HS0 := Lib.hid hs0
      clear hs0
      have hz1 := hb1.size
      go_wp2_with fail
      refine (HR.out _).mono ?_
      rintro e w2 ⟨rfl, hb2⟩
      have hb12 : Below (w.heap.size + 1) w0 w2 := hb1.trans (hb2.mono (by rw [HS0.out] at hz1; exact hz1))
      have c0 : w2.cell? ⟨w.heap.size, 0, none⟩ = some (.int .i64 view) := (hb12.cell (p := ⟨w.heap.size, 0, none⟩) (by simp)).trans ((hcc 0).trans rfl)
      have c1 : w2.cell? ⟨w.heap.size, 1, none⟩ = some (.int .i64 op) := (hb12.cell (p := ⟨w.heap.size, 1, none⟩) (by simp)).trans ((hcc 1).trans rfl)
      have c2 : w2.cell? ⟨w.heap.size, 2, none⟩ = some (.int .i64 under) := (hb12.cell (p := ⟨w.heap.size, 2, none⟩) (by simp)).trans ((hcc 2).trans rfl)
      have c3 : w2.cell? ⟨w.heap.size, 3, none⟩ = some (.int .u64 par) := (hb12.cell (p := ⟨w.heap.size, 3, none⟩) (by simp)).trans ((hcc 3).trans rfl)
      have c4 : w2.cell? ⟨w.heap.size, 4, none⟩ = some (.int .i64 client) := (hb12.cell (p := ⟨w.heap.size, 4, none⟩) (by simp)).trans ((hcc 4).trans rfl)
      have c5 : w2.cell? ⟨w.heap.size, 5, none⟩ = some (.int .i64 sess) := (hb12.cell (p := ⟨w.heap.size, 5, none⟩) (by simp)).trans ((hcc 5).trans rfl)
      have c6 : w2.cell? ⟨w.heap.size, 6, none⟩ = some (.int .i64 req) := (hb12.cell (p := ⟨w.heap.size, 6, none⟩) (by simp)).trans ((hcc 6).trans rfl)
      have c7 : w2.cell? ⟨w.heap.size, 7, none⟩ = some (.int .i64 oper) := (hb12.cell (p := ⟨w.heap.size, 7, none⟩) (by simp)).trans ((hcc 7).trans rfl)
      have c8 : w2.cell? ⟨w.heap.size, 8, none⟩ = some (.string body) := (hb12.cell (p := ⟨w.heap.size, 8, none⟩) (by simp)).trans ((hcc 8).trans rfl)
      have HB := Lib.hid (hb0.trans (hb12.mono (by omega)))
      clear hcc hb1 hb2 hb12 hb0
      go_wp2_with fail
      go_ret
      first | exact ⟨ret_bool HF.out.symm, HB.out⟩ | exact ⟨ret_bool (by rw [HF.out]; simp; omega), HB.out⟩
    · have h0n : 1 ≤ op := by omega
      clear h0
      by_cases h1 : client < 1
      · have HF := Lib.hid (HNO.out (by omega))
        go_enter Tryd.func20, Tryd.ntmps20
        go_wp2_with fail
        have hcc := fun i => cell_of_row (w.alloc (.cells #[.int .i64 view, .int .i64 op, .int .i64 under, .int .u64 par, .int .i64 client, .int .i64 sess, .int .i64 req, .int .i64 oper, .string body] 35)) w.heap.size i _ _ _ (heap_alloc_new w _)
        have hb0 : Below w.heap.size w (w.alloc (.cells #[.int .i64 view, .int .i64 op, .int .i64 under, .int .u64 par, .int .i64 client, .int .i64 sess, .int .i64 req, .int .i64 oper, .string body] 35)) := (Below.refl _ _).alloc (Nat.le_refl _) _
        have hs0 : (w.alloc (.cells #[.int .i64 view, .int .i64 op, .int .i64 under, .int .u64 par, .int .i64 client, .int .i64 sess, .int .i64 req, .int .i64 oper, .string body] 35)).heap.size = w.heap.size + 1 := by simp
        refine (header_any view op under par client sess req oper body _).mono ?_
        generalize w.alloc (.cells #[.int .i64 view, .int .i64 op, .int .i64 under, .int .u64 par, .int .i64 client, .int .i64 sess, .int .i64 req, .int .i64 oper, .string body] 35) = w0 at *
        rintro e w1 ⟨rfl, hb1⟩
        rw [hs0] at hb1
        have HS0 := Lib.hid hs0
        clear hs0
        have hz1 := hb1.size
        go_wp2_with fail
        refine (HR.out _).mono ?_
        rintro e w2 ⟨rfl, hb2⟩
        have hb12 : Below (w.heap.size + 1) w0 w2 := hb1.trans (hb2.mono (by rw [HS0.out] at hz1; exact hz1))
        have c0 : w2.cell? ⟨w.heap.size, 0, none⟩ = some (.int .i64 view) := (hb12.cell (p := ⟨w.heap.size, 0, none⟩) (by simp)).trans ((hcc 0).trans rfl)
        have c1 : w2.cell? ⟨w.heap.size, 1, none⟩ = some (.int .i64 op) := (hb12.cell (p := ⟨w.heap.size, 1, none⟩) (by simp)).trans ((hcc 1).trans rfl)
        have c2 : w2.cell? ⟨w.heap.size, 2, none⟩ = some (.int .i64 under) := (hb12.cell (p := ⟨w.heap.size, 2, none⟩) (by simp)).trans ((hcc 2).trans rfl)
        have c3 : w2.cell? ⟨w.heap.size, 3, none⟩ = some (.int .u64 par) := (hb12.cell (p := ⟨w.heap.size, 3, none⟩) (by simp)).trans ((hcc 3).trans rfl)
        have c4 : w2.cell? ⟨w.heap.size, 4, none⟩ = some (.int .i64 client) := (hb12.cell (p := ⟨w.heap.size, 4, none⟩) (by simp)).trans ((hcc 4).trans rfl)
        have c5 : w2.cell? ⟨w.heap.size, 5, none⟩ = some (.int .i64 sess) := (hb12.cell (p := ⟨w.heap.size, 5, none⟩) (by simp)).trans ((hcc 5).trans rfl)
        have c6 : w2.cell? ⟨w.heap.size, 6, none⟩ = some (.int .i64 req) := (hb12.cell (p := ⟨w.heap.size, 6, none⟩) (by simp)).trans ((hcc 6).trans rfl)
        have c7 : w2.cell? ⟨w.heap.size, 7, none⟩ = some (.int .i64 oper) := (hb12.cell (p := ⟨w.heap.size, 7, none⟩) (by simp)).trans ((hcc 7).trans rfl)
        have c8 : w2.cell? ⟨w.heap.size, 8, none⟩ = some (.string body) := (hb12.cell (p := ⟨w.heap.size, 8, none⟩) (by simp)).trans ((hcc 8).trans rfl)
        have HB := Lib.hid (hb0.trans (hb12.mono (by omega)))
        clear hcc hb1 hb2 hb12 hb0
        go_wp2_with fail
        go_ret
        first | exact ⟨ret_bool HF.out.symm, HB.out⟩ | exact ⟨ret_bool (by rw [HF.out]; simp; omega), HB.out⟩
      · have h1n : 1 ≤ client := by omega
        clear h1
        by_cases h2 : oper < 1
        · have HF := Lib.hid (HNO.out (by omega))
          go_enter Tryd.func20, Tryd.ntmps20
          go_wp2_with fail
          have hcc := fun i => cell_of_row (w.alloc (.cells #[.int .i64 view, .int .i64 op, .int .i64 under, .int .u64 par, .int .i64 client, .int .i64 sess, .int .i64 req, .int .i64 oper, .string body] 35)) w.heap.size i _ _ _ (heap_alloc_new w _)
          have hb0 : Below w.heap.size w (w.alloc (.cells #[.int .i64 view, .int .i64 op, .int .i64 under, .int .u64 par, .int .i64 client, .int .i64 sess, .int .i64 req, .int .i64 oper, .string body] 35)) := (Below.refl _ _).alloc (Nat.le_refl _) _
          have hs0 : (w.alloc (.cells #[.int .i64 view, .int .i64 op, .int .i64 under, .int .u64 par, .int .i64 client, .int .i64 sess, .int .i64 req, .int .i64 oper, .string body] 35)).heap.size = w.heap.size + 1 := by simp
          refine (header_any view op under par client sess req oper body _).mono ?_
          generalize w.alloc (.cells #[.int .i64 view, .int .i64 op, .int .i64 under, .int .u64 par, .int .i64 client, .int .i64 sess, .int .i64 req, .int .i64 oper, .string body] 35) = w0 at *
          rintro e w1 ⟨rfl, hb1⟩
          rw [hs0] at hb1
          have HS0 := Lib.hid hs0
          clear hs0
          have hz1 := hb1.size
          go_wp2_with fail
          refine (HR.out _).mono ?_
          rintro e w2 ⟨rfl, hb2⟩
          have hb12 : Below (w.heap.size + 1) w0 w2 := hb1.trans (hb2.mono (by rw [HS0.out] at hz1; exact hz1))
          have c0 : w2.cell? ⟨w.heap.size, 0, none⟩ = some (.int .i64 view) := (hb12.cell (p := ⟨w.heap.size, 0, none⟩) (by simp)).trans ((hcc 0).trans rfl)
          have c1 : w2.cell? ⟨w.heap.size, 1, none⟩ = some (.int .i64 op) := (hb12.cell (p := ⟨w.heap.size, 1, none⟩) (by simp)).trans ((hcc 1).trans rfl)
          have c2 : w2.cell? ⟨w.heap.size, 2, none⟩ = some (.int .i64 under) := (hb12.cell (p := ⟨w.heap.size, 2, none⟩) (by simp)).trans ((hcc 2).trans rfl)
          have c3 : w2.cell? ⟨w.heap.size, 3, none⟩ = some (.int .u64 par) := (hb12.cell (p := ⟨w.heap.size, 3, none⟩) (by simp)).trans ((hcc 3).trans rfl)
          have c4 : w2.cell? ⟨w.heap.size, 4, none⟩ = some (.int .i64 client) := (hb12.cell (p := ⟨w.heap.size, 4, none⟩) (by simp)).trans ((hcc 4).trans rfl)
          have c5 : w2.cell? ⟨w.heap.size, 5, none⟩ = some (.int .i64 sess) := (hb12.cell (p := ⟨w.heap.size, 5, none⟩) (by simp)).trans ((hcc 5).trans rfl)
          have c6 : w2.cell? ⟨w.heap.size, 6, none⟩ = some (.int .i64 req) := (hb12.cell (p := ⟨w.heap.size, 6, none⟩) (by simp)).trans ((hcc 6).trans rfl)
          have c7 : w2.cell? ⟨w.heap.size, 7, none⟩ = some (.int .i64 oper) := (hb12.cell (p := ⟨w.heap.size, 7, none⟩) (by simp)).trans ((hcc 7).trans rfl)
          have c8 : w2.cell? ⟨w.heap.size, 8, none⟩ = some (.string body) := (hb12.cell (p := ⟨w.heap.size, 8, none⟩) (by simp)).trans ((hcc 8).trans rfl)
          have HB := Lib.hid (hb0.trans (hb12.mono (by omega)))
          clear hcc hb1 hb2 hb12 hb0
          go_wp2_with fail
          go_ret
          first | exact ⟨ret_bool HF.out.symm, HB.out⟩ | exact ⟨ret_bool (by rw [HF.out]; simp; omega), HB.out⟩
        · have h2n : 1 ≤ oper := by omega
          clear h2
          by_cases h3 : view < under
          · have HF := Lib.hid (HNO.out (by omega))
            go_enter Tryd.func20, Tryd.ntmps20
            go_wp2_with fail
            have hcc := fun i => cell_of_row (w.alloc (.cells #[.int .i64 view, .int .i64 op, .int .i64 under, .int .u64 par, .int .i64 client, .int .i64 sess, .int .i64 req, .int .i64 oper, .string body] 35)) w.heap.size i _ _ _ (heap_alloc_new w _)
            have hb0 : Below w.heap.size w (w.alloc (.cells #[.int .i64 view, .int .i64 op, .int .i64 under, .int .u64 par, .int .i64 client, .int .i64 sess, .int .i64 req, .int .i64 oper, .string body] 35)) := (Below.refl _ _).alloc (Nat.le_refl _) _
            have hs0 : (w.alloc (.cells #[.int .i64 view, .int .i64 op, .int .i64 under, .int .u64 par, .int .i64 client, .int .i64 sess, .int .i64 req, .int .i64 oper, .string body] 35)).heap.size = w.heap.size + 1 := by simp
            refine (header_any view op under par client sess req oper body _).mono ?_
            generalize w.alloc (.cells #[.int .i64 view, .int .i64 op, .int .i64 under, .int .u64 par, .int .i64 client, .int .i64 sess, .int .i64 req, .int .i64 oper, .string body] 35) = w0 at *
            rintro e w1 ⟨rfl, hb1⟩
            rw [hs0] at hb1
            have HS0 := Lib.hid hs0
            clear hs0
            have hz1 := hb1.size
            go_wp2_with fail
            refine (HR.out _).mono ?_
            rintro e w2 ⟨rfl, hb2⟩
            have hb12 : Below (w.heap.size + 1) w0 w2 := hb1.trans (hb2.mono (by rw [HS0.out] at hz1; exact hz1))
            have c0 : w2.cell? ⟨w.heap.size, 0, none⟩ = some (.int .i64 view) := (hb12.cell (p := ⟨w.heap.size, 0, none⟩) (by simp)).trans ((hcc 0).trans rfl)
            have c1 : w2.cell? ⟨w.heap.size, 1, none⟩ = some (.int .i64 op) := (hb12.cell (p := ⟨w.heap.size, 1, none⟩) (by simp)).trans ((hcc 1).trans rfl)
            have c2 : w2.cell? ⟨w.heap.size, 2, none⟩ = some (.int .i64 under) := (hb12.cell (p := ⟨w.heap.size, 2, none⟩) (by simp)).trans ((hcc 2).trans rfl)
            have c3 : w2.cell? ⟨w.heap.size, 3, none⟩ = some (.int .u64 par) := (hb12.cell (p := ⟨w.heap.size, 3, none⟩) (by simp)).trans ((hcc 3).trans rfl)
            have c4 : w2.cell? ⟨w.heap.size, 4, none⟩ = some (.int .i64 client) := (hb12.cell (p := ⟨w.heap.size, 4, none⟩) (by simp)).trans ((hcc 4).trans rfl)
            have c5 : w2.cell? ⟨w.heap.size, 5, none⟩ = some (.int .i64 sess) := (hb12.cell (p := ⟨w.heap.size, 5, none⟩) (by simp)).trans ((hcc 5).trans rfl)
            have c6 : w2.cell? ⟨w.heap.size, 6, none⟩ = some (.int .i64 req) := (hb12.cell (p := ⟨w.heap.size, 6, none⟩) (by simp)).trans ((hcc 6).trans rfl)
            have c7 : w2.cell? ⟨w.heap.size, 7, none⟩ = some (.int .i64 oper) := (hb12.cell (p := ⟨w.heap.size, 7, none⟩) (by simp)).trans ((hcc 7).trans rfl)
            have c8 : w2.cell? ⟨w.heap.size, 8, none⟩ = some (.string body) := (hb12.cell (p := ⟨w.heap.size, 8, none⟩) (by simp)).trans ((hcc 8).trans rfl)
            have HB := Lib.hid (hb0.trans (hb12.mono (by omega)))
            clear hcc hb1 hb2 hb12 hb0
            go_wp2_with fail
            go_ret
            first | exact ⟨ret_bool HF.out.symm, HB.out⟩ | exact ⟨ret_bool (by rw [HF.out]; simp; omega), HB.out⟩
          · have h3n : under ≤ view := by omega
            clear h3
            by_cases h4 : (200 : Int) < body.size
            · have HF := Lib.hid (HNO.out (by omega))
              go_enter Tryd.func20, Tryd.ntmps20
              go_wp2_with fail
              have hcc := fun i => cell_of_row (w.alloc (.cells #[.int .i64 view, .int .i64 op, .int .i64 under, .int .u64 par, .int .i64 client, .int .i64 sess, .int .i64 req, .int .i64 oper, .string body] 35)) w.heap.size i _ _ _ (heap_alloc_new w _)
              have hb0 : Below w.heap.size w (w.alloc (.cells #[.int .i64 view, .int .i64 op, .int .i64 under, .int .u64 par, .int .i64 client, .int .i64 sess, .int .i64 req, .int .i64 oper, .string body] 35)) := (Below.refl _ _).alloc (Nat.le_refl _) _
              have hs0 : (w.alloc (.cells #[.int .i64 view, .int .i64 op, .int .i64 under, .int .u64 par, .int .i64 client, .int .i64 sess, .int .i64 req, .int .i64 oper, .string body] 35)).heap.size = w.heap.size + 1 := by simp
              refine (header_any view op under par client sess req oper body _).mono ?_
              generalize w.alloc (.cells #[.int .i64 view, .int .i64 op, .int .i64 under, .int .u64 par, .int .i64 client, .int .i64 sess, .int .i64 req, .int .i64 oper, .string body] 35) = w0 at *
              rintro e w1 ⟨rfl, hb1⟩
              rw [hs0] at hb1
              have HS0 := Lib.hid hs0
              clear hs0
              have hz1 := hb1.size
              go_wp2_with fail
              refine (HR.out _).mono ?_
              rintro e w2 ⟨rfl, hb2⟩
              have hb12 : Below (w.heap.size + 1) w0 w2 := hb1.trans (hb2.mono (by rw [HS0.out] at hz1; exact hz1))
              have c0 : w2.cell? ⟨w.heap.size, 0, none⟩ = some (.int .i64 view) := (hb12.cell (p := ⟨w.heap.size, 0, none⟩) (by simp)).trans ((hcc 0).trans rfl)
              have c1 : w2.cell? ⟨w.heap.size, 1, none⟩ = some (.int .i64 op) := (hb12.cell (p := ⟨w.heap.size, 1, none⟩) (by simp)).trans ((hcc 1).trans rfl)
              have c2 : w2.cell? ⟨w.heap.size, 2, none⟩ = some (.int .i64 under) := (hb12.cell (p := ⟨w.heap.size, 2, none⟩) (by simp)).trans ((hcc 2).trans rfl)
              have c3 : w2.cell? ⟨w.heap.size, 3, none⟩ = some (.int .u64 par) := (hb12.cell (p := ⟨w.heap.size, 3, none⟩) (by simp)).trans ((hcc 3).trans rfl)
              have c4 : w2.cell? ⟨w.heap.size, 4, none⟩ = some (.int .i64 client) := (hb12.cell (p := ⟨w.heap.size, 4, none⟩) (by simp)).trans ((hcc 4).trans rfl)
              have c5 : w2.cell? ⟨w.heap.size, 5, none⟩ = some (.int .i64 sess) := (hb12.cell (p := ⟨w.heap.size, 5, none⟩) (by simp)).trans ((hcc 5).trans rfl)
              have c6 : w2.cell? ⟨w.heap.size, 6, none⟩ = some (.int .i64 req) := (hb12.cell (p := ⟨w.heap.size, 6, none⟩) (by simp)).trans ((hcc 6).trans rfl)
              have c7 : w2.cell? ⟨w.heap.size, 7, none⟩ = some (.int .i64 oper) := (hb12.cell (p := ⟨w.heap.size, 7, none⟩) (by simp)).trans ((hcc 7).trans rfl)
              have c8 : w2.cell? ⟨w.heap.size, 8, none⟩ = some (.string body) := (hb12.cell (p := ⟨w.heap.size, 8, none⟩) (by simp)).trans ((hcc 8).trans rfl)
              have HB := Lib.hid (hb0.trans (hb12.mono (by omega)))
              clear hcc hb1 hb2 hb12 hb0
              go_wp2_with fail
              go_ret
              first | exact ⟨ret_bool HF.out.symm, HB.out⟩ | exact ⟨ret_bool (by rw [HF.out]; simp; omega), HB.out⟩
            · have h4n : (body.size : Int) ≤ 200 := by omega
              clear h4
              have HF := Lib.hid (HYES.out HX.out (by omega))
              go_enter Tryd.func20, Tryd.ntmps20
              go_wp2_with fail
              have hcc := fun i => cell_of_row (w.alloc (.cells #[.int .i64 view, .int .i64 op, .int .i64 under, .int .u64 par, .int .i64 client, .int .i64 sess, .int .i64 req, .int .i64 oper, .string body] 35)) w.heap.size i _ _ _ (heap_alloc_new w _)
              have hb0 : Below w.heap.size w (w.alloc (.cells #[.int .i64 view, .int .i64 op, .int .i64 under, .int .u64 par, .int .i64 client, .int .i64 sess, .int .i64 req, .int .i64 oper, .string body] 35)) := (Below.refl _ _).alloc (Nat.le_refl _) _
              have hs0 : (w.alloc (.cells #[.int .i64 view, .int .i64 op, .int .i64 under, .int .u64 par, .int .i64 client, .int .i64 sess, .int .i64 req, .int .i64 oper, .string body] 35)).heap.size = w.heap.size + 1 := by simp
              refine (header_any view op under par client sess req oper body _).mono ?_
              generalize w.alloc (.cells #[.int .i64 view, .int .i64 op, .int .i64 under, .int .u64 par, .int .i64 client, .int .i64 sess, .int .i64 req, .int .i64 oper, .string body] 35) = w0 at *
              rintro e w1 ⟨rfl, hb1⟩
              rw [hs0] at hb1
              have HS0 := Lib.hid hs0
              clear hs0
              have hz1 := hb1.size
              go_wp2_with fail
              refine (HR.out _).mono ?_
              rintro e w2 ⟨rfl, hb2⟩
              have hb12 : Below (w.heap.size + 1) w0 w2 := hb1.trans (hb2.mono (by rw [HS0.out] at hz1; exact hz1))
              have c0 : w2.cell? ⟨w.heap.size, 0, none⟩ = some (.int .i64 view) := (hb12.cell (p := ⟨w.heap.size, 0, none⟩) (by simp)).trans ((hcc 0).trans rfl)
              have c1 : w2.cell? ⟨w.heap.size, 1, none⟩ = some (.int .i64 op) := (hb12.cell (p := ⟨w.heap.size, 1, none⟩) (by simp)).trans ((hcc 1).trans rfl)
              have c2 : w2.cell? ⟨w.heap.size, 2, none⟩ = some (.int .i64 under) := (hb12.cell (p := ⟨w.heap.size, 2, none⟩) (by simp)).trans ((hcc 2).trans rfl)
              have c3 : w2.cell? ⟨w.heap.size, 3, none⟩ = some (.int .u64 par) := (hb12.cell (p := ⟨w.heap.size, 3, none⟩) (by simp)).trans ((hcc 3).trans rfl)
              have c4 : w2.cell? ⟨w.heap.size, 4, none⟩ = some (.int .i64 client) := (hb12.cell (p := ⟨w.heap.size, 4, none⟩) (by simp)).trans ((hcc 4).trans rfl)
              have c5 : w2.cell? ⟨w.heap.size, 5, none⟩ = some (.int .i64 sess) := (hb12.cell (p := ⟨w.heap.size, 5, none⟩) (by simp)).trans ((hcc 5).trans rfl)
              have c6 : w2.cell? ⟨w.heap.size, 6, none⟩ = some (.int .i64 req) := (hb12.cell (p := ⟨w.heap.size, 6, none⟩) (by simp)).trans ((hcc 6).trans rfl)
              have c7 : w2.cell? ⟨w.heap.size, 7, none⟩ = some (.int .i64 oper) := (hb12.cell (p := ⟨w.heap.size, 7, none⟩) (by simp)).trans ((hcc 7).trans rfl)
              have c8 : w2.cell? ⟨w.heap.size, 8, none⟩ = some (.string body) := (hb12.cell (p := ⟨w.heap.size, 8, none⟩) (by simp)).trans ((hcc 8).trans rfl)
              have HB := Lib.hid (hb0.trans (hb12.mono (by omega)))
              clear hcc hb1 hb2 hb12 hb0
              go_wp2_with fail
              go_ret
              first | exact ⟨ret_bool HF.out.symm, HB.out⟩ | exact ⟨ret_bool (by rw [HF.out]; simp; omega), HB.out⟩

end Go.Proofs.YtpbjjmenkoigjaaDoor
end

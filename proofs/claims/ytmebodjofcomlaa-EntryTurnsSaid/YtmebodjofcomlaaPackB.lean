import Derived.Test.YtmebodjofcomlaaPackA
namespace Go.Proofs.Ytmebodjofcomlaa
open Go.RowKit
theorem wrap_u64_of (n : Nat) (h : n < 18446744073709551616) : IntKind.u64.wrap (n : Int) = (n : Int) := by rw [wrap_u64_nat, Nat.mod_eq_of_lt h]
theorem wrap_u8_of (n : Nat) (h : n < 256) : IntKind.u8.wrap (n : Int) = (n : Int) := by
  simp [IntKind.wrap, IntKind.bits, IntKind.signed]; omega
theorem holds_four (w : World) (a b c : Nat) (ha : a < 256) (hb : b < 256) (hc : c < 256) : Holds (w.alloc (.cells #[.int .u8 a, .int .u8 b, .int .u8 c, .int .u8 0] 5)) (.slice (some ⟨w.heap.size, 0, none⟩) 4 4) [a, b, c, 0] := by
  have e : (cells8 [a, b, c, 0]).toArray = #[.int .u8 a, .int .u8 b, .int .u8 c, .int .u8 0] := by simp [cells8]
  have h := heap_alloc_new w (.cells (cells8 [a, b, c, 0]).toArray 5)
  rw [e] at h
  exact (OwnB.of_block (B := 0) (l := [a, b, c, 0]) (fun x hx => by simp at hx; omega) (Nat.zero_le _) (by rw [e]; exact h) (by show 4 ≤ maxLen; decide)).holds
theorem put_mine {B : Nat} (v : Value) (L : List Nat) (n size : Nat) (w : World) (hM : Mine B w v L) (hn : n < 18446744073709551616) (hs : 1 ≤ size) (hs8 : size ≤ 8) (hfit : size = 8 ∨ n / 256 ^ size = 0) (hlen : L.length + 8 ≤ 140737488355328) :
    Calls Try.prog 32 #[v, .int .u64 n, .int .i64 size] w fun e w' => ∃ v', e = .returned (.tuple #[v', .int .i64 0]) ∧ Mine w.heap.size w' v' (L ++ leN n size) ∧ Below w.heap.size w w' := by
  have hh := hM.holds
  obtain ⟨_, g, cap, rfl, _⟩ := hM
  refine (put_ok _ cap L n size w hh hn hs hs8 hfit hlen).mono fun e w' ⟨v', he, hf, hb⟩ => ⟨v', he, hf.mine (by rw [List.length_append, leN_length]; omega), hb⟩
theorem text_append (l m : List Nat) : text (l ++ m) = text l ++ text m := by
  apply ByteArray.ext
  simp [text]
set_option maxHeartbeats 4000000 in
theorem pack_ok (k f o v p c cl se rq a b : Nat) (par : Nat) (body : ByteArray) (w : World) (h : headB k f o v p c cl se rq a b = true) (hl : body.size ≤ 3968) (hpar : par < 18446744073709551616) :
    Calls Try.prog 18 #[.agg #[.int .i64 k, .int .i64 f, .int .i64 o, .int .i64 v, .int .i64 p, .int .i64 c, .int .i64 cl, .int .i64 se, .int .i64 rq, .int .i64 a, .int .i64 b, .int .u64 par], .string body] w fun e w' =>
      e = .returned (.tuple #[.string (text (packL k f o [v, p, c, cl, se, rq, a, b] par (nats body))), .int .i64 0]) ∧ Below w.heap.size w w' := by
  have hr := fun w => right_any k f o v p c cl se rq a b par w
  have hbd := of_decide_eq_true h
  rw [h] at hr
  have HR := Lib.hid hr
  clear hr h
  have HB0 := Lib.hid ((Below.refl w.heap.size w).alloc (Nat.le_refl _) (.cells #[.int .i64 k, .int .i64 f, .int .i64 o, .int .i64 v, .int .i64 p, .int .i64 c, .int .i64 cl, .int .i64 se, .int .i64 rq, .int .i64 a, .int .i64 b, .int .u64 par] 34))
  have HROW := Lib.hid (Row.new w #[.int .i64 k, .int .i64 f, .int .i64 o, .int .i64 v, .int .i64 p, .int .i64 c, .int .i64 cl, .int .i64 se, .int .i64 rq, .int .i64 a, .int .i64 b, .int .u64 par] 34 _ rfl)
  have hl' : ¬ (3968 : Int) < body.size := by omega
  have HBD := Lib.hid hbd
  clear hbd
  go_enter Try.func18, Try.ntmps18
  go_wp2_with fail
  refine (HR.out _).mono ?_
  rintro e w1 ⟨rfl, hb1⟩
  have H1 := Lib.hid (And.intro (HROW.out.below hb1 HROW.out.1) (HB0.out.trans (hb1.mono HB0.out.size)))
  clear hb1 HB0 HROW
  go_wp2_with fail
  refine (sum_all body _ (by unfold maxLen; omega)).mono ?_
  rintro e w2 ⟨rfl, hb2⟩
  have H2 := Lib.hid (And.intro (H1.out.1.below hb2 H1.out.1.1) (H1.out.2.trans (hb2.mono H1.out.2.size)))
  clear hb2 H1
  have hlt := add_lt 0 (nats body)
  obtain ⟨S, hS⟩ : ∃ S, Crc.add 0 (nats body) = S := ⟨_, rfl⟩
  rw [hS] at hlt ⊢
  have HS := Lib.hid hS
  clear hS
  have hw0 := wrap_u64_of S (by omega)
  go_wp2_with fail
  refine (put_ok none 0 [] S 4 _ (Holds.nil _) (by omega) (by decide) (by decide) (.inr (Nat.div_eq_of_lt hlt)) (by decide)).mono ?_
  rintro e w3 ⟨v3, rfl, hf3, hb3⟩
  have hM3 := hf3.mine (by rw [List.nil_append, leN_length]; decide)
  have H3 := Lib.hid (And.intro (H2.out.1.below hb3 H2.out.1.1) (And.intro (H2.out.2.trans (hb3.mono H2.out.2.size)) (hM3.mono (Nat.succ_le_of_lt H2.out.1.1))))
  clear hb3 H2 hf3 hM3
  have c0 := H3.out.1.2 0 _ rfl; have c1 := H3.out.1.2 1 _ rfl; have c2 := H3.out.1.2 2 _ rfl
  have k0 := wrap_u8_of k (by have := HBD.out; omega); have k1 := wrap_u8_of f (by have := HBD.out; omega); have k2 := wrap_u8_of o (by have := HBD.out; omega)
  have HT := Lib.hid (holds_four w3 k f o (by have := HBD.out; omega) (by have := HBD.out; omega) (by have := HBD.out; omega))
  have HL4 : Hid (([] ++ leN S 4 : List Nat).length + [k, f, o, 0].length ≤ 140737488355328) := by show ([] ++ leN S 4 : List Nat).length + [k, f, o, 0].length ≤ 140737488355328; simp [leN_length]
  have HB4 := Lib.hid (show w.heap.size + 1 ≤ (w3.alloc (.cells #[.int .u8 k, .int .u8 f, .int .u8 o, .int .u8 0] 5)).heap.size from by have := H3.out.1.1; simp; omega)
  go_wp2_with (at_builtin; refine appM rfl _ _ rfl v3 ([] ++ leN S 4) rfl (H3.out.2.2.later ((Below.refl _ _).alloc (Nat.le_refl _) _)) ⟨w3.heap.size, 0, none⟩ 4 4 [k, f, o, 0] rfl HT.out HL4.out (Below.refl _ _) HB4.out ?_; intro v4 w4 hM4 hb4)
  have H4 := Lib.hid (And.intro ((H3.out.1.alloc _).below hb4 (Nat.lt_succ_self _)) (And.intro ((H3.out.2.1.alloc H3.out.2.1.size _).trans (hb4.mono (Nat.le_succ _))) hM4))
  clear hb4 hM4 H3 HT HL4 HB4 c0 c1 c2 k0 k1 k2
  refine (put_mine v4 _ body.size 4 _ H4.out.2.2 (by omega) (by decide) (by decide) (.inr (Nat.div_eq_of_lt (by omega))) (by simp [leN_length])).mono ?_
  rintro e w5 ⟨v5, rfl, hM5, hb5⟩
  have H5 := Lib.hid (And.intro (H4.out.1.below hb5 H4.out.1.1) (And.intro (H4.out.2.1.trans (hb5.mono H4.out.2.1.size)) (hM5.mono (Nat.succ_le_of_lt H4.out.1.1))))
  clear hb5 hM5 H4
  have c11 := H5.out.1.2 11 _ rfl
  go_wp2_with fail
  refine (put_mine v5 _ par 8 _ H5.out.2.2 hpar (by decide) (by decide) (.inl rfl) (by simp [leN_length])).mono ?_
  rintro e w6 ⟨v6, rfl, hM6, hb6⟩
  have H6 := Lib.hid (And.intro (H5.out.1.below hb6 H5.out.1.1) (And.intro (H5.out.2.1.trans (hb6.mono H5.out.2.1.size)) (hM6.mono (Nat.succ_le_of_lt H5.out.1.1))))
  clear hb6 hM6 H5 c11
  go_wp2_with fail
  refine (numbers_any _ _).mono ?_
  rintro e w7 ⟨rfl, hb7⟩
  have H7 := Lib.hid (And.intro (H6.out.1.below hb7 H6.out.1.1) (And.intro (H6.out.2.1.trans (hb7.mono H6.out.2.1.size)) (H6.out.2.2.later hb7)))
  clear hb7 H6
  obtain ⟨L0, hL0⟩ : ∃ L0, L0 = [] ++ leN S 4 ++ [k, f, o, 0] ++ leN body.size 4 ++ leN par 8 := ⟨_, rfl⟩
  rw [← hL0] at H7
  have hL0n : L0.length = 20 := by rw [hL0]; simp [leN_length]
  have HL0 := Lib.hid hL0
  have HL0N := Lib.hid hL0n
  clear hL0 hL0n
  go_wp2_with fail
  go_loopw [6, 55] (fun bv i wr => ∃ n : Nat, n ≤ 8 ∧ i = .int .i64 n ∧ Hid (Row wr w.heap.size #[.int .i64 k, .int .i64 f, .int .i64 o, .int .i64 v, .int .i64 p, .int .i64 c, .int .i64 cl, .int .i64 se, .int .i64 rq, .int .i64 a, .int .i64 b, .int .u64 par] ∧ Below w.heap.size w wr ∧
      Mine (w.heap.size + 1) wr bv (L0 ++ ([v, p, c, cl, se, rq, a, b].take n).flatMap (leN · 8)))) (fun _ i _ => 8 - (intOf i).toNat)
  case atStart => exact ⟨0, by omega, rfl, Lib.hid (by simpa using H7.out)⟩
  case round =>
    clear H7
    obtain ⟨n, hn, rfl, H⟩ := hrel
    by_cases hlt : n < 8
    · obtain ⟨x, hx, ik, cx, hns⟩ : ∃ x : Nat, x ≤ 72057594037927935 ∧ (∀ w2, (Instr.index 57 (.agg #[.pointer (some ⟨w.heap.size, 3, none⟩), .pointer (some ⟨w.heap.size, 4, none⟩), .pointer (some ⟨w.heap.size, 5, none⟩), .pointer (some ⟨w.heap.size, 6, none⟩), .pointer (some ⟨w.heap.size, 7, none⟩), .pointer (some ⟨w.heap.size, 8, none⟩), .pointer (some ⟨w.heap.size, 9, none⟩), .pointer (some ⟨w.heap.size, 10, none⟩)]) (.int .i64 n)).run Try.prog w2 = .ok (.pointer (some ⟨w.heap.size, 3 + n, none⟩)) w2) ∧
          wr.cell? ⟨w.heap.size, 3 + n, none⟩ = some (.int .i64 x) ∧ [v, p, c, cl, se, rq, a, b].take (n + 1) = [v, p, c, cl, se, rq, a, b].take n ++ [x] := by
        have hbd := HBD.out
        rcases (show n = 0 ∨ n = 1 ∨ n = 2 ∨ n = 3 ∨ n = 4 ∨ n = 5 ∨ n = 6 ∨ n = 7 from by omega) with rfl | rfl | rfl | rfl | rfl | rfl | rfl | rfl
        · exact ⟨v, by omega, fun _ => by kernel_rfl, H.out.1.2 3 _ rfl, rfl⟩
        · exact ⟨p, by omega, fun _ => by kernel_rfl, H.out.1.2 4 _ rfl, rfl⟩
        · exact ⟨c, by omega, fun _ => by kernel_rfl, H.out.1.2 5 _ rfl, rfl⟩
        · exact ⟨cl, by omega, fun _ => by kernel_rfl, H.out.1.2 6 _ rfl, rfl⟩
        · exact ⟨se, by omega, fun _ => by kernel_rfl, H.out.1.2 7 _ rfl, rfl⟩
        · exact ⟨rq, by omega, fun _ => by kernel_rfl, H.out.1.2 8 _ rfl, rfl⟩
        · exact ⟨a, by omega, fun _ => by kernel_rfl, H.out.1.2 9 _ rfl, rfl⟩
        · exact ⟨b, by omega, fun _ => by kernel_rfl, H.out.1.2 10 _ rfl, rfl⟩
      have HNS := Lib.hid hns
      clear hns
      have hw1 := wrap_u64_of x (by omega)
      obtain ⟨L, hL⟩ : ∃ L, L = L0 ++ ([v, p, c, cl, se, rq, a, b].take n).flatMap (leN · 8) := ⟨_, rfl⟩
      have hLn : L.length ≤ 140737488355320 := by
        rw [hL, List.length_append, List.length_flatMap, HL0N.out]
        have : (List.map (fun m => (leN m 8).length) ([v, p, c, cl, se, rq, a, b].take n)).sum ≤ 64 := by
          rcases (show n = 0 ∨ n = 1 ∨ n = 2 ∨ n = 3 ∨ n = 4 ∨ n = 5 ∨ n = 6 ∨ n = 7 from by omega) with rfl | rfl | rfl | rfl | rfl | rfl | rfl | rfl <;> simp [leN_length]
        omega
      have HL := Lib.hid hL
      have HLN := Lib.hid hLn
      rw [← hL] at H
      clear hL hLn
      go_wp2_with fail
      refine (put_mine _ L x 8 _ H.out.2.2 (by omega) (by decide) (by decide) (.inl rfl) (by have := HLN.out; omega)).mono ?_
      rintro e w8 ⟨v8, rfl, hM8, hb8⟩
      have H8 := Lib.hid (And.intro (H.out.1.below hb8 H.out.1.1) (And.intro (H.out.2.1.trans (hb8.mono H.out.2.1.size)) (hM8.mono (Nat.succ_le_of_lt H.out.1.1))))
      clear hb8 hM8 H cx
      go_wp2_with fail
      go_roundw
      case rel =>
        refine ⟨n + 1, by omega, by go_num, Lib.hid ?_⟩
        rw [HNS.out, List.flatMap_append, ← List.append_assoc, ← HL.out]
        simpa using H8.out
      case measure => simp [intOf]; omega
    · obtain rfl : n = 8 := by omega
      obtain ⟨L, hL⟩ : ∃ L, L = L0 ++ [v, p, c, cl, se, rq, a, b].flatMap (leN · 8) := ⟨_, rfl⟩
      have H' := H.out
      rw [show [v, p, c, cl, se, rq, a, b].take 8 = [v, p, c, cl, se, rq, a, b] from rfl, ← hL] at H'
      have hLn : L.length = 84 := by rw [hL, List.length_append, HL0N.out]; simp [leN_length]
      obtain ⟨hR, hBel, hM⟩ := H'
      obtain ⟨h8, g, cap, hv, hrest⟩ := hM
      rw [hLn] at hv
      subst hv
      have hM : Mine (w.heap.size + 1) wr (.slice (some ⟨g, 0, none⟩) 84 cap) L := ⟨h8, g, cap, by rw [hLn], hrest⟩
      clear h8 hrest
      have HL := Lib.hid hL
      have HLN := Lib.hid hLn
      have HM := Lib.hid hM
      have HBel := Lib.hid hBel
      have HSZ := Lib.hid hR.1
      clear hL hLn hM hBel H hR
      have HL4 : Hid (L.length + 40 ≤ 140737488355328) := Lib.hid (by rw [HLN.out]; decide)
      go_wp2_with (at_builtin; refine appZ rfl _ _ rfl _ L rfl HM.out .i64 40 rfl HL4.out (Below.refl _ _) HSZ.out ?_)
      intro v9 w9 hM9 hb9
      obtain ⟨L9, hL9⟩ : ∃ L9, L9 = L ++ List.replicate 40 0 := ⟨_, rfl⟩
      have hM9 : Mine (w.heap.size + 1) w9 v9 (L ++ List.replicate 40 0) := hM9
      rw [← hL9] at hM9
      have hL9n : L9.length = 124 := by rw [hL9, List.length_append, HLN.out]; rfl
      have hH9 := hM9.holds
      obtain ⟨h8, g9, cap9, hv, hrest⟩ := hM9
      rw [hL9n] at hv
      subst hv
      have H9 := Lib.hid (And.intro hH9 (HBel.out.trans (hb9.mono (Nat.le_succ _))))
      have h89 := Lib.hid h8
      have HL9 := Lib.hid hL9
      have HL9N := Lib.hid hL9n
      have rt := run_text w9 _ _ _ L9 H9.out.1
      clear hL9 hL9n hH9 h8 hrest hb9 HM HBel HSZ HL4
      go_wp2_with fail
      refine (sum_all (text L9) _ (by rw [text_size, HL9N.out]; decide)).mono ?_
      rw [nats_text L9 h89.out]
      rintro e w10 ⟨rfl, hb10⟩
      have H10 := Lib.hid (And.intro (H9.out.1.later hb10) (H9.out.2.trans (hb10.mono H9.out.2.size)))
      clear hb10 H9 rt
      have hlt9 := add_lt 0 L9
      obtain ⟨S9, hS9⟩ : ∃ S9, Crc.add 0 L9 = S9 := ⟨_, rfl⟩
      rw [hS9] at hlt9 ⊢
      have HS9 := Lib.hid hS9
      clear hS9
      have hw9 := wrap_u64_of S9 (by omega)
      go_wp2_with fail
      refine (put_ok none 0 [] S9 4 _ (Holds.nil _) (by omega) (by decide) (by decide) (.inr (Nat.div_eq_of_lt hlt9)) (by decide)).mono ?_
      rintro e w11 ⟨v11, rfl, hf11, hb11⟩
      obtain ⟨M, hM⟩ : ∃ M, M = [] ++ leN S9 4 := ⟨_, rfl⟩
      rw [← hM] at hf11
      have hMn : M.length = 4 := by rw [hM]; simp [leN_length]
      have hH11 := hf11.holds
      obtain ⟨h8, p11, cap11, hv, hrest⟩ := hH11
      rw [u8s_length, hMn] at hv
      subst hv
      have hH11 : Holds w11 (.slice p11 4 cap11) M := ⟨h8, p11, cap11, by rw [u8s_length, hMn], hrest⟩
      have r9 := run_text w11 _ _ _ L9 (H10.out.1.later hb11)
      have r11 := run_text w11 _ _ _ M hH11
      have H11 := Lib.hid (H10.out.2.trans (hb11.mono H10.out.2.size))
      have HM := Lib.hid hM
      have z1 : (text M).size = 4 := by rw [text_size, hMn]
      have z2 : (text L9).size = 124 := by rw [text_size, HL9N.out]
      have z3 : (text M ++ text L9).size = 128 := by rw [ByteArray.size_append, z1, z2]
      clear hM hMn hrest h8 hH11 hf11 hb11 H10
      go_wp2_with fail
      have hfin : packL k f o [v, p, c, cl, se, rq, a, b] par (nats body) = M ++ L9 ++ nats body := by
        have e9 : packIn k f o [v, p, c, cl, se, rq, a, b] par (nats body) = L9 := by
          unfold packIn
          rw [HL9.out, HL.out, HL0.out, HS.out, nats_length, List.nil_append]
        unfold packL
        rw [e9, HS9.out, HM.out, List.nil_append]
      rw [hfin, text_append, text_append, text_nats]
      go_ret2
      exact ⟨rfl, H11.out⟩
end Go.Proofs.Ytmebodjofcomlaa

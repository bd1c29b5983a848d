/- The walk of HeadTurns. -/
import Derived.Test.YtmebodjofcomlaaPks
namespace Go.Proofs.Ytmebodjofcomlaa
open Go.RowKit
theorem unpack_no (s : ByteArray) (w : World) (hl : s.size ≤ 140737488355328) (h : unOk s = false) :
    Calls Try.prog 22 #[.string s] w fun e w' => e = .returned (.tuple #[.agg #[.int .i64 0, .int .i64 0, .int .i64 0, .int .i64 0, .int .i64 0, .int .i64 0, .int .i64 0, .int .i64 0, .int .i64 0, .int .i64 0, .int .i64 0, .int .u64 0], .string ⟨#[]⟩, .int .i64 4]) ∧ Below w.heap.size w w' := by
  refine (unpack_any s w hl).mono ?_
  rintro e w' ⟨rfl, hb⟩
  exact ⟨by rw [if_neg (by rw [h]; simp)], hb⟩
theorem not_ok {s : ByteArray} (h : ¬ Good (nats s)) : unOk s = false := by
  cases hx : unOk s
  · rfl
  · exact absurd (unOk_good hx) h
theorem xor_self_ne {x m : Nat} (hm : m ≠ 0) : x ^^^ m ≠ x := fun h => hm (Crc.xor_cancel h)
theorem xor_u8 (x m : Nat) (hx : x < 256) (hm : m < 256) : bits BinOp.xor IntKind.u8 (x : Int) (m : Int) = ((x ^^^ m : Nat) : Int) := by
  have := idx_u8 x m hm
  rw [Nat.mod_eq_of_lt hx] at this
  rw [← this]; congr 1; omega
theorem holds_one (w : World) (b : Nat) (hb : b < 256) : Holds (w.alloc (.cells #[.int .u8 b] 5)) (.slice (some ⟨w.heap.size, 0, none⟩) 1 1) [b] := by
  have h := heap_alloc_new w (.cells (cells8 [b]).toArray 5)
  exact (OwnB.of_block (B := 0) (l := [b]) (fun x hx => by simp at hx; omega) (Nat.zero_le _) h (by show 1 ≤ maxLen; decide)).holds
theorem List.set_getElem?_self_of {l : List Nat} {t x : Nat} (h : l[t]? = some x) : l.set t x = l := by
  obtain ⟨hlt, rfl⟩ := List.getElem?_eq_some_iff.1 h
  exact List.set_getElem_self hlt
theorem at_idx (at_ : Int) (n : Nat) (h : 0 < n) (hn : n ≤ 4611686018427387904) : ∃ t : Nat, t < n ∧ wrap64 ((IntKind.u64.wrap at_).tmod (n : Int)) = t := by
  have e : IntKind.u64.wrap at_ = at_ % 18446744073709551616 := by simp [IntKind.wrap, IntKind.bits, IntKind.signed]
  obtain ⟨q, hq⟩ : ∃ q : Nat, at_ % 18446744073709551616 = q := ⟨(at_ % 18446744073709551616).toNat, by omega⟩
  refine ⟨q % n, Nat.mod_lt _ h, ?_⟩
  rw [e, hq, Int.tmod_eq_emod_of_nonneg (by omega), ← Int.natCast_emod]
  have := Nat.mod_lt q h
  exact IntWalk.wrap64_in _ (by omega)
set_option linter.unusedVariables false in
set_option maxHeartbeats 4000000 in
theorem turns_long (k f o v p c cl se rq a b par : Int) (body : ByteArray) (at_ mask : Int) (w : World) (hl : 5000 < body.size) :
    Calls Try.prog 6 #[.agg #[.int .i64 k, .int .i64 f, .int .i64 o, .int .i64 v, .int .i64 p, .int .i64 c, .int .i64 cl, .int .i64 se, .int .i64 rq, .int .i64 a, .int .i64 b, .int .u64 par], .string body, .int .i64 at_, .int .u8 mask] w fun e w' => e = .returned (.bool true) ∧ Below w.heap.size w w' := by
  have H0 := Lib.hid (HS.new w #[.int .i64 k, .int .i64 f, .int .i64 o, .int .i64 v, .int .i64 p, .int .i64 c, .int .i64 cl, .int .i64 se, .int .i64 rq, .int .i64 a, .int .i64 b, .int .u64 par] 34)
  go_enter Try.func6, Try.ntmps6
  go_wp2_with fail
  refine (awake05_any _).mono ?_
  rintro e w1 ⟨rfl, hb1⟩
  have H1 := Lib.hid (H0.out.next hb1)
  clear hb1 H0
  go_wp2_with fail
  refine (long05_yes _ _ hl).mono ?_
  rintro e w2 ⟨rfl, rfl⟩
  go_wp2_with fail
  go_ret
  exact ⟨rfl, H1.out.2⟩
set_option linter.unusedVariables false in
set_option maxHeartbeats 8000000 in
theorem turns_core (k f o v p c cl se rq a b par : Int) (body : ByteArray) (at_ : Int) (mask : Nat) (w : World) (hl : body.size ≤ 5000) (hpar : 0 ≤ par ∧ par ≤ 18446744073709551615) (hat : -9223372036854775808 ≤ at_ ∧ at_ ≤ 9223372036854775807) (hm : mask < 256) :
    Calls Try.prog 6 #[.agg #[.int .i64 k, .int .i64 f, .int .i64 o, .int .i64 v, .int .i64 p, .int .i64 c, .int .i64 cl, .int .i64 se, .int .i64 rq, .int .i64 a, .int .i64 b, .int .u64 par], .string body, .int .i64 at_, .int .u8 mask] w fun e w' => e = .returned (.bool true) ∧ Below w.heap.size w w' := by
  have HPAR := Lib.hid hpar
  clear hpar
  have hcv := fun (W : World) (s : ByteArray) => run_bytes_of_string (P := Try.prog) W 9 44 5 s Try.underlying9 Try.underlying44 Try.underlying5
  have HCV := Lib.hid hcv
  clear hcv
  have H0 := Lib.hid (HS.new w #[.int .i64 k, .int .i64 f, .int .i64 o, .int .i64 v, .int .i64 p, .int .i64 c, .int .i64 cl, .int .i64 se, .int .i64 rq, .int .i64 a, .int .i64 b, .int .u64 par] 34)
  go_enter Try.func6, Try.ntmps6
  go_wp2_with fail
  refine (awake05_any _).mono ?_
  rintro e w1 ⟨rfl, hb1⟩
  have H1 := Lib.hid (H0.out.next hb1)
  clear hb1 H0
  go_wp2_with fail
  refine (long05_no _ _ hl).mono ?_
  rintro e w2 ⟨rfl, rfl⟩
  have c0 := H1.out.1.2 0 _ rfl
  have c1 := H1.out.1.2 1 _ rfl
  have c2 := H1.out.1.2 2 _ rfl
  have c3 := H1.out.1.2 3 _ rfl
  have c4 := H1.out.1.2 4 _ rfl
  have c5 := H1.out.1.2 5 _ rfl
  have c6 := H1.out.1.2 6 _ rfl
  have c7 := H1.out.1.2 7 _ rfl
  have c8 := H1.out.1.2 8 _ rfl
  have c9 := H1.out.1.2 9 _ rfl
  have c10 := H1.out.1.2 10 _ rfl
  have c11 := H1.out.1.2 11 _ rfl
  go_wp2_with fail
  refine (pack_any k f o v p c cl se rq a b par body HPAR.out _).mono ?_
  rintro e w2 ⟨rfl, hb2⟩
  have H2 := Lib.hid (H1.out.next hb2)
  clear c0 c1 c2 c3 c4 c5 c6 c7 c8 c9 c10 c11
  clear hb2 H1
  obtain ⟨S, hS⟩ : ∃ S, S = packS k f o v p c cl se rq a b par body := ⟨_, rfl⟩
  obtain ⟨E, hE⟩ : ∃ E, E = packE k f o v p c cl se rq a b body := ⟨_, rfl⟩
  rw [← hS, ← hE]
  have HSE := Lib.hid (And.intro hS hE)
  clear hS hE
  by_cases hE : E = 0
  rotate_left
  · have hS0 : S.toList.isEmpty = true := by
      rw [HSE.out.1, packS_none (by rw [← HSE.out.2]; exact hE), toList_data]; rfl
    have hE2 : (E != 0) = true := by simp [hE]
    clear hE
    go_wp2_with fail
    go_ret
    exact ⟨ret_bool (by simp), H2.out.2⟩
  subst hE
  have HU := Lib.hid (fun W => unpack_packed k f o v p c cl se rq a b par body HPAR.out HSE.out.2.symm S HSE.out.1 W)
  have HG : Hid (Good (nats S)) := Lib.hid (by rw [HSE.out.1]; exact packS_good HSE.out.2.symm)
  have hz : 128 ≤ S.size := by rw [← nats_length]; exact good_min HG.out
  have hz2 : S.size ≤ 128 + 3968 := by rw [HSE.out.1]; exact packS_size
  obtain ⟨t, htl, ht⟩ := at_idx at_ S.size (by omega) (by omega)
  obtain ⟨x, hx⟩ : ∃ x, x = (nats S).getD t 0 := ⟨_, rfl⟩
  have hxg : (nats S)[t]? = some x := by rw [hx, List.getD_eq_getElem?_getD, List.getElem?_eq_getElem (by rw [nats_length]; exact htl)]; rfl
  have hx8 : x < 256 := nats_lt S x (List.mem_of_getElem? hxg)
  obtain ⟨y, hy⟩ : ∃ y, y = x ^^^ mask := ⟨_, rfl⟩
  have hy8 : y < 256 := by rw [hy]; exact Nat.xor_lt_two_pow (n := 8) hx8 hm
  have hbits : bits BinOp.xor IntKind.u8 (x : Int) (mask : Int) = (y : Int) := by rw [xor_u8 x mask hx8 hm, hy]
  obtain ⟨L, hL⟩ : ∃ L, L = (nats S).set t y := ⟨_, rfl⟩
  have hL8 : ∀ b ∈ L, b < 256 := by
    intro b hb
    rw [hL] at hb
    rcases List.mem_or_eq_of_mem_set hb with h | h
    · exact nats_lt S b h
    · rw [h]; exact hy8
  have hLn : L.length = S.size := by rw [hL, List.length_set, nats_length]
  have HB : ∀ gc m, BB (w2.alloc (.cells (bytesRow S gc) 5 ((bytesRow S gc).size, m))) w2.heap.size (nats S) := fun gc m => bb_row w2 S gc _ m
  have hcell : ∀ gc m, (w2.alloc (.cells (bytesRow S gc) 5 ((bytesRow S gc).size, m))).cell? ⟨w2.heap.size, t, none⟩ = some (.int .u8 x) := fun gc m => (HB gc m t x hxg).1
  have hfro : ∀ gc m, (w2.alloc (.cells (bytesRow S gc) 5 ((bytesRow S gc).size, m))).frozen? ⟨w2.heap.size, t, none⟩ = false := fun gc m => (HB gc m t x hxg).2
  have hrt : ∀ gc m, (convert 44 9 (.slice (some ⟨w2.heap.size, 0, none⟩) S.size gc)).run Try.prog ((w2.alloc (.cells (bytesRow S gc) 5 ((bytesRow S gc).size, m))).setCell ⟨w2.heap.size, t, none⟩ (.int .u8 y)).drew = .ok (.string (text L)) ((w2.alloc (.cells (bytesRow S gc) 5 ((bytesRow S gc).size, m))).setCell ⟨w2.heap.size, t, none⟩ (.int .u8 y)).drew := by
    intro gc m
    refine run_text _ _ _ _ L ?_
    have := (((HB gc m).set_ t y).drew).holds (by rw [← hL]; exact hL8) S.size gc (by rw [← hL, hLn]; exact Nat.le_refl _)
    rw [← hL, List.take_of_length_le (by rw [hLn]; exact Nat.le_refl _)] at this
    exact this
  have HB2 : Hid (∀ gc m, HS w #[.int .i64 k, .int .i64 f, .int .i64 o, .int .i64 v, .int .i64 p, .int .i64 c, .int .i64 cl, .int .i64 se, .int .i64 rq, .int .i64 a, .int .i64 b, .int .u64 par] ((w2.alloc (.cells (bytesRow S gc) 5 ((bytesRow S gc).size, m))).setCell ⟨w2.heap.size, t, none⟩ (.int .u8 y)).drew) := Lib.hid (fun gc m => (H2.out.next (((Below.refl _ _).alloc (Nat.le_refl _) _).setCell (p := ⟨w2.heap.size, t, none⟩) (Nat.le_refl _) _)).drew)
  have HXY := Lib.hid (And.intro hxg (And.intro hy hL))
  have HL8 := Lib.hid hL8
  have htl' : (t : Int) < S.size := by omega
  clear HB hxg hy hL hL8 hLn hx
  have hcv := fun (W : World) => HCV.out W S
  go_wp2_with fail
  have HB3 := Lib.hid (HB2.out (grownCap w2 S.size 0 5) ((bytesRow S (grownCap w2 S.size 0 5)).size + 1))
  have hLn : Hid ((text L).size = S.size) := Lib.hid (by rw [text_size, HXY.out.2.2, List.length_set, nats_length])
  obtain ⟨z0, z1, z2, z3, z4, z5, z6, z7, z8, z9, z10, z11, B, F, HC1, HF⟩ : ∃ z0 z1 z2 z3 z4 z5 z6 z7 z8 z9 z10 z11 B F, Hid (∀ W, Calls Try.prog 22 #[.string (text L)] W fun e w' => e = .returned (.tuple #[.agg #[.int .i64 z0, .int .i64 z1, .int .i64 z2, .int .i64 z3, .int .i64 z4, .int .i64 z5, .int .i64 z6, .int .i64 z7, .int .i64 z8, .int .i64 z9, .int .i64 z10, .int .u64 z11], .string B, .int .i64 F]) ∧ Below W.heap.size W w') ∧ Hid ((mask = 0 ∧ F = 0) ∨ (mask ≠ 0 ∧ F = 4)) := by
    by_cases hm0 : mask = 0
    · have e : text L = S := by
        have h1 := HXY.out
        rw [h1.2.2, h1.2.1, hm0, Nat.xor_zero]
        have : (nats S).set t x = nats S := List.set_getElem?_self_of h1.1
        rw [this, text_nats]
      exact ⟨_, _, _, _, _, _, _, _, _, _, _, _, _, _, Lib.hid (fun W => by rw [e]; exact HU.out W), Lib.hid (.inl ⟨hm0, rfl⟩)⟩
    · have hno : unOk (text L) = false := by
        refine not_ok ?_
        rw [nats_text L HL8.out]
        have h1 := HXY.out
        rw [h1.2.2]
        have hlt : t < (nats S).length := by rw [nats_length]; exact htl
        refine good_turn HG.out t y hlt hy8 ?_
        have : (nats S)[t] = x := by have := h1.1; rw [List.getElem?_eq_getElem hlt] at this; injection this
        rw [this, h1.2.1]
        exact xor_self_ne hm0
      exact ⟨_, _, _, _, _, _, _, _, _, _, _, _, _, _, Lib.hid (fun W => unpack_no (text L) W (by rw [hLn.out]; omega) hno), Lib.hid (.inr ⟨hm0, rfl⟩)⟩
  have HG2 : Hid (unOk (S.extract 0 (S.size - 1)) = false) := Lib.hid (not_ok (by rw [nats_extract, List.drop_zero, ← nats_length]; exact good_short HG.out))
  have HG3 : Hid (unOk (S ++ text [mask]) = false) := Lib.hid (not_ok (by rw [nats_append, nats_text [mask] (fun b hb => by simp at hb; omega)]; exact good_more HG.out mask))
  refine (HC1.out _).mono ?_
  clear hcell hfro hrt
  generalize (grownCap w2 S.size 0 5) = gc at *
  generalize ((w2.alloc (Obj.cells (bytesRow S gc) 5 ((bytesRow S gc).size, (bytesRow S gc).size + 1))).setCell { block := w2.heap.size, off := t } (Value.int IntKind.u8 ↑y)).drew = w3 at *
  rintro e w4 ⟨rfl, hb4⟩
  have H4 := Lib.hid (HB3.out.next hb4)
  clear hb4 hcv HB3 HB2
  have hz' : (1 : Int) ≤ S.size := by omega
  go_wp2_with fail
  refine (unpack_no _ _ (by rw [ByteArray.size_extract]; omega) HG2.out).mono ?_
  rintro e w5 ⟨rfl, hb5⟩
  have H5 := Lib.hid ((H4.out.next ((Below.refl _ _).alloc (Nat.le_refl _) _)).next hb5)
  clear hb5 H4
  have hrt := run_text (w5.alloc (.cells #[.int .i64 0, .int .i64 0, .int .i64 0, .int .i64 0, .int .i64 0, .int .i64 0, .int .i64 0, .int .i64 0, .int .i64 0, .int .i64 0, .int .i64 0, .int .u64 0] 34) |>.alloc (.cells #[.int .u8 mask] 5)) _ _ _ _ (holds_one (w5.alloc (.cells #[.int .i64 0, .int .i64 0, .int .i64 0, .int .i64 0, .int .i64 0, .int .i64 0, .int .i64 0, .int .i64 0, .int .i64 0, .int .i64 0, .int .i64 0, .int .u64 0] 34)) mask hm)
  rw [show (w5.alloc (.cells #[.int .i64 0, .int .i64 0, .int .i64 0, .int .i64 0, .int .i64 0, .int .i64 0, .int .i64 0, .int .i64 0, .int .i64 0, .int .i64 0, .int .i64 0, .int .u64 0] 34)).heap.size = w5.heap.size + 1 from by simp] at hrt
  have hsa : (S ++ text [mask]).size = S.size + 1 := by rw [ByteArray.size_append, text_size]; rfl
  have HSA := Lib.hid hsa
  have hts : (text [mask]).size = 1 := by rw [text_size]; rfl
  go_wp2_with fail
  refine (unpack_no _ _ (by rw [HSA.out]; omega) HG3.out).mono ?_
  rintro e w6 ⟨rfl, hb6⟩
  have H6 := Lib.hid (((H5.out.next ((Below.refl _ _).alloc (Nat.le_refl _) _)).next ((Below.refl _ _).alloc (Nat.le_refl _) _)).next hb6)
  clear hb6 H5 hrt hsa
  rcases HF.out with ⟨hm0, hF⟩ | ⟨hm0, hF⟩
  · subst hm0 hF
    go_wp2_with fail
    go_ret
    exact ⟨ret_bool (by simp), H6.out.2.alloc H6.out.2.size _⟩
  · have hmz : ((mask : Int) == 0) = false := by simp [hm0]
    subst hF
    clear hm0
    go_wp2_with fail
    go_ret
    exact ⟨ret_bool (by simp), H6.out.2.alloc H6.out.2.size _⟩
end Go.Proofs.Ytmebodjofcomlaa

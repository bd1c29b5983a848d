/- The walks of SealTurns, SealMoves. -/
import Derived.Test.YtnpipiamojmbhaaSealZ
namespace Go.Proofs.Ytnpipiamojmbhaa
open Go.RowKit
theorem xor_self_ne {x m : Nat} (hm : m ≠ 0) : x ^^^ m ≠ x := fun h => hm (Crc.xor_cancel h)
theorem xor_u8 (x m : Nat) (hx : x < 256) (hm : m < 256) : bits BinOp.xor IntKind.u8 (x : Int) (m : Int) = ((x ^^^ m : Nat) : Int) := by
  have := idx_u8 x m hm
  rw [Nat.mod_eq_of_lt hx] at this
  rw [← this]; congr 1; omega
theorem set_self_of {l : List Nat} {t x : Nat} (h : l[t]? = some x) : l.set t x = l := by
  obtain ⟨hlt, rfl⟩ := List.getElem?_eq_some_iff.1 h
  exact List.set_getElem_self hlt
set_option linter.unusedVariables false in
set_option maxHeartbeats 4000000 in
theorem turns_core (old s : ByteArray) (at_ : Int) (mask : Nat) (w : World) (ho : old.size ≤ 140737488351232) (hat : -9223372036854775808 ≤ at_ ∧ at_ ≤ 9223372036854775807) (hm : mask < 256) : Calls Try.prog 11 #[.string old, .string s, .int .i64 at_, .int .u8 mask] w fun e w' => e = .returned (.bool true) ∧ Below w.heap.size w w' := by
  obtain ⟨t, htl, ht⟩ := at_384 at_
  by_cases hl : 376 < s.size
  · have hl' : (376 : Int) < s.size := by omega
    have H1 := Lib.hid (fun W => seal_long old s W hl)
    clear hl
    go_enter Try.func11, Try.ntmps11
    go_wp2_with fail
    refine (awake04_any _).mono ?_
    rintro e w1 ⟨rfl, hb1⟩
    have B1 := Lib.hid hb1
    clear hb1
    go_wp2_with fail
    refine (H1.out _).mono ?_
    rintro e w3 ⟨rfl, rfl⟩
    go_wp2_with fail
    go_ret
    exact ⟨rfl, B1.out⟩
  · have hl' : (s.size : Int) ≤ 376 := by omega
    have hls : (nats s).length ≤ 376 := by rw [nats_length]; omega
    have H1 := Lib.hid (fun W => seal_ok old s W (by omega) (by omega))
    obtain ⟨g, hg⟩ : ∃ g, g = nextG old := ⟨_, rfl⟩
    have hg8 : g < 256 := by rw [hg]; exact nextG_lt old
    rw [← hg] at H1
    have hAn : nats (text (sealL g (nats s))) = sealL g (nats s) := nats_text _ (sealL_lt hg8 (nats_lt s))
    have hAz : (text (sealL g (nats s))).size = 384 := by rw [text_size]; exact sealL_length _ _ hls
    have hAb : text (opS (sealL g (nats s))) = s := by rw [opS_seal _ _ hls, text_nats]
    have hAo := opB_seal g (nats s) hls
    obtain ⟨S, hS⟩ : ∃ S, S = text (sealL g (nats s)) := ⟨_, rfl⟩
    rw [← hS] at H1 hAn hAz
    have hcv := fun (W : World) => run_bytes_of_string (P := Try.prog) W 9 28 5 S Try.underlying9 Try.underlying28 Try.underlying5
    have HCV := Lib.hid hcv
    clear hcv
    obtain ⟨x, hx⟩ : ∃ x, x = (nats S).getD t 0 := ⟨_, rfl⟩
    have hxg : (nats S)[t]? = some x := by rw [hx, List.getD_eq_getElem?_getD, List.getElem?_eq_getElem (by rw [nats_length, hAz]; exact htl)]; rfl
    have hx8 : x < 256 := nats_lt S x (List.mem_of_getElem? hxg)
    obtain ⟨y, hy⟩ : ∃ y, y = x ^^^ mask := ⟨_, rfl⟩
    have hy8 : y < 256 := by rw [hy]; exact Nat.xor_lt_two_pow (n := 8) hx8 hm
    have hbits : bits BinOp.xor IntKind.u8 (x : Int) (mask : Int) = (y : Int) := by rw [xor_u8 x mask hx8 hm, hy]
    obtain ⟨L, hL⟩ : ∃ L, L = (nats S).set t y := ⟨_, rfl⟩
    have hL8 : ∀ b ∈ L, b < 256 := by
      intro b hb
      rw [hL] at hb
      rcases List.mem_or_eq_of_mem_set hb with h | h
      · exact nats_lt S b h
      · rw [h]; exact hy8
    have hLn : L.length = S.size := by rw [hL, List.length_set, nats_length]
    have hLt : nats (text L) = L := nats_text L hL8
    obtain ⟨T, ok, HT, hno, hyes⟩ := open_names (text L)
    rw [hLt] at hno hyes
    have hres : (mask = 0 ∧ T = s ∧ ok = true) ∨ (mask ≠ 0 ∧ T = ⟨#[]⟩ ∧ ok = false) := by
      by_cases hm0 : mask = 0
      · refine .inl ⟨hm0, ?_⟩
        have e : L = sealL g (nats s) := by
          rw [hL, hy, hm0, Nat.xor_zero, set_self_of hxg, hAn]
        rw [e, hAb] at hyes
        exact hyes hAo
      · refine .inr ⟨hm0, hno ?_⟩
        rw [hL, hAn]
        refine op_turn hg8 (nats_lt s) hls t y htl hy8 ?_
        rw [← hAn, hxg, hy]
        exact fun h => xor_self_ne hm0 (Option.some.inj h).symm
    have HRES := Lib.hid hres
    have hrt : ∀ (w2 : World), ∀ gc m, (convert 28 9 (.slice (some ⟨w2.heap.size, 0, none⟩) S.size gc)).run Try.prog ((w2.alloc (.cells (bytesRow S gc) 5 ((bytesRow S gc).size, m))).setCell ⟨w2.heap.size, t, none⟩ (.int .u8 y)).drew = .ok (.string (text L)) ((w2.alloc (.cells (bytesRow S gc) 5 ((bytesRow S gc).size, m))).setCell ⟨w2.heap.size, t, none⟩ (.int .u8 y)).drew := by
      intro w2 gc m
      have HB : BB (w2.alloc (.cells (bytesRow S gc) 5 ((bytesRow S gc).size, m))) w2.heap.size (nats S) := bb_row w2 S gc _ m
      refine run_text _ _ _ _ L ?_
      have := ((HB.set_ t y).drew).holds (by rw [← hL]; exact hL8) S.size gc (by rw [← hL, hLn]; exact Nat.le_refl _)
      rw [← hL, List.take_of_length_le (by rw [hLn]; exact Nat.le_refl _)] at this
      exact this
    have HRT := Lib.hid hrt
    have HXG := Lib.hid hxg
    have htl' : (t : Int) < 384 := by omega
    have HAZ := Lib.hid hAz
    clear hl hls hAn hAb hAo hx hxg hy hL hL8 hLn hLt hno hyes hres hrt hg hS hAz htl
    go_enter Try.func11, Try.ntmps11
    go_wp2_with fail
    refine (awake04_any _).mono ?_
    rintro e w1 ⟨rfl, hb1⟩
    have B1 := Lib.hid hb1
    clear hb1
    go_wp2_with fail
    refine (H1.out _).mono ?_
    rintro e w2 ⟨rfl, hb2⟩
    have B2 := Lib.hid (B1.out.trans (hb2.mono B1.out.size))
    clear hb2
    have hcell : ∀ gc m, (w2.alloc (.cells (bytesRow S gc) 5 ((bytesRow S gc).size, m))).cell? ⟨w2.heap.size, t, none⟩ = some (.int .u8 x) := fun gc m => (bb_row w2 S gc _ m t x HXG.out).1
    have hfro : ∀ gc m, (w2.alloc (.cells (bytesRow S gc) 5 ((bytesRow S gc).size, m))).frozen? ⟨w2.heap.size, t, none⟩ = false := fun gc m => (bb_row w2 S gc _ m t x HXG.out).2
    have hrt := HRT.out w2
    have hcv := HCV.out
    have hzz : (384 : Int) ≤ S.size := by have := HAZ.out; omega
    go_wp2_with fail
    refine (HT.out _).mono ?_
    have HB2 := Lib.hid (fun gc m => (B2.out.trans ((((Below.refl _ _).alloc (Nat.le_refl _) (.cells (bytesRow S gc) 5 ((bytesRow S gc).size, m))).setCell (p := ⟨w2.heap.size, t, none⟩) (Nat.le_refl _) (.int .u8 y)).mono B2.out.size)).drew)
    rintro e w4 ⟨rfl, hb4⟩
    have B4 := Lib.hid ((HB2.out _ _).trans (hb4.mono (HB2.out _ _).size))
    clear hb4 hcell hfro hrt hcv HB2
    rcases HRES.out with ⟨hm0, rfl, rfl⟩ | ⟨hm0, rfl, rfl⟩
    · subst hm0
      go_wp2_with fail
      go_ret
      exact ⟨ret_bool (by simp), B4.out⟩
    · have hmz : ((mask : Int) == 0) = false := by simp [hm0]
      clear hm0
      go_wp2_with fail
      go_ret
      exact ⟨ret_bool (by simp), B4.out⟩
end Go.Proofs.Ytnpipiamojmbhaa

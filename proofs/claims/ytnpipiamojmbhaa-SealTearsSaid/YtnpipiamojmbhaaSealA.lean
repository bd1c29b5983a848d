/- seal.Seal: a text in a sector. -/
import Derived.Test.YtnpipiamojmbhaaSealP
import Derived.Test.YtnpipiamojmbhaaMine
import Derived.Test.YtnpipiamojmbhaaStr
import Derived.Test.YtnpipiamojmbhaaBlk
namespace Go.Proofs.Ytnpipiamojmbhaa
open Go.RowKit
/-- The byte that the next sector ends with. -/
def nextG (old : ByteArray) : Nat := if old.size = 0 then 1 else ((nats old).getD (old.size - 1) 0 + 1) % 256
theorem nextG_lt (old : ByteArray) : nextG old < 256 := by
  unfold nextG
  split
  · decide
  · exact Nat.mod_lt _ (by decide)
theorem wrap_u64_of (n : Nat) (h : n < 18446744073709551616) : IntKind.u64.wrap (n : Int) = (n : Int) := by rw [wrap_u64_nat, Nat.mod_eq_of_lt h]
theorem holds_one (w : World) (b : Nat) (hb : b < 256) : Holds (w.alloc (.cells #[.int .u8 b] 5)) (.slice (some ⟨w.heap.size, 0, none⟩) 1 1) [b] := by
  have h := heap_alloc_new w (.cells (cells8 [b]).toArray 5)
  exact (OwnB.of_block (B := 0) (l := [b]) (fun x hx => by simp at hx; omega) (Nat.zero_le _) h (by show 1 ≤ maxLen; decide)).holds
theorem put_mine {B : Nat} (v : Value) (L : List Nat) (n size : Nat) (w : World) (hM : Mine B w v L) (hn : n < 18446744073709551616) (hs : 1 ≤ size) (hs8 : size ≤ 8) (hfit : size = 8 ∨ n / 256 ^ size = 0) (hlen : L.length + 8 ≤ 140737488355328) :
    Calls Try.prog 31 #[v, .int .u64 n, .int .i64 size] w fun e w' => ∃ v', e = .returned (.tuple #[v', .int .i64 0]) ∧ Mine w.heap.size w' v' (L ++ leN n size) ∧ Below w.heap.size w w' := by
  have hh := hM.holds
  obtain ⟨_, g, cap, rfl, _⟩ := hM
  refine (put_ok _ cap L n size w hh hn hs hs8 hfit hlen).mono fun e w' ⟨v', he, hf, hb⟩ => ⟨v', he, hf.mine (by rw [List.length_append, leN_length]; omega), hb⟩
/-- The address and the capacity of what is one's own. -/
theorem Mine.shape {B : Nat} {w : World} {v : Value} {L : List Nat} (h : Mine B w v L) : ∃ g cap, v = .slice (some ⟨g, 0, none⟩) L.length cap := by
  obtain ⟨_, g, cap, hv, _⟩ := h
  exact ⟨g, cap, hv⟩
theorem seal_long (old s : ByteArray) (w : World) (hs : 376 < s.size) :
    Calls Try.prog 21 #[.string old, .string s] w fun e w' => e = .returned (.tuple #[.string ⟨#[]⟩, .int .i64 5]) ∧ w = w' := by
  have h' : (376 : Int) < s.size := by omega
  go_enter Try.func21, Try.ntmps21
  go_wp2
  go_ret2
  exact ⟨rfl, rfl⟩
set_option maxHeartbeats 4000000 in
theorem seal_ok (old s : ByteArray) (w : World) (hs : s.size ≤ 376) (ho : old.size ≤ 140737488355328) :
    Calls Try.prog 21 #[.string old, .string s] w fun e w' => e = .returned (.tuple #[.string (text (sealL (nextG old) (nats s))), .int .i64 0]) ∧ Below w.heap.size w w' := by
  have h' : ¬ (376 : Int) < s.size := by omega
  by_cases h0 : old.size = 0
  · have hg0 : nextG old = 1 := if_pos h0
    have h0' : ¬ (0 : Int) < old.size := by omega
    have HG0 := Lib.hid hg0
    clear hg0 h0
    go_enter Try.func21, Try.ntmps21
    go_wp2_with fail
    obtain ⟨g, hg⟩ : ∃ g, nextG old = g := ⟨_, rfl⟩
    rw [show (1 : Int) = (g : Int) by rw [← hg, HG0.out]; rfl]
    have hg8 : g < 256 := by rw [← hg]; exact nextG_lt old
    have HG := Lib.hid hg
    clear hg
    have hH := holds_one w g hg8
    have hB := (Below.refl w.heap.size w).alloc (Nat.le_refl _) (.cells #[.int .u8 (g : Int)] 5)
    have hS : w.heap.size < (w.alloc (.cells #[.int .u8 (g : Int)] 5)).heap.size := by simp
    generalize w.alloc (.cells #[.int .u8 (g : Int)] 5) = w1 at *
    refine (puttext_ok _ 1 [g] s _ hH (by omega) (by show 1 + 65537 ≤ 140737488355328; decide)).mono ?_
    rintro e w2 ⟨v2, rfl, hF, hb2⟩
    obtain ⟨L, hL⟩ : ∃ L, L = sealB g (nats s) := ⟨_, rfl⟩
    have hF : Fresh w1.heap.size w2 v2 L := by rw [hL]; unfold sealB; rw [nats_length]; exact hF
    have hLn : L.length = 3 + s.size := by rw [hL, sealB_length, nats_length]
    have hM2 := hF.mine (by omega)
    obtain ⟨n, hn⟩ : ∃ n, n = 3 + s.size := ⟨_, rfl⟩
    rw [← hn] at hLn
    have hn' : n ≤ 379 := by omega
    have hn2 : (n : Int) ≤ 379 := by omega
    obtain ⟨q2, cq2, rfl⟩ := hM2.shape
    rw [hLn] at hM2 ⊢
    have H2 := Lib.hid (And.intro (hB.trans (hb2.mono hB.size)) (And.intro (hM2.mono (Nat.le_of_lt hS)) (Nat.lt_of_lt_of_le hS hb2.size)))
    have HLN := Lib.hid hLn
    have HL := Lib.hid hL
    have HN := Lib.hid hn
    clear hF hM2 hb2 hB hH hS hn hLn hL hs
    go_wp2_with (at_builtin; refine appZ rfl _ _ rfl _ L rfl H2.out.2.1 .i64 (379 - n) (congrArg (Value.int .i64) (show (379 - (n : Int)) = ((379 - n : Nat) : Int) by omega)) (by rw [HLN.out]; omega) (Below.refl _ _) (Nat.le_of_lt H2.out.2.2) ?_)
    intro v3 w3 hM3 hb3
    obtain ⟨I, hI⟩ : ∃ I, I = L ++ List.replicate (379 - n) 0 := ⟨_, rfl⟩
    have hM3 : Mine w.heap.size w3 v3 (L ++ List.replicate (379 - n) 0) := hM3
    rw [← hI] at hM3
    have hIn : I.length = 379 := by rw [hI, List.length_append, HLN.out, List.length_replicate]; omega
    have hIs : I = sealI g (nats s) := by rw [hI]; unfold sealI; rw [← HL.out, HLN.out]
    have h83 := hM3.1
    have hH3 := hM3.holds
    obtain ⟨q3, cq3, rfl⟩ := hM3.shape
    rw [hIn] at hM3 hH3 ⊢
    have H3 := Lib.hid (And.intro (H2.out.1.trans hb3) (And.intro hM3 (Nat.lt_of_lt_of_le H2.out.2.2 hb3.size)))
    have rt := run_text w3 _ _ _ I hH3
    have HI := Lib.hid hIs
    have HIN := Lib.hid hIn
    have H83 := Lib.hid h83
    clear hI hM3 hIn hIs hH3 h83 hb3 H2 HL HLN HN
    go_wp2_with fail
    refine (sum_all (text I) _ (by rw [text_size, HIN.out]; decide)).mono ?_
    rw [nats_text I H83.out]
    rintro e w4 ⟨rfl, hb4⟩
    have H4 := Lib.hid (And.intro (H3.out.1.trans (hb4.mono H3.out.1.size)) (And.intro (H3.out.2.1.later hb4) (Nat.lt_of_lt_of_le H3.out.2.2 hb4.size)))
    clear hb4 H3 rt
    have hlt9 := add_lt 0 I
    obtain ⟨S9, hS9⟩ : ∃ S9, Crc.add 0 I = S9 := ⟨_, rfl⟩
    rw [hS9] at hlt9 ⊢
    have HS9 := Lib.hid hS9
    clear hS9
    have hw9 := wrap_u64_of S9 (by omega)
    go_wp2_with fail
    refine (put_mine _ I S9 4 _ H4.out.2.1 (by omega) (by decide) (by decide) (.inr (Nat.div_eq_of_lt hlt9)) (by rw [HIN.out]; decide)).mono ?_
    rintro e w5 ⟨v5, rfl, hM5, hb5⟩
    have hM5n : (I ++ leN S9 4).length = 383 := by rw [List.length_append, leN_length, HIN.out]
    have H5 := Lib.hid (And.intro (H4.out.1.trans (hb5.mono H4.out.1.size)) (And.intro (hM5.mono (Nat.le_of_lt H4.out.2.2)) (Nat.lt_of_lt_of_le H4.out.2.2 hb5.size)))
    obtain ⟨J, hJ⟩ : ∃ J, J = I ++ leN S9 4 := ⟨_, rfl⟩
    rw [← hJ] at H5 hM5n
    have HJ := Lib.hid hJ
    have HJN := Lib.hid hM5n
    clear hM5 hb5 hM5n hJ H4 hw9
    have HT := Lib.hid (holds_one w5 g hg8)
    have HLT := Lib.hid (show J.length + [g].length ≤ 140737488355328 by rw [HJN.out]; show 383 + 1 ≤ 140737488355328; decide)
    have HBB := Lib.hid (show w.heap.size ≤ (w5.alloc (.cells #[.int .u8 (g : Int)] 5)).heap.size by have := H5.out.2.2; simp; omega)
    go_wp2_with (at_builtin; refine appM rfl _ _ rfl v5 J rfl (H5.out.2.1.later ((Below.refl _ _).alloc (Nat.le_refl _) _)) ⟨w5.heap.size, 0, none⟩ 1 1 [g] rfl HT.out HLT.out (Below.refl _ _) HBB.out ?_)
    intro v6 w6 hM6 hb6
    have h86 := hM6.1
    have hH6 := hM6.holds
    have hn6 : (J ++ [g]).length = 384 := by rw [List.length_append, HJN.out]; rfl
    obtain ⟨q6, cq6, rfl⟩ := hM6.shape
    rw [hn6] at hH6 ⊢
    have r6 := run_text w6 _ _ _ (J ++ [g]) hH6
    have hfin : sealL g (nats s) = J ++ [g] := by
      unfold sealL
      rw [← HI.out, HS9.out, ← HJ.out]
    have HF := Lib.hid hfin
    have H6 := Lib.hid ((H5.out.1.alloc H5.out.1.size (.cells #[.int .u8 (g : Int)] 5)).trans hb6)
    clear hM6 hb6 h86 hH6 hn6 hfin H5 HT HLT HBB
    go_wp2_with fail
    go_ret2
    exact ⟨by rw [HG.out, HF.out]; rfl, H6.out⟩
  · have hg0 : nextG old = ((nats old).getD (old.size - 1) 0 + 1) % 256 := if_neg h0
    have h0' : (0 : Int) < old.size := by omega
    have h1' : (1 : Int) ≤ old.size := by omega
    have hlt : old.size - 1 < old.size := by omega
    rw [nats_getD old (old.size - 1) hlt] at hg0
    have HG0 := Lib.hid hg0
    clear h0 hg0
    go_enter Try.func21, Try.ntmps21
    go_wp2_with fail
    obtain ⟨g, hg⟩ : ∃ g, nextG old = g := ⟨_, rfl⟩
    have hx : (((old[old.size - 1]'hlt).toNat : Int) + 1) % 256 = (g : Int) := by rw [← hg, HG0.out]; omega
    rw [hx]
    clear hx
    have hg8 : g < 256 := by rw [← hg]; exact nextG_lt old
    have HG := Lib.hid hg
    clear hg
    have hH := holds_one w g hg8
    have hB := (Below.refl w.heap.size w).alloc (Nat.le_refl _) (.cells #[.int .u8 (g : Int)] 5)
    have hS : w.heap.size < (w.alloc (.cells #[.int .u8 (g : Int)] 5)).heap.size := by simp
    generalize w.alloc (.cells #[.int .u8 (g : Int)] 5) = w1 at *
    refine (puttext_ok _ 1 [g] s _ hH (by omega) (by show 1 + 65537 ≤ 140737488355328; decide)).mono ?_
    rintro e w2 ⟨v2, rfl, hF, hb2⟩
    obtain ⟨L, hL⟩ : ∃ L, L = sealB g (nats s) := ⟨_, rfl⟩
    have hF : Fresh w1.heap.size w2 v2 L := by rw [hL]; unfold sealB; rw [nats_length]; exact hF
    have hLn : L.length = 3 + s.size := by rw [hL, sealB_length, nats_length]
    have hM2 := hF.mine (by omega)
    obtain ⟨n, hn⟩ : ∃ n, n = 3 + s.size := ⟨_, rfl⟩
    rw [← hn] at hLn
    have hn' : n ≤ 379 := by omega
    have hn2 : (n : Int) ≤ 379 := by omega
    obtain ⟨q2, cq2, rfl⟩ := hM2.shape
    rw [hLn] at hM2 ⊢
    have H2 := Lib.hid (And.intro (hB.trans (hb2.mono hB.size)) (And.intro (hM2.mono (Nat.le_of_lt hS)) (Nat.lt_of_lt_of_le hS hb2.size)))
    have HLN := Lib.hid hLn
    have HL := Lib.hid hL
    have HN := Lib.hid hn
    clear hF hM2 hb2 hB hH hS hn hLn hL hs
    go_wp2_with (at_builtin; refine appZ rfl _ _ rfl _ L rfl H2.out.2.1 .i64 (379 - n) (congrArg (Value.int .i64) (show (379 - (n : Int)) = ((379 - n : Nat) : Int) by omega)) (by rw [HLN.out]; omega) (Below.refl _ _) (Nat.le_of_lt H2.out.2.2) ?_)
    intro v3 w3 hM3 hb3
    obtain ⟨I, hI⟩ : ∃ I, I = L ++ List.replicate (379 - n) 0 := ⟨_, rfl⟩
    have hM3 : Mine w.heap.size w3 v3 (L ++ List.replicate (379 - n) 0) := hM3
    rw [← hI] at hM3
    have hIn : I.length = 379 := by rw [hI, List.length_append, HLN.out, List.length_replicate]; omega
    have hIs : I = sealI g (nats s) := by rw [hI]; unfold sealI; rw [← HL.out, HLN.out]
    have h83 := hM3.1
    have hH3 := hM3.holds
    obtain ⟨q3, cq3, rfl⟩ := hM3.shape
    rw [hIn] at hM3 hH3 ⊢
    have H3 := Lib.hid (And.intro (H2.out.1.trans hb3) (And.intro hM3 (Nat.lt_of_lt_of_le H2.out.2.2 hb3.size)))
    have rt := run_text w3 _ _ _ I hH3
    have HI := Lib.hid hIs
    have HIN := Lib.hid hIn
    have H83 := Lib.hid h83
    clear hI hM3 hIn hIs hH3 h83 hb3 H2 HL HLN HN
    go_wp2_with fail
    refine (sum_all (text I) _ (by rw [text_size, HIN.out]; decide)).mono ?_
    rw [nats_text I H83.out]
    rintro e w4 ⟨rfl, hb4⟩
    have H4 := Lib.hid (And.intro (H3.out.1.trans (hb4.mono H3.out.1.size)) (And.intro (H3.out.2.1.later hb4) (Nat.lt_of_lt_of_le H3.out.2.2 hb4.size)))
    clear hb4 H3 rt
    have hlt9 := add_lt 0 I
    obtain ⟨S9, hS9⟩ : ∃ S9, Crc.add 0 I = S9 := ⟨_, rfl⟩
    rw [hS9] at hlt9 ⊢
    have HS9 := Lib.hid hS9
    clear hS9
    have hw9 := wrap_u64_of S9 (by omega)
    go_wp2_with fail
    refine (put_mine _ I S9 4 _ H4.out.2.1 (by omega) (by decide) (by decide) (.inr (Nat.div_eq_of_lt hlt9)) (by rw [HIN.out]; decide)).mono ?_
    rintro e w5 ⟨v5, rfl, hM5, hb5⟩
    have hM5n : (I ++ leN S9 4).length = 383 := by rw [List.length_append, leN_length, HIN.out]
    have H5 := Lib.hid (And.intro (H4.out.1.trans (hb5.mono H4.out.1.size)) (And.intro (hM5.mono (Nat.le_of_lt H4.out.2.2)) (Nat.lt_of_lt_of_le H4.out.2.2 hb5.size)))
    obtain ⟨J, hJ⟩ : ∃ J, J = I ++ leN S9 4 := ⟨_, rfl⟩
    rw [← hJ] at H5 hM5n
    have HJ := Lib.hid hJ
    have HJN := Lib.hid hM5n
    clear hM5 hb5 hM5n hJ H4 hw9
    have HT := Lib.hid (holds_one w5 g hg8)
    have HLT := Lib.hid (show J.length + [g].length ≤ 140737488355328 by rw [HJN.out]; show 383 + 1 ≤ 140737488355328; decide)
    have HBB := Lib.hid (show w.heap.size ≤ (w5.alloc (.cells #[.int .u8 (g : Int)] 5)).heap.size by have := H5.out.2.2; simp; omega)
    go_wp2_with (at_builtin; refine appM rfl _ _ rfl v5 J rfl (H5.out.2.1.later ((Below.refl _ _).alloc (Nat.le_refl _) _)) ⟨w5.heap.size, 0, none⟩ 1 1 [g] rfl HT.out HLT.out (Below.refl _ _) HBB.out ?_)
    intro v6 w6 hM6 hb6
    have h86 := hM6.1
    have hH6 := hM6.holds
    have hn6 : (J ++ [g]).length = 384 := by rw [List.length_append, HJN.out]; rfl
    obtain ⟨q6, cq6, rfl⟩ := hM6.shape
    rw [hn6] at hH6 ⊢
    have r6 := run_text w6 _ _ _ (J ++ [g]) hH6
    have hfin : sealL g (nats s) = J ++ [g] := by
      unfold sealL
      rw [← HI.out, HS9.out, ← HJ.out]
    have HF := Lib.hid hfin
    have H6 := Lib.hid ((H5.out.1.alloc H5.out.1.size (.cells #[.int .u8 (g : Int)] 5)).trans hb6)
    clear hM6 hb6 h86 hH6 hn6 hfin H5 HT HLT HBB
    go_wp2_with fail
    go_ret2
    exact ⟨by rw [HG.out, HF.out]; rfl, H6.out⟩
end Go.Proofs.Ytnpipiamojmbhaa

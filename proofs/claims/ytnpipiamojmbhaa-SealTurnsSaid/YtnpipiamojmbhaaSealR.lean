/- The reference's sector: With, Seal, Open. -/
import Derived.Test.YtnpipiamojmbhaaSealO
import Derived.Test.YtnpipiamojmbhaaCrcE
namespace Go.Proofs.Ytnpipiamojmbhaa
open Go.RowKit
theorem OwnB.slice' {B : Nat} {w : World} {v : Value} {l : List Nat} (h : OwnB B w v l) : ∃ p cap, v = .slice p l.length cap ∧ l.length ≤ cap := by
  rcases h.2.2 with ⟨rfl, hn⟩ | ⟨g, cap, cur, rfl, _, _, hc, _⟩
  · exact ⟨none, 0, by rw [hn], by omega⟩
  · exact ⟨_, cap, rfl, hc⟩
theorem OwnB.mono {B B' : Nat} {w : World} {v : Value} {L : List Nat} (h : OwnB B w v L) (hB : B' ≤ B) : OwnB B' w v L := by
  refine ⟨h.1, ?_⟩
  have h2 := h.2
  unfold World.ownsRow at h2 ⊢
  refine ⟨h2.1, ?_⟩
  rcases h2.2 with h | ⟨g, cap, cur, r1, r2, r3⟩
  · exact .inl h
  · exact .inr ⟨g, cap, cur, r1, Nat.le_trans hB r2, r3⟩
theorem OwnB.below {B : Nat} {w w' : World} {v : Value} {L : List Nat} (h : OwnB B w v L) (hb : Below w.heap.size w w') : OwnB B w' v L := by
  refine ⟨h.1, ?_⟩
  have h2 := h.2
  unfold World.ownsRow at h2 ⊢
  refine ⟨h2.1, ?_⟩
  rcases h2.2 with h | ⟨g, cap, cur, r1, r2, r3, r4⟩
  · exact .inl h
  · refine .inr ⟨g, cap, cur, r1, r2, ?_, r4⟩
    have hlt : g < w.heap.size := (Array.getElem?_eq_some_iff.1 r3).1
    rw [hb.block g hlt]; exact r3
/-- A reference's number that fits, behind what is one's own. -/
theorem refput_own {B : Nat} (v : Value) (L : List Nat) (n size : Nat) (w : World) (hO : OwnB B w v L) (hn : n < 18446744073709551616) (hs : 1 ≤ size) (hs8 : size ≤ 8) (hfit : n / 256 ^ size = 0) (hlen : L.length + 8 ≤ 140737488355328) :
    Calls Try.prog 38 #[v, .int .u64 n, .int .i64 size] w fun e w' => ∃ v', e = .returned (.tuple #[v', .int .i64 0]) ∧ OwnB w.heap.size w' v' (L ++ leN n size) ∧ Below w.heap.size w w' := by
  have hh := hO.holds
  obtain ⟨p, cap, rfl, _⟩ := hO.slice'
  refine (refput_loop p cap L n size w hh hn hs hs8 hlen).mono ?_
  rintro e w1 ⟨hb1, hP⟩
  rcases hP with h | h
  · obtain ⟨_, v', he, hO'⟩ := h
    exact ⟨v', he, hO', hb1⟩
  · exact absurd hfit h.1
set_option maxHeartbeats 4000000 in
theorem with_any (g : Nat) (s : ByteArray) (w : World) (hg8 : g < 256) (hs : s.size ≤ 376) :
    Calls Try.prog 32 #[.int .u8 g, .string s] w fun e w' => e = .returned (.string (text (sealL g (nats s)))) ∧ Below w.heap.size w w' := by
  go_enter Try.func32, Try.ntmps32
  go_wp2_with fail
  have hH := holds_one w g hg8
  have hB := (Below.refl w.heap.size w).alloc (Nat.le_refl _) (.cells #[.int .u8 (g : Int)] 5)
  have hS : w.heap.size < (w.alloc (.cells #[.int .u8 (g : Int)] 5)).heap.size := by simp
  generalize w.alloc (.cells #[.int .u8 (g : Int)] 5) = w1 at *
  refine (refputtext_ok _ 1 [g] s _ hH (by omega) (by show 1 + 65545 ≤ 140737488355328; decide)).mono ?_
  rintro e w2 ⟨v2, rfl, hF, hb2⟩
  obtain ⟨L, hL⟩ : ∃ L, L = sealB g (nats s) := ⟨_, rfl⟩
  have hF : OwnB w1.heap.size w2 v2 L := by rw [hL]; unfold sealB; rw [nats_length]; exact hF
  have hLn : L.length = 3 + s.size := by rw [hL, sealB_length, nats_length]
  obtain ⟨n, hn⟩ : ∃ n, n = 3 + s.size := ⟨_, rfl⟩
  rw [← hn] at hLn
  have hn' : n ≤ 379 := by omega
  have H2 := Lib.hid (And.intro (hB.trans (hb2.mono hB.size)) (And.intro (hF.mono (Nat.le_of_lt hS)) (Nat.lt_of_lt_of_le hS hb2.size)))
  have HLN := Lib.hid hLn
  have HL := Lib.hid hL
  clear hF hb2 hB hH hS hn hLn hL hs
  go_wp2_with fail
  go_loopw [5] (fun bv wr => ∃ k : Nat, n + k ≤ 379 ∧ Hid (w.heap.size < wr.heap.size ∧ Below w.heap.size w wr ∧ OwnB w.heap.size wr bv (L ++ List.replicate k 0)) ∧ ∃ q cq, bv = .slice q ((n + k : Nat) : Int).toNat cq) (fun bv _ => match bv with | .slice _ n _ => 379 - n | _ => 0)
  case atStart =>
    obtain ⟨q, cq, hv, _⟩ := H2.out.2.1.slice'
    exact ⟨0, by omega, Lib.hid ⟨H2.out.2.2, H2.out.1, by simpa using H2.out.2.1⟩, q, cq, by rw [hv, HLN.out]; rfl⟩
  case round =>
    obtain ⟨k, hk, HR, q, cq, rfl⟩ := hrel
    clear H2
    rw [Int.toNat_natCast] at HR ⊢
    have HLZ := Lib.hid (show (L ++ List.replicate k 0).length = n + k by rw [List.length_append, HLN.out, List.length_replicate])
    have HLY := Lib.hid (show (L ++ List.replicate (k + 1) 0).length = n + (k + 1) by rw [List.length_append, HLN.out, List.length_replicate])
    by_cases hlt : n + k < 379
    · have hlt' : ((n : Int) + k) < 379 := by omega
      go_wp2_with (with_reducible refine app1 rfl _ _ rfl _ _ rfl HR.out.2.2 _ 0 ?hc ?hd rfl ?he (Below.refl _ _) ?hg ?_)
      case hc => rfl
      case hd => decide
      case he => rw [HLZ.out]; omega
      case hg => exact Nat.le_of_lt HR.out.1
      intro v4 w4 hO4 hb4
      have hO4 : OwnB w.heap.size w4 v4 (L ++ List.replicate (k + 1) 0) := by rw [List.replicate_succ']; first | exact hO4 | (rw [← List.append_assoc]; exact hO4)
      obtain ⟨q4, cq4, hv, _⟩ := hO4.slice'
      rw [HLY.out] at hv
      subst hv
      have HR4 := Lib.hid (And.intro (Nat.lt_of_lt_of_le HR.out.1 hb4.size) (And.intro (HR.out.2.1.trans hb4) hO4))
      clear hO4 hb4 HR HLZ HLY
      go_wp2_with fail
      go_roundw
      case rel => exact ⟨k + 1, by omega, HR4, q4, cq4, by simp; omega⟩
      case measure => simp; omega
    · have hk' : n + k = 379 := by omega
      have hlt' : ¬ ((n : Int) + k) < 379 := by omega
      obtain ⟨I, hI⟩ : ∃ I, I = L ++ List.replicate k 0 := ⟨_, rfl⟩
      have HR' := HR.out
      rw [← hI] at HR'
      have hIn : I.length = 379 := by rw [hI, List.length_append, HLN.out, List.length_replicate]; exact hk'
      have hIs : I = sealI g (nats s) := by rw [hI]; unfold sealI; rw [← HL.out, HLN.out, show k = 379 - n by omega]
      have hH9 := HR'.2.2.holds
      have H89 := Lib.hid HR'.2.2.1
      rw [hk'] at hH9
      have rt := run_text wr _ _ _ I hH9
      have H3 := Lib.hid (And.intro HR'.2.1 (And.intro (show OwnB w.heap.size wr (.slice q 379 cq) I by rw [← hk']; exact HR'.2.2) HR'.1))
      have HI := Lib.hid hIs
      have HIN := Lib.hid hIn
      have HK := Lib.hid hk'
      rw [hk']
      clear hI hIs hIn hH9 HR' HR HLZ HLY hlt hlt' hk hk'
      go_wp2_with fail
      refine (refsum_all (text I) _ (by rw [text_size, HIN.out]; decide)).mono ?_
      rw [nats_text I H89.out]
      rintro e w4 ⟨rfl, rfl⟩
      have hlt9 := add_lt 0 I
      obtain ⟨S9, hS9⟩ : ∃ S9, Crc.add 0 I = S9 := ⟨_, rfl⟩
      rw [hS9] at hlt9 ⊢
      have HS9 := Lib.hid hS9
      clear hS9 rt
      have hw9 := wrap_u64_of S9 (by omega)
      go_wp2_with fail
      refine (refput_own _ I S9 4 _ H3.out.2.1 (by omega) (by decide) (by decide) (Nat.div_eq_of_lt hlt9) (by rw [HIN.out]; decide)).mono ?_
      rintro e w5 ⟨v5, rfl, hO5, hb5⟩
      obtain ⟨J, hJ⟩ : ∃ J, J = I ++ leN S9 4 := ⟨_, rfl⟩
      rw [← hJ] at hO5
      have hJn : J.length = 383 := by rw [hJ, List.length_append, leN_length, HIN.out]
      have H5 := Lib.hid (And.intro (H3.out.1.trans (hb5.mono H3.out.1.size)) (And.intro (hO5.mono (Nat.le_of_lt H3.out.2.2)) (Nat.lt_of_lt_of_le H3.out.2.2 hb5.size)))
      have HJ := Lib.hid hJ
      have HJN := Lib.hid hJn
      clear hO5 hb5 hJ hJn H3 hw9
      go_wp2_with (with_reducible refine app1 rfl _ _ rfl _ _ rfl H5.out.2.1 _ g ?hc hg8 rfl ?he (Below.refl _ _) ?hg ?_)
      case hc => rfl
      case he => rw [HJN.out]; decide
      case hg => exact Nat.le_of_lt H5.out.2.2
      intro v6 w6 hO6 hb6
      have hO6 : OwnB w.heap.size w6 v6 (J ++ [g]) := hO6
      have hn6 : (J ++ [g]).length = 384 := by rw [List.length_append, HJN.out]; rfl
      have hH6 := hO6.holds
      obtain ⟨q6, cq6, rfl, _⟩ := hO6.slice'
      rw [hn6] at hH6 ⊢
      have r6 := run_text w6 _ _ _ (J ++ [g]) hH6
      have hfin : sealL g (nats s) = J ++ [g] := by
        unfold sealL
        rw [← HI.out, HS9.out, ← HJ.out]
      have HF := Lib.hid hfin
      have H6 := Lib.hid (H5.out.1.trans hb6)
      clear hO6 hb6 hH6 hn6 hfin H5
      go_wp2_with fail
      go_ret
      exact ⟨by rw [HF.out]; rfl, H6.out⟩
theorem rseal_long (old s : ByteArray) (w : World) (hs : 376 < s.size) :
    Calls Try.prog 22 #[.string old, .string s] w fun e w' => e = .returned (.tuple #[.string ⟨#[]⟩, .int .i64 5]) ∧ w = w' := by
  have h' : (376 : Int) < s.size := by omega
  go_enter Try.func22, Try.ntmps22
  go_wp2
  go_ret2
  exact ⟨rfl, rfl⟩
set_option maxHeartbeats 2000000 in
theorem rseal_ok (old s : ByteArray) (w : World) (hs : s.size ≤ 376) (ho : old.size ≤ 140737488355328) :
    Calls Try.prog 22 #[.string old, .string s] w fun e w' => e = .returned (.tuple #[.string (text (sealL (nextG old) (nats s))), .int .i64 0]) ∧ Below w.heap.size w w' := by
  have h' : ¬ (376 : Int) < s.size := by omega
  by_cases h0 : old.size = 0
  · have hg0 : nextG old = 1 := if_pos h0
    have h0' : ¬ (0 : Int) < old.size := by omega
    have HW := Lib.hid (fun W => with_any 1 s W (by decide) hs)
    rw [hg0]
    clear h0 hg0
    obtain ⟨T, hT⟩ : ∃ T, T = text (sealL 1 (nats s)) := ⟨_, rfl⟩
    rw [← hT] at HW ⊢
    clear hT
    go_enter Try.func22, Try.ntmps22
    go_wp2_with fail
    refine (HW.out _).mono ?_
    rintro e w1 ⟨rfl, hb1⟩
    have H1 := Lib.hid hb1
    clear hb1
    go_wp2_with fail
    go_ret2
    exact ⟨rfl, H1.out⟩
  · have hg0 : nextG old = ((nats old).getD (old.size - 1) 0 + 1) % 256 := if_neg h0
    have h0' : (0 : Int) < old.size := by omega
    have h1' : (1 : Int) ≤ old.size := by omega
    have hlt : old.size - 1 < old.size := by omega
    rw [nats_getD old (old.size - 1) hlt] at hg0
    have hg8 := nextG_lt old
    have HW := Lib.hid (fun W => with_any (nextG old) s W hg8 hs)
    have HG0 := Lib.hid hg0
    obtain ⟨g, hg⟩ : ∃ g, g = nextG old := ⟨_, rfl⟩
    rw [← hg] at HW hg8 ⊢
    obtain ⟨T, hT⟩ : ∃ T, T = text (sealL g (nats s)) := ⟨_, rfl⟩
    rw [← hT] at HW ⊢
    have h8 := (old[old.size - 1]'hlt).toNat_lt
    have HX := Lib.hid (show ((old[old.size - 1]'hlt).toNat + 1) % 256 = g by rw [hg, HG0.out])
    clear h0 hg0 hT hg
    go_enter Try.func22, Try.ntmps22
    go_wp2_with fail
    rw [show (((old[old.size - 1]'hlt).toNat : Int) + 1) % 256 = (g : Int) by have := HX.out; omega]
    refine (HW.out _).mono ?_
    rintro e w1 ⟨rfl, hb1⟩
    have H1 := Lib.hid hb1
    clear hb1
    go_wp2_with fail
    go_ret2
    exact ⟨rfl, H1.out⟩
theorem ropen_short (s : ByteArray) (w : World) (h : s.size ≠ 384) : Calls Try.prog 24 #[.string s] w (OpPost s w) := by
  have HY : Hid (opB (nats s) = false) := Lib.hid (decide_eq_false (fun q => h (by rw [← nats_length]; exact q.1)))
  have h1 : ((s.size : Int) == 384) = false := by simp; omega
  have h2 : ((s.size : Int) != 384) = true := by simp; omega
  clear h
  go_enter Try.func24, Try.ntmps24
  go_wp2_with fail
  go_ret2
  exact OpPost.no HY.out (Below.refl _ _)
set_option maxHeartbeats 2000000 in
theorem ropen_try (s : ByteArray) (w : World) (h : s.size = 384) : Calls Try.prog 24 #[.string s] w (OpPost s w) := by
  have hcv := fun (W : World) => run_bytes_of_string (P := Try.prog) W 9 28 5 s Try.underlying9 Try.underlying28 Try.underlying5
  have h0 : (0 : Int) < s.size := by omega
  have h2 : ((s.size : Int) != 384) = false := by simp; omega
  have HS := Lib.hid h
  have h5 : (s.size : Int) = 384 := by omega
  go_enter Try.func24, Try.ntmps24
  go_wp2_with fail
  clear hcv
  generalize hgc : grownCap _ 384 0 5 = gc
  have hC2 : 384 ≤ gc := by rw [← hgc]; exact grownCap_ge _ _ _ _
  clear hgc
  have hl : (nats s).length = 384 := by rw [nats_length]; exact h
  have hB0 : Below w.heap.size w (w.alloc (.cells (bytesRow s gc) 5 ((bytesRow s gc).size, (bytesRow s gc).size + 1))).drew := ((Below.refl _ _).alloc (Nat.le_refl _) _).drew
  have hBB : BB (w.alloc (.cells (bytesRow s gc) 5 ((bytesRow s gc).size, (bytesRow s gc).size + 1))).drew w.heap.size (nats s) := (bb_row w s gc 5 _).drew
  generalize (w.alloc (.cells (bytesRow s gc) 5 ((bytesRow s gc).size, (bytesRow s gc).size + 1))).drew = w1 at *
  have hH : Holds w1 (.slice (some ⟨w.heap.size, 0, none⟩) (nats s).length gc) (nats s) := by
    have := hBB.holds (nats_lt s) (nats s).length gc (Nat.le_refl _)
    rwa [List.take_of_length_le (Nat.le_refl _)] at this
  have hx0 : (nats s).getD 0 0 = (s[0]'(by omega)).toNat := nats_getD s 0 (by omega)
  obtain ⟨l, hll⟩ : ∃ l, l = nats s := ⟨_, rfl⟩
  have H8 := Lib.hid (nats_lt s)
  rw [← hll] at hl hBB hH H8 hx0
  have HT2 := Lib.hid (reftaketext_any (some ⟨w.heap.size, 0, none⟩) gc 1 376 l w1 hH (by rw [hl]; exact hC2) (by rw [hl]; decide) (by decide))
  rw [hl] at HT2
  have HTX := Lib.hid (textR_one l hl)
  have HLL := Lib.hid hll
  have HLN := Lib.hid hl
  have H1 := Lib.hid hB0
  have HX0 := Lib.hid hx0
  clear hll hl hBB hH hB0 hx0
  refine HT2.out.mono ?_
  by_cases hn : 376 < opN l
  · have hno : Hid (opB l = false) := Lib.hid (decide_eq_false (fun q => by have := q.2.1; omega))
    rw [HTX.out.1 hn]
    rintro e w3 ⟨rfl, hb3⟩
    have H3 := Lib.hid (H1.out.trans (hb3.mono H1.out.size))
    clear hb3 hn
    go_wp2_with fail
    go_ret2
    exact OpPost.no (by rw [← HLL.out]; exact hno.out) H3.out
  rw [HTX.out.2 (by omega)]
  rintro e w3 ⟨rfl, hb3⟩
  have H3 := Lib.hid (H1.out.trans (hb3.mono H1.out.size))
  have hn' : opN l ≤ 376 := by omega
  clear hb3 HTX hn HT2
  obtain ⟨T, hT⟩ : ∃ T, T = text (opS l) := ⟨_, rfl⟩
  rw [show text (opS l, ((3 + opN l : Nat) : Int), (0 : Int)).1 = T from hT.symm]
  have hS8 : ∀ x ∈ opS l, x < 256 := fun x hx => H8.out x (List.mem_of_mem_drop (List.mem_of_mem_take hx))
  have hTn : nats T = opS l := by rw [hT]; exact nats_text _ hS8
  have hTz : T.size ≤ 376 := by rw [hT, text_size, opS_length HLN.out hn']; exact hn'
  have hg8 : (s[0]'(by omega)).toNat < 256 := (s[0]'(by omega)).toNat_lt
  have HW := Lib.hid (fun W => with_any (s[0]'(by omega)).toNat T W hg8 hTz)
  obtain ⟨X, hX⟩ : ∃ X, X = text (sealL (s[0]'(by omega)).toNat (nats T)) := ⟨_, rfl⟩
  rw [← hX] at HW
  have hiff : opB l = true ↔ X = s := by
    have h8 := sealL_lt hg8 hS8
    constructor
    · intro hb
      have h3 := (of_decide_eq_true hb).2.2
      rw [hX, hTn, ← HX0.out, h3, HLL.out, text_nats]
    · intro he
      refine decide_eq_true ⟨HLN.out, hn', ?_⟩
      have := congrArg nats he
      rw [hX, hTn, nats_text _ h8, ← HX0.out] at this
      rw [this, HLL.out]
  have HIFF := Lib.hid hiff
  have HT := Lib.hid hT
  clear hT hS8 hTn hTz hX hiff
  go_wp2_with fail
  refine (HW.out _).mono ?_
  rintro e w4 ⟨rfl, hb4⟩
  have H4 := Lib.hid (H3.out.trans (hb4.mono H3.out.size))
  clear hb4 HW HX0
  by_cases hXs : X = s
  · have hyes := Lib.hid (HIFF.out.2 hXs)
    subst hXs
    go_wp2_with fail
    go_ret2
    exact OpPost.yes (by rw [← HLL.out]; exact hyes.out) (by rw [← HLL.out]; exact HT.out.symm) H4.out
  · have hno : Hid (opB l = false) := Lib.hid (by
      cases hb : opB l
      · rfl
      · exact absurd (HIFF.out.1 hb) hXs)
    have hs : (X.toList == s.toList) = false := by
      rw [beq_eq_false_iff_ne, toList_data, toList_data]
      exact fun h => hXs (ByteArray.ext (Array.toList_inj.1 h))
    have hs2 : (X.toList != s.toList) = true := by rw [bne, hs]; rfl
    clear hXs
    go_wp2_with fail
    go_ret2
    exact OpPost.no (by rw [← HLL.out]; exact hno.out) H4.out
theorem ropen_any (s : ByteArray) (w : World) : Calls Try.prog 24 #[.string s] w (OpPost s w) := by
  by_cases h : s.size = 384
  · exact ropen_try s w h
  · exact ropen_short s w h
end Go.Proofs.Ytnpipiamojmbhaa

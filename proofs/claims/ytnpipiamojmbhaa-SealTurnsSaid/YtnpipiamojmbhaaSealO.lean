/- seal.Open: a sector's text. -/
import Derived.Test.YtnpipiamojmbhaaSealA
import Derived.Deep.QuietTactic
import Derived.BigQuiet
namespace Go.Proofs.Ytnpipiamojmbhaa
open Go.RowKit
def OpPost (s : ByteArray) (w : World) (e : Ending) (w' : World) : Prop := e = .returned (if opB (nats s) = true then .tuple #[.string (text (opS (nats s))), .bool true] else .tuple #[.string ⟨#[]⟩, .bool false]) ∧ Below w.heap.size w w'
theorem OpPost.yes {s : ByteArray} {w w' : World} {T : ByteArray} (h : opB (nats s) = true) (hT : text (opS (nats s)) = T) (hb : Below w.heap.size w w') : OpPost s w (.returned (.tuple #[.string T, .bool true])) w' := by
  subst hT
  exact ⟨by rw [if_pos h], hb⟩
theorem OpPost.no {s : ByteArray} {w w' : World} (h : opB (nats s) = false) (hb : Below w.heap.size w w') : OpPost s w (.returned (.tuple #[.string ⟨#[]⟩, .bool false])) w' := ⟨by rw [if_neg (by rw [h]; simp)], hb⟩
theorem open_short (s : ByteArray) (w : World) (h : s.size ≠ 384) : Calls Try.prog 23 #[.string s] w (OpPost s w) := by
  have HY : Hid (opB (nats s) = false) := Lib.hid (decide_eq_false (fun q => h (by rw [← nats_length]; exact q.1)))
  have h1 : ((s.size : Int) == 384) = false := by simp; omega
  have h2 : ((s.size : Int) != 384) = true := by simp; omega
  clear h
  go_enter Try.func23, Try.ntmps23
  go_wp2_with fail
  go_quiet (fail)
  go_wp2_with fail
  go_ret2
  exact OpPost.no HY.out (below_drewN (Below.refl _ _) _)
theorem open_ends (s : ByteArray) (w : World) (h : s.size = 384) (hne : (nats s)[0]? ≠ (nats s)[383]?) : Calls Try.prog 23 #[.string s] w (OpPost s w) := by
  have HY : Hid (opB (nats s) = false) := Lib.hid (by
    cases hb : opB (nats s)
    · rfl
    · exact absurd (opB_ends hb) hne)
  rw [nats_get s 0 (by omega), nats_get s 383 (by omega)] at hne
  have h0 : (0 : Int) < s.size := by omega
  have h1 : (383 : Int) < s.size := by omega
  have h2 : ((s.size : Int) != 384) = false := by simp; omega
  have h3 : (((s[0]'(by omega)).toNat : Int) != ((s[383]'(by omega)).toNat : Int)) = true := by
    simp only [bne_iff_ne, ne_eq, Int.natCast_inj]
    exact fun e => hne (by rw [e])
  have h4 : ((s[0]'(by omega)).toNat == (s[383]'(by omega)).toNat) = false := by
    simp only [beq_eq_false_iff_ne, ne_eq]
    exact fun e => hne (by rw [e])
  clear hne
  have HS := Lib.hid h
  have h5 : (s.size : Int) = 384 := by omega
  go_enter Try.func23, Try.ntmps23
  go_wp2_with fail
  go_quiet (fail)
  go_wp2_with fail
  go_ret2
  exact OpPost.no HY.out (below_drewN (Below.refl _ _) _)
theorem textR_one (l : List Nat) (h : l.length = 384) : (376 < opN l → textR l 1 376 = ([], 0, 5)) ∧ (opN l ≤ 376 → textR l 1 376 = (opS l, ((3 + opN l : Nat) : Int), 0)) := by
  have e := takeR_ok l 1 2 (by decide) (by decide) (by omega)
  have e : takeR l 1 2 = ((opN l : Int), 0) := e
  refine ⟨fun hn => textR_long l 1 376 _ e (by omega), fun hn => ?_⟩
  rw [textR_ok l 1 376 _ e (by omega) (by omega)]
  show ((l.drop 3).take ((opN l : Nat) : Int).toNat, 1 + 2 + (opN l : Int), (0 : Int)) = _
  rw [Int.toNat_natCast]
  unfold opS
  congr 1
set_option maxHeartbeats 4000000 in
theorem open_try (s : ByteArray) (w : World) (h : s.size = 384) (heq : (nats s)[0]? = (nats s)[383]?) : Calls Try.prog 23 #[.string s] w (OpPost s w) := by
  have hcv := fun (W : World) => run_bytes_of_string (P := Try.prog) W 9 28 5 s Try.underlying9 Try.underlying28 Try.underlying5
  have HEQ := Lib.hid heq
  rw [nats_get s 0 (by omega), nats_get s 383 (by omega)] at heq
  injection heq with heq
  have h0 : (0 : Int) < s.size := by omega
  have h1 : (383 : Int) < s.size := by omega
  have h2 : ((s.size : Int) != 384) = false := by simp; omega
  have h3 : (((s[0]'(by omega)).toNat : Int) != ((s[383]'(by omega)).toNat : Int)) = false := by
    rw [heq]; simp
  have h4 : ((s[0]'(by omega)).toNat == (s[383]'(by omega)).toNat) = true := by
    rw [heq]; simp
  have HS := Lib.hid h
  have h5 : (s.size : Int) = 384 := by omega
  clear heq
  go_enter Try.func23, Try.ntmps23
  go_wp2_with fail
  go_quiet (fail)
  clear h3 h4
  go_wp2_with fail
  clear hcv
  generalize hgc : grownCap _ 384 0 5 = gc
  have hC2 : 384 ≤ gc := by rw [← hgc]; exact grownCap_ge _ _ _ _
  clear hgc
  have hl : (nats s).length = 384 := by rw [nats_length]; exact h
  have hB0 : Below w.heap.size w ((w.drewN (nq + 1)).alloc (.cells (bytesRow s gc) 5 ((bytesRow s gc).size, (bytesRow s gc).size + 1))) := (below_drewN (Below.refl _ _) _).alloc (by simp) _
  have hBB : BB ((w.drewN (nq + 1)).alloc (.cells (bytesRow s gc) 5 ((bytesRow s gc).size, (bytesRow s gc).size + 1))) w.heap.size (nats s) := bb_row (w.drewN (nq + 1)) s gc 5 _
  have hlt0 : w.heap.size < ((w.drewN (nq + 1)).alloc (.cells (bytesRow s gc) 5 ((bytesRow s gc).size, (bytesRow s gc).size + 1))).heap.size := by simp
  generalize ((w.drewN (nq + 1)).alloc (.cells (bytesRow s gc) 5 ((bytesRow s gc).size, (bytesRow s gc).size + 1))) = w1 at *
  have hH : Holds w1 (.slice (some ⟨w.heap.size, 0, none⟩) (nats s).length gc) (nats s) := by
    have := hBB.holds (nats_lt s) (nats s).length gc (Nat.le_refl _)
    rwa [List.take_of_length_le (Nat.le_refl _)] at this
  obtain ⟨l, hll⟩ : ∃ l, l = nats s := ⟨_, rfl⟩
  have H8 := Lib.hid (nats_lt s)
  rw [← hll] at hl hBB hH HEQ H8
  have HT1 := Lib.hid (fun W hb => take_any (some ⟨w.heap.size, 0, none⟩) gc 379 4 l W (hH.later hb) (by rw [hl]; exact hC2) (by rw [hl]; decide) (by decide))
  have HT2 := Lib.hid (fun W hb => taketext_any (some ⟨w.heap.size, 0, none⟩) gc 1 376 l W (hH.later hb) (by rw [hl]; exact hC2) (by rw [hl]; decide) (by decide))
  rw [show takeR l 379 4 = (((valN ((l.drop 379).take 4) : Nat) : Int), 0) from takeR_ok l 379 4 (by decide) (by decide) (by rw [hl]; decide), hl] at HT1
  rw [hl] at HT2
  have HTX := Lib.hid (textR_one l hl)
  have HTS := Lib.hid (op_tests l hl H8.out)
  have HLL := Lib.hid hll
  have HLN := Lib.hid hl
  have H1 := Lib.hid (And.intro hB0 (And.intro hBB hlt0))
  obtain ⟨V, hV⟩ : ∃ V, V = valN ((l.drop 379).take 4) := ⟨_, rfl⟩
  have hVb : V < 4294967296 := by
    rw [hV]
    refine Nat.lt_of_lt_of_le (valN_lt _ (fun b hb => H8.out b (List.mem_of_mem_drop (List.mem_of_mem_take hb)))) ?_
    rw [List.length_take, List.length_drop, hl]; decide
  rw [← hV] at HT1
  have HV := Lib.hid hV
  clear hll hl hBB hH hB0 hlt0 h0 h1 h2 hV
  refine (HT1.out _ (Below.refl _ _)).mono ?_
  rintro e w2 ⟨rfl, hb2⟩
  have HB2 := Lib.hid hb2
  clear hb2
  go_wp2_with fail
  refine (HT2.out _ HB2.out).mono ?_
  by_cases hn : 376 < opN l
  · have hno : Hid (opB l = false) := Lib.hid (decide_eq_false (fun q => by have := q.2.1; omega))
    rw [HTX.out.1 hn]
    rintro e w3 ⟨rfl, hb3⟩
    have H3 := Lib.hid (H1.out.1.trans ((HB2.out.trans (hb3.mono HB2.out.size)).mono H1.out.1.size))
    clear hb3 hn
    go_wp2_with fail
    go_ret2
    exact OpPost.no (by rw [← HLL.out]; exact hno.out) H3.out
  rw [HTX.out.2 (by omega)]
  rintro e w3 ⟨rfl, hb3⟩
  have H3 := Lib.hid (And.intro (H1.out.1.trans ((HB2.out.trans (hb3.mono HB2.out.size)).mono H1.out.1.size)) (And.intro (H1.out.2.1.below (HB2.out.trans (hb3.mono HB2.out.size)) H1.out.2.2) (Nat.lt_of_lt_of_le H1.out.2.2 (HB2.out.trans (hb3.mono HB2.out.size)).size)))
  have hn' : opN l ≤ 376 := by omega
  have HTS := Lib.hid (HTS.out hn')
  clear hb3 HTX hn
  have hz : (s.extract 0 379).size = 379 := by rw [ByteArray.size_extract, h]; rfl
  have hnx : nats (s.extract 0 379) = l.take 379 := by rw [nats_extract, ← HLL.out, List.drop_zero]
  have HX := Lib.hid hnx
  have HZ := Lib.hid hz
  clear hnx hz
  obtain ⟨T, hT⟩ : ∃ T, T = text (opS l) := ⟨_, rfl⟩
  rw [show text (opS l, ((3 + opN l : Nat) : Int), (0 : Int)).1 = T from hT.symm]
  have HT := Lib.hid hT
  clear hT
  have hn2 : ((3 + opN l : Nat) : Int) ≤ 379 := by omega
  obtain ⟨m, hm⟩ : ∃ m, m = 3 + opN l := ⟨_, rfl⟩
  rw [← hm] at hn2 ⊢
  have HM := Lib.hid hm
  clear hm
  go_wp2_with fail
  refine (sum_all (s.extract 0 379) _ (by rw [HZ.out]; decide)).mono ?_
  rw [HX.out]
  rintro e w4 ⟨rfl, hb4⟩
  have H4 := Lib.hid (And.intro (H3.out.1.trans (hb4.mono H3.out.1.size)) (H3.out.2.1.below hb4 H3.out.2.2))
  clear hb4
  obtain ⟨C, hC⟩ : ∃ C, C = Crc.add 0 (l.take 379) := ⟨_, rfl⟩
  rw [← hC]
  have HC := Lib.hid hC
  clear hC
  by_cases hVC : V = C
  rotate_left
  · have hno : Hid (opB l = false) := Lib.hid (by
      cases hb : opB l
      · rfl
      · exact absurd (by rw [HV.out, HC.out]; exact (HTS.out.1 hb).2.1) hVC)
    have q1 : ((V : Int) == (C : Int)) = false := by simp; omega
    have q2 : ((V : Int) != (C : Int)) = true := by simp; omega
    clear hVC
    go_wp2_with fail
    go_ret2
    exact OpPost.no (by rw [← HLL.out]; exact hno.out) H4.out.1
  subst hVC
  have hmg : m < gc := by omega
  have hmc : (m : Int) ≤ gc := by omega
  go_wp2_with fail
  go_loop [52] (fun i => ∃ k : Nat, k ≤ 379 - m ∧ i = .int .i64 k ∧ Hid (∀ j, j < k → l[m + j]? = some 0)) (fun i => 379 - (intOf i).toNat)
  case atStart => exact ⟨0, by omega, rfl, Lib.hid (fun j hj => absurd hj (by omega))⟩
  case round =>
    obtain ⟨k, hk, rfl, HK⟩ := hrel
    by_cases hlt : k < 379 - m
    · obtain ⟨x, hx⟩ : ∃ x, l[m + k]? = some x := ⟨l[m + k]'(by rw [HLN.out]; omega), List.getElem?_eq_getElem _⟩
      have hcx := (H4.out.2 (m + k) x hx).1
      have hx8 := H8.out x (List.mem_of_getElem? hx)
      have HXX := Lib.hid hx
      clear hx
      have hlt' : (k : Int) < 379 - m := by omega
      by_cases hx0 : x = 0
      · subst hx0
        go_wp2_with fail
        go_round
        case rel => exact ⟨k + 1, by omega, by go_num, Lib.hid (fun j hj => by
          rcases Nat.lt_or_ge j k with h | h
          · exact HK.out j h
          · rw [show j = k by omega]; exact HXX.out)⟩
        case measure => simp [intOf]; omega
      · have hno : Hid (opB l = false) := Lib.hid (by
          cases hb : opB l
          · rfl
          · refine absurd ((HTS.out.1 hb).2.2 x ?_) hx0
            rw [← HM.out]
            refine List.mem_of_getElem? (i := k) ?_
            rw [List.getElem?_take_of_lt hlt, List.getElem?_drop]
            exact HXX.out)
        have q1 : ((x : Int) == 0) = false := by simp; omega
        have q2 : ((x : Int) != 0) = true := by simp; omega
        clear hx0
        go_wp2_with fail
        go_ret2
        exact OpPost.no (by rw [← HLL.out]; exact hno.out) H4.out.1
    · have hyes : Hid (opB l = true) := Lib.hid (by
        refine HTS.out.2 ⟨HEQ.out, by rw [← HV.out]; exact HC.out, fun x hx => ?_⟩
        rw [← HM.out] at hx
        obtain ⟨j, hj⟩ := List.mem_iff_getElem?.1 hx
        have hjl : j < 379 - m := by
          have := (List.getElem?_eq_some_iff.1 hj).1
          rw [List.length_take] at this; omega
        rw [List.getElem?_take_of_lt hjl, List.getElem?_drop, HK.out j (by omega)] at hj
        injection hj with hj
        exact hj.symm)
      have hlt' : ¬ (k : Int) < 379 - m := by omega
      go_wp2_with fail
      go_ret2
      exact OpPost.yes (by rw [← HLL.out]; exact hyes.out) (by rw [← HLL.out]; exact HT.out.symm) H4.out.1
theorem open_any (s : ByteArray) (w : World) : Calls Try.prog 23 #[.string s] w (OpPost s w) := by
  by_cases h : s.size = 384
  · by_cases he : (nats s)[0]? = (nats s)[383]?
    · exact open_try s w h he
    · exact open_ends s w h he
  · exact open_short s w h
end Go.Proofs.Ytnpipiamojmbhaa

import Derived.Test.YtnpipiamojmbhaaCrcW
import Derived.RegionTactic
import Derived.BigRegion
namespace Go.Proofs.Ytnpipiamojmbhaa
open Go.RowKit
theorem BB.row (w : World) (s : ByteArray) (cap t n : Nat) : BB (w.alloc (.cells (bytesRow s cap) t ((bytesRow s cap).size, n))) w.heap.size (nats s) := by
  intro j x hx
  have hj : j < s.size := by
    have := (List.getElem?_eq_some_iff.1 hx).1
    rwa [nats_length] at this
  have hb := heap_alloc_new w (.cells (bytesRow s cap) t ((bytesRow s cap).size, n))
  have hj' : j < s.data.size := hj
  have hrow : (bytesRow s cap)[j]? = some (.int .u8 (x : Int)) := by
    rw [nats_get s j hj] at hx
    injection hx with hx
    subst hx
    unfold bytesRow
    rw [Array.getElem?_append_left (by simpa using hj')]
    rw [Array.getElem?_map, Array.getElem?_eq_getElem hj']
    rfl
  refine ⟨by rw [cell_of_row _ _ _ _ _ _ hb]; exact hrow, ?_⟩
  have hlt : j < (bytesRow s cap).size := by
    rcases Nat.lt_or_ge j (bytesRow s cap).size with h | h
    · exact h
    · rw [Array.getElem?_eq_none h] at hrow; cases hrow
  unfold World.frozen?
  rw [hb]
  simp
  omega
theorem run_back (P : Program) (w : World) (src dst e : TypeId) (g cap n : Nat) (l : List Nat) (hs : P.underlying src = some (.slice e)) (he : P.underlying e = some (.int .u8)) (hd : P.underlying dst = some .string)
    (hl : ∀ b ∈ l, b < 256) (hn : l.length = n) (h : BB w g l) : (convert src dst (.slice (some ⟨g, 0, none⟩) n cap)).run P w = .ok (.string (text l)) w := by
  have := run_convert_bytes_back (P := P) w src dst e ⟨g, 0, none⟩ cap (l.map UInt8.ofNat) hs he hd (fun j hj => by
    have hj' : j < l.length := by simpa using hj
    have hc := (h j l[j] (List.getElem?_eq_getElem hj')).1
    have ha : (⟨g, 0, none⟩ : Addr).add j = ⟨g, j, none⟩ := by unfold Addr.add; split <;> simp_all
    rw [ha, hc]
    have hb := hl l[j] (List.getElem_mem hj')
    simp only [List.getElem_map, UInt8.toNat_ofNat']
    rw [Nat.mod_eq_of_lt hb])
  rw [List.length_map, hn] at this
  exact this
theorem turned_lt (l : List Nat) (a d : Nat) (h : ∀ b ∈ l, b < 256) : ∀ k, ∀ b ∈ Turn.turned l a d k, b < 256
  | 0 => h
  | k + 1 => fun b hb => by
    rw [Turn.turned] at hb
    rcases List.mem_or_eq_of_mem_set hb with hb | rfl
    · exact turned_lt l a d h k b hb
    · refine Nat.xor_lt_two_pow (n := 8) ?_ (Nat.mod_lt _ (by decide))
      rw [List.getD_eq_getElem?_getD]
      rcases Nat.lt_or_ge (a + k) (Turn.turned l a d k).length with hk | hk
      · rw [List.getElem?_eq_getElem hk]
        exact turned_lt l a d h k _ (List.getElem_mem hk)
      · rw [List.getElem?_eq_none hk]; decide
theorem tells_step {wr : World} {g a d k x : Nat} {l : List Nat} {v : Int} (hB : BB wr g (Turn.turned l a d k)) (hx : x = (Turn.turned l a d k).getD (a + k) 0) (hx8 : x < 256) {y : Int} (hy : y = ((d / 256 ^ k % 256 : Nat) : Int)) (hv : v = bits BinOp.xor IntKind.u8 (x : Int) y) :
    BB (wr.setCell ⟨g, a + k, none⟩ (.int .u8 v)).drew g (Turn.turned l a d (k + 1)) := by
  subst hv hy
  rw [u8_xor_nat _ _ hx8 (Nat.mod_lt _ (by decide)), Turn.turned, ← hx]
  exact (hB.set_ _ _).drew
theorem tells_all (s : ByteArray) (a d : Nat) (h : a + 4 ≤ s.size) (hd : d ≤ 4294967295) :
    ((((Crc.add 0 (Turn.turned (nats s) a d 4) : Nat) : Int) == ((Crc.add 0 (nats s) : Nat) : Int)) == ((d : Int) == 0)) = true := by
  obtain ⟨p, b0, b1, b2, b3, q, hl, hp⟩ := Turn.split (nats s) a (by rw [nats_length]; exact h)
  have h4 := Turn.four p q b0 b1 b2 b3 d
  rw [← hl, hp] at h4
  have hb := nats_lt s
  have hb' := turned_lt (nats s) a d hb 4
  rw [h4] at hb' ⊢
  rw [hl] at hb ⊢
  have ht := Crc.tells p q b0 b1 b2 b3 d (by omega) (fun b hm => hb b (by simp [hm])) (fun b hm => hb b (by
    have : b ∈ [b0, b1, b2, b3] := hm
    simp only [List.mem_append, List.mem_cons, List.not_mem_nil, or_false] at this ⊢
    rcases this with h | h | h | h <;> simp [h])) (fun b hm => hb b (by simp [hm])) (fun b hm => hb' b (by simp only [List.mem_append]; exact .inr (.inl hm)))
  have e1 : p ++ b0 :: b1 :: b2 :: b3 :: q = p ++ ([b0, b1, b2, b3] ++ q) := rfl
  rw [e1]
  by_cases hz : d = 0
  · have := ht.2 hz
    rw [this, hz]; simp
  · have hne := mt ht.1 hz
    generalize Crc.add 0 (p ++ ([b0 ^^^ (d % 256), b1 ^^^ (d / 256 % 256), b2 ^^^ (d / 65536 % 256), b3 ^^^ (d / 16777216 % 256)] ++ q)) = X at hne ⊢
    generalize Crc.add 0 (p ++ ([b0, b1, b2, b3] ++ q)) = Y at hne ⊢
    have f1 : ((X : Int) == (Y : Int)) = false := by rw [beq_eq_false_iff_ne]; omega
    have f2 : ((d : Int) == 0) = false := by rw [beq_eq_false_iff_ne]; omega
    rw [f1, f2]; rfl
set_option maxHeartbeats 1000000 in
theorem walkCrcTells_in (a0 : ByteArray) (at_ : Nat) (by_ : Nat) (b0 : a0.size ≤ 140737488351232) (h4 : at_ + 4 ≤ a0.size) (b2 : by_ ≤ 4294967295) (w : World) :
    Calls Try.prog 5 #[.string a0, .int .i64 at_, .int .u32 by_] w fun e w' => e = .returned (.bool true) ∧ Below w.heap.size w w' := by
  have hcv := fun (W : World) => run_bytes_of_string (P := Try.prog) W 9 28 5 a0 Try.underlying9 Try.underlying28 Try.underlying5
  go_enter Try.func5, Try.ntmps5
  go_wp2_with fail
  refine (awake02_any _).mono ?_
  rintro e w1 ⟨rfl, hb1⟩
  go_wp2_with fail
  clear hcv
  have hB := BB.row w1 a0 (grownCap w1 a0.size 0 5) 5 ((bytesRow a0 (grownCap w1 a0.size 0 5)).size + 1)
  go_loopw [8] (fun i wr => ∃ k : Nat, k ≤ 4 ∧ i = .int .i64 k ∧ BB wr w1.heap.size (Turn.turned (nats a0) at_ by_ k) ∧ Below w1.heap.size w1 wr) (fun i _ => 4 - (intOf i).toNat)
  case atStart => exact ⟨0, by omega, rfl, hB, ((Below.refl _ _).alloc (Nat.le_refl _) _).drew⟩
  case round =>
    clear hB
    obtain ⟨k, hk, rfl, hB, hb2⟩ := hrel
    have hlen := Turn.turned_len (nats a0) at_ by_ k
    rw [nats_length] at hlen
    by_cases hlt : k < 4
    · obtain ⟨hc, hf⟩ := hB.at_ (at_ + k) (by omega)
      clear hlen
      have hx : ((Turn.turned (nats a0) at_ by_ k).getD (at_ + k) 0) < 256 := by
        rw [List.getD_eq_getElem?_getD]
        rcases Nat.lt_or_ge (at_ + k) (Turn.turned (nats a0) at_ by_ k).length with hk | hk
        · rw [List.getElem?_eq_getElem hk]
          exact turned_lt _ _ _ (nats_lt a0) k _ (List.getElem_mem hk)
        · rw [List.getElem?_eq_none hk]; decide
      obtain ⟨x, hxx⟩ : ∃ x, x = (Turn.turned (nats a0) at_ by_ k).getD (at_ + k) 0 := ⟨_, rfl⟩
      rw [← hxx] at hc hx
      have HX := Lib.hid hxx
      clear hxx
      clear hk
      have hs := @tells_step wr w1.heap.size at_ by_ k x (nats a0)
      rcases (show k = 0 ∨ k = 1 ∨ k = 2 ∨ k = 3 from by omega) with rfl | rfl | rfl | rfl
      · simp only [Nat.add_zero] at hc hf
        have HS := Lib.hid (fun (v : Int) (y : Int) => @hs v hB HX.out hx y)
        clear hs
        go_wp2
        go_region
        go_wp2
        go_roundw
        case rel => exact ⟨1, by omega, by go_num, HS.out _ _ (by first | (simp; done) | (simp; omega)) rfl, (hb2.setCell (Nat.le_refl _) _).drew⟩
        case measure => simp [intOf]
      · have HS := Lib.hid (fun (v : Int) (y : Int) => @hs v hB HX.out hx y)
        clear hs
        go_wp2
        go_region
        go_wp2
        go_roundw
        case rel => exact ⟨2, by omega, by go_num, HS.out _ _ (by first | (simp; done) | (simp; omega)) rfl, (hb2.setCell (Nat.le_refl _) _).drew⟩
        case measure => simp [intOf]
      · have HS := Lib.hid (fun (v : Int) (y : Int) => @hs v hB HX.out hx y)
        clear hs
        go_wp2
        go_region
        go_wp2
        go_roundw
        case rel => exact ⟨3, by omega, by go_num, HS.out _ _ (by first | (simp; done) | (simp; omega)) rfl, (hb2.setCell (Nat.le_refl _) _).drew⟩
        case measure => simp [intOf]
      · have HS := Lib.hid (fun (v : Int) (y : Int) => @hs v hB HX.out hx y)
        clear hs
        go_wp2
        go_region
        go_wp2
        go_roundw
        case rel => exact ⟨4, by omega, by go_num, HS.out _ _ (by first | (simp; done) | (simp; omega)) rfl, (hb2.setCell (Nat.le_refl _) _).drew⟩
        case measure => simp [intOf]
    · obtain rfl : k = 4 := by omega
      have hbk := run_back Try.prog wr 28 9 5 w1.heap.size (grownCap w1 a0.size 0 5) a0.size _ Try.underlying28 Try.underlying5 Try.underlying9 (turned_lt (nats a0) at_ by_ (nats_lt a0) 4) hlen hB
      have hsz : (text (Turn.turned (nats a0) at_ by_ 4)).size ≤ maxLen := by rw [text_size, hlen]; unfold maxLen; omega
      have HN := Lib.hid (nats_text (Turn.turned (nats a0) at_ by_ 4) (turned_lt (nats a0) at_ by_ (nats_lt a0) 4))
      clear hlen
      have hlA : a0.size ≤ maxLen := by unfold maxLen; omega
      have HF := Lib.hid (tells_all a0 at_ by_ h4 b2)
      go_wp2_with fail
      clear hbk
      refine (sum_all _ _ hsz).mono ?_
      rintro e w2 ⟨rfl, hb3⟩
      go_wp2_with fail
      refine (sum_all a0 _ hlA).mono ?_
      rintro e w3 ⟨rfl, hb4⟩
      go_wp2_with fail
      go_ret
      refine ⟨by rw [HN.out, HF.out]; rfl, hb1.trans ((hb2.mono hb1.size).trans ((hb3.mono ?_).trans (hb4.mono ?_)))⟩
      · exact Nat.le_trans hb1.size hb2.size
      · exact Nat.le_trans hb1.size (Nat.le_trans hb2.size hb3.size)
end Go.Proofs.Ytnpipiamojmbhaa

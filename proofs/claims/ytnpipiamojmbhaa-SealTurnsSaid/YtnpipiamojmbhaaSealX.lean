/- comptorlaw04.whole, comptorref03.Mix. -/
import Derived.Test.YtnpipiamojmbhaaSealW
namespace Go.Proofs.Ytnpipiamojmbhaa
open Go.RowKit
theorem mine_bytes (w : World) (s : ByteArray) (cap t n : Nat) (hc : s.size ≤ cap) (hm : cap ≤ maxLen) : Mine w.heap.size (w.alloc (.cells (bytesRow s cap) t ((bytesRow s cap).size, n))) (.slice (some ⟨w.heap.size, 0, none⟩) (nats s).length cap) (nats s) := by
  have hb := heap_alloc_new w (.cells (bytesRow s cap) t ((bytesRow s cap).size, n))
  have hsz : (bytesRow s cap).size = cap := by
    unfold bytesRow
    rw [Array.size_append, Array.size_map, Array.size_replicate]
    show s.size + (cap - s.size) = cap
    omega
  have hBB := bb_row w s cap t n
  refine ⟨nats_lt s, w.heap.size, cap, rfl, Nat.le_refl _, by simp, by rw [nats_length]; exact hc, hm, fun j u hu => ?_, fun j hj => ⟨?_, ?_⟩⟩
  · unfold cells8 at hu
    rw [List.getElem?_map] at hu
    cases hx : (nats s)[j]? with
    | none => rw [hx] at hu; cases hu
    | some x =>
      rw [hx] at hu
      injection hu with hu
      subst hu
      exact (hBB j x hx).1
  · rw [cell_of_row _ _ _ _ _ _ hb, Array.getElem?_eq_getElem (by omega)]
    rfl
  · unfold World.frozen?
    rw [hb]
    simp
    omega
def wholeL (l : List Nat) : List Nat := l.take 384 ++ List.replicate (384 - (l.take 384).length) 0
theorem wholeL_length (l : List Nat) : (wholeL l).length = 384 := by
  unfold wholeL
  rw [List.length_append, List.length_replicate]
  have : (l.take 384).length ≤ 384 := by rw [List.length_take]; omega
  omega
theorem wholeL_lt (l : List Nat) (h : ∀ x ∈ l, x < 256) : ∀ x ∈ wholeL l, x < 256 := by
  intro x hx
  unfold wholeL at hx
  rcases List.mem_append.1 hx with h' | h'
  · exact h x (List.mem_of_mem_take h')
  · rw [(List.mem_replicate.1 h').2]; decide
set_option maxHeartbeats 4000000 in
theorem whole_any (s : ByteArray) (w : World) (hlen : s.size ≤ 140737488355328) :
    Calls Try.prog 25 #[.string s] w fun e w' => e = .returned (.string (text (wholeL (nats s)))) ∧ Below w.heap.size w w' := by
  have hcv := fun (W : World) (s : ByteArray) => run_bytes_of_string (P := Try.prog) W 9 28 5 s Try.underlying9 Try.underlying28 Try.underlying5
  go_enter Try.func25, Try.ntmps25
  go_wp2_with fail
  clear hcv
  obtain ⟨d, hd⟩ : ∃ d : Nat, (min (s.size : Int) 384).toNat = d := ⟨_, rfl⟩
  rw [hd]
  have hd1 : d ≤ 384 := by omega
  have hd2 : d ≤ s.size := by omega
  have hd3 : d = min s.size 384 := by omega
  rw [show min d s.size = d by omega]
  generalize hgc : grownCap w d 0 5 = gc
  have hC2 : d ≤ gc := by rw [← hgc]; exact grownCap_ge _ _ _ _
  have hC3 : gc ≤ maxLen := by rw [← hgc]; exact grownCap_le_maxLen _ _ _ _ (by unfold maxLen; omega)
  clear hgc
  obtain ⟨S, hS⟩ : ∃ S, S = s.extract 0 d := ⟨_, rfl⟩
  rw [← hS]
  have hSz : S.size = d := by rw [hS, ByteArray.size_extract]; omega
  have hSn : nats S = (nats s).take 384 := by
    rw [hS, nats_extract, List.drop_zero, hd3, List.take_eq_take_min (i := 384), nats_length, Nat.min_comm]
  have hM := mine_bytes w S gc 5 ((bytesRow S gc).size + 1) (by omega) hC3
  have hB := (Below.refl w.heap.size w).alloc (Nat.le_refl _) (.cells (bytesRow S gc) 5 ((bytesRow S gc).size, (bytesRow S gc).size + 1))
  have hlt : w.heap.size < (w.alloc (.cells (bytesRow S gc) 5 ((bytesRow S gc).size, (bytesRow S gc).size + 1))).heap.size := by simp
  have H0 := Lib.hid (show Mine w.heap.size (w.alloc (.cells (bytesRow S gc) 5 ((bytesRow S gc).size, (bytesRow S gc).size + 1))).drew _ (nats S) ∧ Below w.heap.size w (w.alloc (.cells (bytesRow S gc) 5 ((bytesRow S gc).size, (bytesRow S gc).size + 1))).drew ∧ w.heap.size < (w.alloc (.cells (bytesRow S gc) 5 ((bytesRow S gc).size, (bytesRow S gc).size + 1))).drew.heap.size from ⟨hM, hB.drew, hlt⟩)
  generalize (w.alloc (.cells (bytesRow S gc) 5 ((bytesRow S gc).size, (bytesRow S gc).size + 1))).drew = w1 at *
  rw [nats_length, hSz] at H0
  have HSZ := Lib.hid hSz
  have HSN := Lib.hid hSn
  clear hM hB hlt hS hSn hSz hd hd2 hd3
  go_loopw [3] (fun bv wr => ∃ k g cq : Nat, d + k ≤ 384 ∧ Hid (w.heap.size < wr.heap.size ∧ Below w.heap.size w wr ∧ Mine w.heap.size wr bv (nats S ++ List.replicate k 0)) ∧ bv = .slice (some ⟨g, 0, none⟩) ((d + k : Nat) : Int).toNat cq) (fun bv _ => match bv with | .slice _ n _ => 384 - n | _ => 0)
  case atStart => exact ⟨0, _, _, by omega, Lib.hid ⟨H0.out.2.2, H0.out.2.1, by simpa using H0.out.1⟩, by rfl⟩
  case round =>
    obtain ⟨k, g, cq, hk, HR, rfl⟩ := hrel
    clear H0
    rw [Int.toNat_natCast] at HR ⊢
    have HLZ := Lib.hid (show (nats S ++ List.replicate k 0).length = d + k by rw [List.length_append, nats_length, HSZ.out, List.length_replicate])
    have HLY := Lib.hid (show (nats S ++ List.replicate (k + 1) 0).length = d + (k + 1) by rw [List.length_append, nats_length, HSZ.out, List.length_replicate])
    by_cases hlt : d + k < 384
    · have hlt' : ((d : Int) + k) < 384 := by omega
      have HT := Lib.hid (holds_one wr 0 (by decide))
      have HLT := Lib.hid (show (nats S ++ List.replicate k 0).length + [0].length ≤ 140737488355328 by rw [HLZ.out]; show d + k + 1 ≤ 140737488355328; omega)
      have HBB := Lib.hid (show w.heap.size ≤ (wr.alloc (.cells #[.int .u8 (0 : Nat)] 5)).heap.size by have := HR.out.1; simp; omega)
      go_wp2_with (at_builtin; refine appM rfl _ _ rfl _ (nats S ++ List.replicate k 0) rfl (HR.out.2.2.later ((Below.refl _ _).alloc (Nat.le_refl _) _)) ⟨wr.heap.size, 0, none⟩ 1 1 [0] rfl HT.out HLT.out (Below.refl _ _) HBB.out ?_)
      intro v4 w4 hM4 hb4
      have hM4 : Mine w.heap.size w4 v4 (nats S ++ List.replicate (k + 1) 0) := by rw [List.replicate_succ']; first | exact hM4 | (rw [← List.append_assoc]; exact hM4)
      obtain ⟨g4, cq4, rfl⟩ := hM4.shape
      rw [HLY.out] at hM4 ⊢
      have HR4 := Lib.hid (show w.heap.size < w4.heap.size ∧ Below w.heap.size w w4 ∧ Mine w.heap.size w4 _ (nats S ++ List.replicate (k + 1) 0) from ⟨Nat.lt_of_lt_of_le HR.out.1 (Nat.le_trans (by simp) hb4.size), (HR.out.2.1.alloc (Nat.le_of_lt HR.out.1) _).trans hb4, hM4⟩)
      clear hM4 hb4 HR HLZ HLY HT HLT HBB
      go_wp2_with fail
      go_roundw
      case rel => exact ⟨k + 1, g4, cq4, by omega, HR4, by simp; omega⟩
      case measure => simp; omega
    · have hk' : d + k = 384 := by omega
      have hlt' : ¬ ((d : Int) + k) < 384 := by omega
      have hW : nats S ++ List.replicate k 0 = wholeL (nats s) := by
        unfold wholeL
        rw [← HSN.out, nats_length, HSZ.out, show 384 - d = k by omega]
      have HH := HR.out.2.2.holds
      rw [hW] at HH
      rw [hk'] at HH ⊢
      have rt := run_text wr _ _ _ _ HH
      have HF := Lib.hid HR.out.2.1
      clear HR hW HH HLZ HLY hlt
      obtain ⟨T, hT⟩ : ∃ T, T = text (wholeL (nats s)) := ⟨_, rfl⟩
      rw [← hT] at rt
      have HT := Lib.hid hT
      clear hT
      go_wp2_with fail
      go_ret
      exact ⟨by rw [← HT.out]; rfl, HF.out⟩
end Go.Proofs.Ytnpipiamojmbhaa

import Derived.Test.YtmebodjofcomlaaNumA
namespace Go.Proofs.Ytmebodjofcomlaa
open Go.RowKit
def zeros8 : Array Value := Array.replicate 8 (.int .u8 0)
theorem zero_eight (w : World) : (zeroValue 68).run Try.prog w = .ok (.agg zeros8) w := by kernel_rfl
theorem BB.zeros8 (w : World) (t : Nat) : BB (w.alloc (.cells zeros8 t)) w.heap.size (List.replicate 8 0) := by
  intro j x hx
  have hb := heap_alloc_new w (.cells Go.Proofs.Ytmebodjofcomlaa.zeros8 t)
  have hj : j < 8 := by
    have := (List.getElem?_eq_some_iff.1 hx).1
    simpa using this
  have hx0 : x = 0 := by
    rw [List.getElem?_replicate, if_pos hj] at hx
    injection hx with hx
    exact hx.symm
  subst hx0
  refine ⟨?_, ?_⟩
  · rw [cell_of_row _ _ _ _ _ _ hb]
    unfold Go.Proofs.Ytmebodjofcomlaa.zeros8
    rw [Array.getElem?_replicate, if_pos hj]
    rfl
  · unfold World.frozen?
    rw [hb]
    simp
/-- Put's loop: the first k bytes of the box. -/
def Box8 (w : World) (g n k : Nat) : Prop := ∃ L : List Nat, L.length = 8 ∧ (∀ b ∈ L, b < 256) ∧ BB w g L ∧ L.take k = leN n k
theorem Box8.at_ {w : World} {g n k : Nat} (h : Box8 w g n k) (hk : k < 8) : (∃ v, w.cell? ⟨g, k, none⟩ = some v) ∧ w.frozen? ⟨g, k, none⟩ = false := by
  obtain ⟨L, hl, _, hB, _⟩ := h
  have := hB.at_ k (by omega)
  exact ⟨⟨_, this.1⟩, this.2⟩
theorem Box8.set_ {w : World} {g n k : Nat} (h : Box8 w g n k) (hk : k < 8) {v : Int} (hv : v = ((n / 256 ^ k % 256 : Nat) : Int)) : Box8 (w.setCell ⟨g, k, none⟩ (.int .u8 v)) g n (k + 1) := by
  obtain ⟨L, hl, hb, hB, ht⟩ := h
  subst hv
  refine ⟨L.set k (n / 256 ^ k % 256), by simpa using hl, fun b hb' => ?_, hB.set_ _ _, ?_⟩
  · rcases List.mem_or_eq_of_mem_set hb' with h | rfl
    · exact hb b h
    · exact Nat.mod_lt _ (by decide)
  · rw [leN_succ, ← ht, List.take_add_one, List.getElem?_set_self (by omega), List.take_set_of_le (Nat.le_refl _)]
    rfl
theorem Box8.start (w : World) (n t : Nat) : Box8 (w.alloc (.cells zeros8 t)) w.heap.size n 0 :=
  ⟨List.replicate 8 0, by simp, fun b hb => by rw [List.mem_replicate] at hb; omega, BB.zeros8 w t, rfl⟩
theorem Box8.holds {w : World} {g n : Nat} (h : Box8 w g n 8) (k cap : Nat) (hk : k ≤ 8) : Holds w (.slice (some ⟨g, 0, none⟩) k cap) (leN n k) := by
  obtain ⟨L, hl, hb, hB, ht⟩ := h
  have hL : L = leN n 8 := by rw [← ht, List.take_of_length_le (by omega)]
  have := hB.holds hb k cap (by omega)
  rw [hL] at this
  have e : (leN n 8).take k = leN n k := by
    unfold leN
    rw [← List.map_take, List.take_range, Nat.min_eq_left hk]
  rw [e] at this
  exact this
theorem new_cell (w : World) (cs : Array Value) (t i : Nat) (v : Value) (h : cs[i]? = some v) : (w.alloc (.cells cs t)).cell? ⟨w.heap.size, i, none⟩ = some v := by
  rw [cell_of_row _ _ _ _ _ _ (heap_alloc_new w _)]; exact h
theorem Fresh.mono {B B' : Nat} {w : World} {v : Value} {l : List Nat} (h : Fresh B w v l) (hB : B' ≤ B) : Fresh B' w v l := by
  obtain ⟨h1, g, cap, zs, hv, hg, hr⟩ := h
  exact ⟨h1, g, cap, zs, hv, Nat.le_trans hB hg, hr⟩
theorem shr_byte (n k : Nat) : (n : Int) / 2 ^ (8 * k) % 256 = ((n / 256 ^ k % 256 : Nat) : Int) := by
  have e : (2 : Int) ^ (8 * k) = ((256 ^ k : Nat) : Int) := by
    rw [show (256 : Nat) = 2 ^ 8 from rfl, ← Nat.pow_mul, Int.natCast_pow]; rfl
  rw [e]; omega
theorem shr_none (n k : Nat) : ((n : Int) / 2 ^ (8 * k) != 0) = !decide (n / 256 ^ k = 0) := by
  have e : (2 : Int) ^ (8 * k) = ((256 ^ k : Nat) : Int) := by
    rw [show (256 : Nat) = 2 ^ 8 from rfl, ← Nat.pow_mul, Int.natCast_pow]; rfl
  rw [e]
  by_cases h : n / 256 ^ k = 0
  · rw [decide_eq_true h]
    have : (n : Int) / ((256 ^ k : Nat) : Int) = 0 := by rw [← Int.natCast_ediv, h]; rfl
    rw [this]; rfl
  · rw [decide_eq_false h]
    have : (n : Int) / ((256 ^ k : Nat) : Int) ≠ 0 := by rw [← Int.natCast_ediv]; omega
    simpa using this
set_option maxHeartbeats 1000000 in
theorem put_ok (p : Option Addr) (cap : Nat) (l : List Nat) (n size : Nat) (w : World) (hb : Holds w (.slice p l.length cap) l) (_hn : n < 18446744073709551616) (hs : 1 ≤ size) (hs8 : size ≤ 8) (hfit : size = 8 ∨ n / 256 ^ size = 0) (hlen : l.length + 8 ≤ 140737488355328) :
    Calls Try.prog 32 #[.slice p l.length cap, .int .u64 n, .int .i64 size] w fun e w' => ∃ v', e = .returned (.tuple #[v', .int .i64 0]) ∧ Fresh w.heap.size w' v' (l ++ leN n size) ∧ Below w.heap.size w w' := by
  have HB := Lib.hid hb
  clear hb
  have main : size = 8 ∨ (size < 8 ∧ ((n : Int) / 2 ^ (8 * size) != 0) = false) := by
    rcases hfit with h | h
    · exact .inl h
    · by_cases h8 : size = 8
      · exact .inl h8
      · exact .inr ⟨by omega, by rw [shr_none, decide_eq_true h]; rfl⟩
  clear hfit
  rcases main with rfl | ⟨hlt8, hsh⟩
  all_goals
    have hz := zero_eight
    go_enter Try.func32, Try.ntmps32
    go_wp2_with fail
    clear hz
    go_loopw [27] (fun i wr => ∃ k : Nat, k ≤ 8 ∧ i = .int .i64 k ∧ Box8 wr w.heap.size n k ∧ Below w.heap.size w wr) (fun i _ => 8 - (intOf i).toNat)
    case atStart => exact ⟨0, by omega, rfl, Box8.start w n _, (Below.refl _ _).alloc (Nat.le_refl _) _⟩
    case round =>
      obtain ⟨k, hk, rfl, hB, hb1⟩ := hrel
      by_cases hlt : k < 8
      · obtain ⟨⟨v, hv⟩, hf⟩ := hB.at_ hlt
        have HS := Lib.hid (shr_byte n k)
        go_wp2_with fail
        go_roundw
        case rel => exact ⟨k + 1, by omega, by go_num, hB.set_ hlt HS.out, hb1.setCell (Nat.le_refl _) _⟩
        case measure => simp [intOf]; omega
      · obtain rfl : k = 8 := by omega
        go_wp2_with fail
        refine (join2 _ _ _ _ _ _ ((HB.out.later hb1).later ((Below.refl _ _).alloc (Nat.le_refl _) _)) ((hB.holds _ 8 (by omega)).later ((Below.refl _ _).alloc (Nat.le_refl _) _)) (new_cell _ _ _ 0 _ rfl) (new_cell _ _ _ 1 _ rfl) (by rw [leN_length]; omega)).mono ?_
        rintro e w2 ⟨v', rfl, hF, hb2⟩
        go_wp2_with fail
        go_ret2
        exact ⟨v', rfl, hF.mono (by have := hb1.size; simp; omega), (hb1.alloc hb1.size _).trans (hb2.mono (by have := hb1.size; simp; omega))⟩
end Go.Proofs.Ytmebodjofcomlaa

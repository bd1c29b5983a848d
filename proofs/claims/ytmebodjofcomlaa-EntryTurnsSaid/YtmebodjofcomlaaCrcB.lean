import Derived.Test.YtmebodjofcomlaaCrcA
namespace Go.Proofs.Ytmebodjofcomlaa
open Go.RowKit

/-- Block g holds the table's first k values. -/
def Tbl (w : World) (g k : Nat) : Prop := ∃ cs : Array Value, w.heap[g]? = some (.cells cs 80 (0, 0)) ∧ cs.size = 256 ∧ ∀ j, j < k → cs[j]? = some (.int .u32 (Crc.tab j))
theorem bit_bits (k i q : Nat) (h : q = Crc.bits k i) (hq : q < 4294967296) : bits BinOp.xor IntKind.u32 ((q : Int) / 2) (2197175160 * bits BinOp.and IntKind.u32 ↑q 1 % 4294967296) = ((Crc.bits (k + 1) i : Nat) : Int) := by
  rw [← IntKind.wrap_u32']
  have h1 := u32_and_nat q 1 hq (by omega)
  rw [Crc.bits_succ, ← h]
  rw [show ((1 : Int)) = ((1 : Nat) : Int) from rfl, h1, nat_mask1]
  have e : (2197175160 : Int) * ((q % 2 : Nat) : Int) = ((2197175160 * (q % 2) : Nat) : Int) := by omega
  rw [e, wrap_u32_nat]
  have hm : 2197175160 * (q % 2) % 4294967296 = 2197175160 * (q % 2) := by omega
  rw [hm, show ((q : Int) / 2) = ((q / 2 : Nat) : Int) from by omega, u32_xor_nat _ _ (by omega) (by omega)]
  rfl
def zeros : Array Value := Array.replicate 256 (.int .u32 0)
theorem zeros_size : zeros.size = 256 := by simp [zeros]
theorem zero_table (w : World) : (zeroValue 80).run Try.prog w = .ok (.agg zeros) w := by kernel_rfl
theorem Tbl.at_ {w : World} {g k : Nat} (h : Tbl w g k) (j : Nat) (hj : j < 256) : ∃ v, w.cell? ⟨g, j, none⟩ = some v := by
  obtain ⟨cs, hb, hs, _⟩ := h
  exact ⟨cs[j]'(by omega), by rw [cell_of_row w g j cs _ _ hb]; exact Array.getElem?_eq_getElem (by omega)⟩
theorem Tbl.cell {w : World} {g k : Nat} (h : Tbl w g k) (j : Nat) (hj : j < k) : w.cell? ⟨g, j, none⟩ = some (.int .u32 (Crc.tab j)) := by
  obtain ⟨cs, hb, hs, hc⟩ := h
  rw [cell_of_row w g j cs _ _ hb]; exact hc j hj
theorem Tbl.free {w : World} {g k : Nat} (h : Tbl w g k) (j : Nat) : w.frozen? ⟨g, j, none⟩ = false := by
  obtain ⟨cs, hb, _⟩ := h
  simp [World.frozen?, hb]
theorem Tbl.new (w : World) : Tbl (w.alloc (.cells zeros 80)) w.heap.size 0 := ⟨zeros, heap_alloc_new w _, zeros_size, fun _ h => absurd h (by omega)⟩
theorem Tbl.set_ {w : World} {g k : Nat} (h : Tbl w g k) (hk : k < 256) : Tbl (w.setCell ⟨g, k, none⟩ (.int .u32 (Crc.tab k))) g (k + 1) := by
  obtain ⟨cs, hb, hs, hc⟩ := h
  refine ⟨cs.setIfInBounds k (.int .u32 (Crc.tab k)), ?_, by simpa using hs, fun j hj => ?_⟩
  · simp [World.setCell, Array.getElem?_modify, hb]
  · by_cases hjk : j = k
    · subst hjk
      rw [Array.getElem?_setIfInBounds_self_of_lt (by omega)]
    · rw [Array.getElem?_setIfInBounds_ne (by omega)]
      exact hc j (by omega)
set_option maxHeartbeats 400000 in
set_option maxRecDepth 100000 in
theorem made_any (w : World) :
    Calls Try.prog 52 #[] w fun e w' => e = .returned (.pointer (some ⟨w.heap.size, 0, none⟩)) ∧ Tbl w' w.heap.size 256 ∧ Below w.heap.size w w' := by
  have hz := zero_table
  go_enter Try.func52, Try.ntmps52
  go_wp2
  clear hz
  go_loopw [4] (fun i wr => ∃ k : Nat, k ≤ 256 ∧ i = .int .i64 k ∧ Tbl wr w.heap.size k ∧ Below w.heap.size w wr) (fun i _ => 256 - (intOf i).toNat)
  case atStart => exact ⟨0, by omega, rfl, Tbl.new w, (Below.refl _ _).alloc (Nat.le_refl _) _⟩
  case round =>
    obtain ⟨k, hk, rfl, ht, hb⟩ := hrel
    by_cases hlt : k < 256
    · obtain ⟨v, hv⟩ := ht.at_ k hlt
      have hf := ht.free k
      obtain ⟨wo, rfl⟩ : ∃ wo : World, wo = wr := ⟨_, rfl⟩
      go_wp2
      go_loop [3, 9] (fun r j => ∃ m : Nat, m ≤ 8 ∧ j = .int .i64 m ∧ r = .int .u32 (Crc.bits m k)) (fun _ j => 8 - (intOf j).toNat)
      case atStart => exact ⟨0, by omega, rfl, rfl⟩
      case round =>
        obtain ⟨m, hm, rfl, rfl⟩ := hrel
        have hq := Crc.bits_lt m k (by omega)
        obtain ⟨q, hqq⟩ : ∃ q, q = Crc.bits m k := ⟨_, rfl⟩
        have HB := Lib.hid (bit_bits m k q hqq (by omega))
        by_cases hm8 : m < 8
        · rw [← hqq] at hq ⊢
          clear hqq
          go_wp2
          go_round
          case rel => exact ⟨m + 1, by omega, by go_num, by rw [← HB.out]⟩
          case measure => simp [intOf]; omega
        · obtain rfl : m = 8 := by omega
          clear hqq
          go_wp2
          go_roundw
          case rel => exact ⟨k + 1, by omega, by go_num, ht.set_ hlt, hb.setCell (Nat.le_refl _) _⟩
          case measure => simp [intOf]; omega
    · obtain rfl : k = 256 := by omega
      go_wp2
      go_ret
      exact ⟨rfl, ht, hb⟩
end Go.Proofs.Ytmebodjofcomlaa

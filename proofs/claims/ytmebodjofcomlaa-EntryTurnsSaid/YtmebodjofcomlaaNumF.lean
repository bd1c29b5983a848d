import Derived.Test.YtmebodjofcomlaaNumE
import Derived.Deep.RegionLaw
import Derived.Deep.Slices
import Derived.RegionTactic
import Derived.BigRegion
namespace Go.Proofs.Ytmebodjofcomlaa
open Go.RowKit
/-- The number of bytes, the lowest first. -/
def valN : List Nat → Nat
  | [] => 0
  | b :: l => b + 256 * valN l
theorem valN_snoc : ∀ (l : List Nat) (b : Nat), valN (l ++ [b]) = valN l + 256 ^ l.length * b
  | [], b => by simp [valN]
  | a :: l, b => by
    rw [List.cons_append, valN, valN_snoc l b, valN, List.length_cons, Nat.pow_succ, Nat.mul_add]
    have : 256 * (256 ^ l.length * b) = 256 ^ l.length * 256 * b := by ac_rfl
    omega
theorem valN_lt : ∀ (l : List Nat), (∀ b ∈ l, b < 256) → valN l < 256 ^ l.length
  | [], _ => by simp [valN]
  | a :: l, h => by
    have h1 := valN_lt l (fun b hb => h b (by simp [hb]))
    have h2 := h a (by simp)
    rw [valN, List.length_cons, Nat.pow_succ]
    omega
theorem valN_zeros (l : List Nat) (k : Nat) : valN (l ++ List.replicate k 0) = valN l := by
  induction k with
  | zero => simp
  | succ k ih => rw [List.replicate_succ', ← List.append_assoc, valN_snoc, ih]; simp
theorem valN_leN (n : Nat) : ∀ k, valN (leN n k) = n % 256 ^ k
  | 0 => by simp [leN, valN, Nat.mod_one]
  | k + 1 => by
    rw [leN_succ, valN_snoc, valN_leN n k, leN_length, Nat.pow_succ, Nat.mod_mul]
def zl8 : List Value := List.replicate 8 (.int .u8 0)
theorem zeros8_list : zeros8 = zl8.toArray := by unfold zeros8 zl8; rw [List.toArray_replicate]
theorem zl8_length : zl8.length = 8 := by simp [zl8]
/-- 'copy(x[:], b[at:at+size])' into a new box of eight. -/
theorem copy8 (w : World) (ad : Addr) (cap at_ size : Nat) (l : List Nat) (hb : Holds w (.slice (some ad) l.length cap) l) (hs8 : size ≤ 8) (hin : at_ + size ≤ l.length) :
    ∃ W2, (Builtin.copy_ #[44, 44] 3 #[.slice (some ⟨w.heap.size, 0, none⟩) 8 8, .slice (some (ad.add at_)) size (cap - at_)]).run Try.prog ((w.alloc (.cells zeros8 68)).drew) = .ok (.int .i64 (size : Int)) W2 ∧
      W2.heap[w.heap.size]? = some (.cells (cells8 ((l.drop at_).take size ++ List.replicate (8 - size) 0)).toArray 68 (0, 0)) ∧ Below w.heap.size w W2 := by
  have hW : ((w.alloc (.cells zeros8 68)).drew).heap[w.heap.size]? = some (.cells zeros8 68 (0, 0)) := heap_alloc_new w _
  have hsi : (Try.prog.info? 5).map (·.size) = some 1 := by
    obtain ⟨i0, hi, hz0, hz1, hz2⟩ := info_parts info_u8
    rw [hi]; simp [hz1]
  have hdl : ((l.drop at_).take size).length = size := by rw [List.length_take, List.length_drop]; omega
  have h1 : (cells8 ((l.drop at_).take size)).length = Nat.min size 8 := by rw [cells8_length, hdl]; exact (Nat.min_eq_left hs8).symm
  have hbl : Below w.heap.size w ((w.alloc (.cells zeros8 68)).drew) := ((Below.refl _ _).alloc (Nat.le_refl _) _).drew
  have hr := run_copy_row (P := Try.prog) ((w.alloc (.cells zeros8 68)).drew) 44 44 3 5 w.heap.size 0 8 8 (ad.add at_) size (cap - at_) zeros8 68 (cells8 ((l.drop at_).take size)) Try.underlying44 hsi hW h1
    (fun j v hj => by
      obtain ⟨b, hb', rfl⟩ := cells8_get _ j v hj
      refine cell_later hbl ?_
      rw [Go.Deep.add_add]
      have hj2 : j < size := by
        have := (List.getElem?_eq_some_iff.1 hb').1
        rw [hdl] at this
        exact this
      rw [List.getElem?_take_of_lt hj2, List.getElem?_drop] at hb'
      exact (hb.cells).2.2 ad rfl (at_ + j) _ (by unfold cells8; rw [List.getElem?_map, hb']; rfl))
    (by rw [cells8_length, hdl]; simp [zeros8]; omega) (cells8_one _)
  refine ⟨_, hr.trans (by rw [cells8_length, hdl]; rfl), ?_, ?_⟩
  · have e : (zeros8.toList.take 0 ++ cells8 ((l.drop at_).take size) ++ zeros8.toList.drop (0 + size)) = cells8 ((l.drop at_).take size ++ List.replicate (8 - size) 0) := by
      unfold zeros8 cells8
      rw [Array.toList_replicate, List.take_zero, List.nil_append, Nat.zero_add, List.drop_replicate, List.map_append, List.map_replicate]
      rfl
    rw [e]
    exact setRow_heap _ _ _ _ _ _ hW
  · exact below_setRow hbl (Nat.le_refl _) _
theorem or_add (n x k : Nat) (hk : k < 8) (hn : n < 256 ^ k) (hx : x < 256) : bits BinOp.or IntKind.u64 (n : Int) (((256 ^ k * x : Nat) : Int)) = ((n + 256 ^ k * x : Nat) : Int) := by
  have h1 : (256 : Nat) ^ k = 2 ^ (8 * k) := by rw [Nat.pow_mul]
  have h2 : (256 : Nat) ^ k * 256 ≤ 18446744073709551616 := by
    have : (256 : Nat) ^ (k + 1) ≤ 256 ^ 8 := Nat.pow_le_pow_right (by decide) (by omega)
    rw [Nat.pow_succ] at this
    exact Nat.le_trans this (by decide)
  have h3 : 256 ^ k * x < 18446744073709551616 := Nat.lt_of_lt_of_le (Nat.mul_lt_mul_of_pos_left hx (Nat.pow_pos (by decide))) h2
  have h4 : 256 ^ k ≤ 256 ^ k * 256 := by omega
  rw [u64_or_nat _ _ (by omega) h3, h1, Nat.or_comm, ← Nat.two_pow_add_eq_or_of_lt (by rw [← h1]; exact hn), Nat.add_comm]
theorem or_end {n m : Nat} {x y : Int} (h : bits BinOp.or IntKind.u64 (n : Int) x = ((n + m : Nat) : Int)) (hk : y = x) : Value.int IntKind.u64 (bits BinOp.or IntKind.u64 (n : Int) y) = Value.int IntKind.u64 ((n + m : Nat) : Int) := by rw [hk, h]
set_option maxHeartbeats 4000000 in
theorem take_ok (ad : Addr) (cap at_ size : Nat) (l : List Nat) (w : World) (hb : Holds w (.slice (some ad) l.length cap) l) (hcap : l.length ≤ cap) (hs : 1 ≤ size) (hs8 : size ≤ 8) (hin : at_ + size ≤ l.length) (hlen : l.length ≤ 140737488355328) :
    Calls Try.prog 40 #[.slice (some ad) l.length cap, .int .i64 at_, .int .i64 size] w fun e w' => e = .returned (.tuple #[.int .u64 (valN ((l.drop at_).take size)), .int .i64 0]) ∧ Below w.heap.size w w' := by
  have hz := zero_eight
  obtain ⟨W2, hcp, hrow, hbel⟩ := copy8 w ad cap at_ size l hb hs8 hin
  have HCP := Lib.hid hcp
  have HROW := Lib.hid hrow
  have H8 := Lib.hid hb.1
  clear hb hcp hrow
  go_enter Try.func40, Try.ntmps40
  go_wp2_with fail
  clear hz
  have hs1 : IntKind.i64.wrap ((at_ : Int) + (size : Int)) = (at_ : Int) + (size : Int) := IntWalk.i64_in _ (by omega)
  have hs2 : (0 : Int) ≤ (at_ : Int) + (size : Int) := by omega
  have hs3 : ((at_ : Int) + (size : Int)).toNat = at_ + size := by omega
  have hs4 : ¬ cap = at_ := by omega
  have hs5 : (at_ : Int) + (size : Int) ≤ (cap : Int) := by omega
  have hs6 : at_ + size - at_ = size := by omega
  have hcp := HCP.out
  go_region
  clear hcp hs1 hs2 hs3 hs4 hs5 hs6
  have hL : ((l.drop at_).take size ++ List.replicate (8 - size) 0).length = 8 := by rw [List.length_append, List.length_take, List.length_drop, List.length_replicate]; omega
  have hv := valN_zeros ((l.drop at_).take size) (8 - size)
  have hrow := HROW.out
  have hbt : ∀ b ∈ ((l.drop at_).take size ++ List.replicate (8 - size) 0), b < 256 := by
    intro b hb
    rcases List.mem_append.1 hb with h | h
    · exact H8.out b (List.mem_of_mem_drop (List.mem_of_mem_take h))
    · rw [List.mem_replicate] at h; omega
  generalize (l.drop at_).take size ++ List.replicate (8 - size) 0 = L8 at hL hv hrow hbt
  match L8, hL with
  | [x0, x1, x2, x3, x4, x5, x6, x7], _ =>
    have HV := Lib.hid hv
    have HB8 := Lib.hid hbt
    clear hv hbt
    have cc := fun i => cell_of_row W2 w.heap.size i _ _ _ hrow
    have c0 := cc 0
    have c1 := cc 1
    have c2 := cc 2
    have c3 := cc 3
    have c4 := cc 4
    have c5 := cc 5
    have c6 := cc 6
    have c7 := cc 7
    simp [cells8] at c0 c1 c2 c3 c4 c5 c6 c7
    clear cc hrow
    go_wp2_with fail
    clear c0 c1 c2 c3 c4 c5 c6 c7
    go_loop [9, 43] (fun n i => ∃ k : Nat, k ≤ 8 ∧ i = .int .i64 k ∧ n = .int .u64 (valN ([x0, x1, x2, x3, x4, x5, x6, x7].take k))) (fun _ i => 8 - (intOf i).toNat)
    case atStart => exact ⟨0, by omega, rfl, rfl⟩
    case round =>
      obtain ⟨k, hk, rfl, rfl⟩ := hrel
      have hq := valN_lt ([x0, x1, x2, x3, x4, x5, x6, x7].take k) (fun b hb => HB8.out b (List.mem_of_mem_take hb))
      rw [List.length_take_of_le (by simpa using hk)] at hq
      rcases (show k = 0 ∨ k = 1 ∨ k = 2 ∨ k = 3 ∨ k = 4 ∨ k = 5 ∨ k = 6 ∨ k = 7 ∨ k = 8 from by omega) with rfl | rfl | rfl | rfl | rfl | rfl | rfl | rfl | rfl
      · have ik : ∀ w, (Instr.index 68 (.agg #[.int .u8 x0, .int .u8 x1, .int .u8 x2, .int .u8 x3, .int .u8 x4, .int .u8 x5, .int .u8 x6, .int .u8 x7]) (.int .i64 0)).run Try.prog w = .ok (.int .u8 x0) w := fun _ => by kernel_rfl
        have hx : x0 < 256 := HB8.out x0 (by simp)
        have HS := Lib.hid (valN_snoc ([x0, x1, x2, x3, x4, x5, x6, x7].take 0) x0)
        have HO := Lib.hid (or_add _ x0 0 (by decide) hq hx)
        obtain ⟨q, hqq⟩ : ∃ q, q = valN ([x0, x1, x2, x3, x4, x5, x6, x7].take 0) := ⟨_, rfl⟩
        rw [← hqq] at HS HO ⊢
        clear hqq hq
        go_wp2_with fail
        go_round
        case rel => exact ⟨1, by omega, by go_num, by rw [show [x0, x1, x2, x3, x4, x5, x6, x7].take 1 = [x0, x1, x2, x3, x4, x5, x6, x7].take 0 ++ [x0] from rfl, HS.out]; exact or_end HO.out (by first | (simp; done) | (simp; omega))⟩
        case measure => simp [intOf]
      · have ik : ∀ w, (Instr.index 68 (.agg #[.int .u8 x0, .int .u8 x1, .int .u8 x2, .int .u8 x3, .int .u8 x4, .int .u8 x5, .int .u8 x6, .int .u8 x7]) (.int .i64 1)).run Try.prog w = .ok (.int .u8 x1) w := fun _ => by kernel_rfl
        have hx : x1 < 256 := HB8.out x1 (by simp)
        have HS := Lib.hid (valN_snoc ([x0, x1, x2, x3, x4, x5, x6, x7].take 1) x1)
        have HO := Lib.hid (or_add _ x1 1 (by decide) hq hx)
        obtain ⟨q, hqq⟩ : ∃ q, q = valN ([x0, x1, x2, x3, x4, x5, x6, x7].take 1) := ⟨_, rfl⟩
        rw [← hqq] at HS HO ⊢
        clear hqq hq
        go_wp2_with fail
        go_round
        case rel => exact ⟨2, by omega, by go_num, by rw [show [x0, x1, x2, x3, x4, x5, x6, x7].take 2 = [x0, x1, x2, x3, x4, x5, x6, x7].take 1 ++ [x1] from rfl, HS.out]; exact or_end HO.out (by first | (simp; done) | (simp; omega))⟩
        case measure => simp [intOf]
      · have ik : ∀ w, (Instr.index 68 (.agg #[.int .u8 x0, .int .u8 x1, .int .u8 x2, .int .u8 x3, .int .u8 x4, .int .u8 x5, .int .u8 x6, .int .u8 x7]) (.int .i64 2)).run Try.prog w = .ok (.int .u8 x2) w := fun _ => by kernel_rfl
        have hx : x2 < 256 := HB8.out x2 (by simp)
        have HS := Lib.hid (valN_snoc ([x0, x1, x2, x3, x4, x5, x6, x7].take 2) x2)
        have HO := Lib.hid (or_add _ x2 2 (by decide) hq hx)
        obtain ⟨q, hqq⟩ : ∃ q, q = valN ([x0, x1, x2, x3, x4, x5, x6, x7].take 2) := ⟨_, rfl⟩
        rw [← hqq] at HS HO ⊢
        clear hqq hq
        go_wp2_with fail
        go_round
        case rel => exact ⟨3, by omega, by go_num, by rw [show [x0, x1, x2, x3, x4, x5, x6, x7].take 3 = [x0, x1, x2, x3, x4, x5, x6, x7].take 2 ++ [x2] from rfl, HS.out]; exact or_end HO.out (by first | (simp; done) | (simp; omega))⟩
        case measure => simp [intOf]
      · have ik : ∀ w, (Instr.index 68 (.agg #[.int .u8 x0, .int .u8 x1, .int .u8 x2, .int .u8 x3, .int .u8 x4, .int .u8 x5, .int .u8 x6, .int .u8 x7]) (.int .i64 3)).run Try.prog w = .ok (.int .u8 x3) w := fun _ => by kernel_rfl
        have hx : x3 < 256 := HB8.out x3 (by simp)
        have HS := Lib.hid (valN_snoc ([x0, x1, x2, x3, x4, x5, x6, x7].take 3) x3)
        have HO := Lib.hid (or_add _ x3 3 (by decide) hq hx)
        obtain ⟨q, hqq⟩ : ∃ q, q = valN ([x0, x1, x2, x3, x4, x5, x6, x7].take 3) := ⟨_, rfl⟩
        rw [← hqq] at HS HO ⊢
        clear hqq hq
        go_wp2_with fail
        go_round
        case rel => exact ⟨4, by omega, by go_num, by rw [show [x0, x1, x2, x3, x4, x5, x6, x7].take 4 = [x0, x1, x2, x3, x4, x5, x6, x7].take 3 ++ [x3] from rfl, HS.out]; exact or_end HO.out (by first | (simp; done) | (simp; omega))⟩
        case measure => simp [intOf]
      · have ik : ∀ w, (Instr.index 68 (.agg #[.int .u8 x0, .int .u8 x1, .int .u8 x2, .int .u8 x3, .int .u8 x4, .int .u8 x5, .int .u8 x6, .int .u8 x7]) (.int .i64 4)).run Try.prog w = .ok (.int .u8 x4) w := fun _ => by kernel_rfl
        have hx : x4 < 256 := HB8.out x4 (by simp)
        have HS := Lib.hid (valN_snoc ([x0, x1, x2, x3, x4, x5, x6, x7].take 4) x4)
        have HO := Lib.hid (or_add _ x4 4 (by decide) hq hx)
        obtain ⟨q, hqq⟩ : ∃ q, q = valN ([x0, x1, x2, x3, x4, x5, x6, x7].take 4) := ⟨_, rfl⟩
        rw [← hqq] at HS HO ⊢
        clear hqq hq
        go_wp2_with fail
        go_round
        case rel => exact ⟨5, by omega, by go_num, by rw [show [x0, x1, x2, x3, x4, x5, x6, x7].take 5 = [x0, x1, x2, x3, x4, x5, x6, x7].take 4 ++ [x4] from rfl, HS.out]; exact or_end HO.out (by first | (simp; done) | (simp; omega))⟩
        case measure => simp [intOf]
      · have ik : ∀ w, (Instr.index 68 (.agg #[.int .u8 x0, .int .u8 x1, .int .u8 x2, .int .u8 x3, .int .u8 x4, .int .u8 x5, .int .u8 x6, .int .u8 x7]) (.int .i64 5)).run Try.prog w = .ok (.int .u8 x5) w := fun _ => by kernel_rfl
        have hx : x5 < 256 := HB8.out x5 (by simp)
        have HS := Lib.hid (valN_snoc ([x0, x1, x2, x3, x4, x5, x6, x7].take 5) x5)
        have HO := Lib.hid (or_add _ x5 5 (by decide) hq hx)
        obtain ⟨q, hqq⟩ : ∃ q, q = valN ([x0, x1, x2, x3, x4, x5, x6, x7].take 5) := ⟨_, rfl⟩
        rw [← hqq] at HS HO ⊢
        clear hqq hq
        go_wp2_with fail
        go_round
        case rel => exact ⟨6, by omega, by go_num, by rw [show [x0, x1, x2, x3, x4, x5, x6, x7].take 6 = [x0, x1, x2, x3, x4, x5, x6, x7].take 5 ++ [x5] from rfl, HS.out]; exact or_end HO.out (by first | (simp; done) | (simp; omega))⟩
        case measure => simp [intOf]
      · have ik : ∀ w, (Instr.index 68 (.agg #[.int .u8 x0, .int .u8 x1, .int .u8 x2, .int .u8 x3, .int .u8 x4, .int .u8 x5, .int .u8 x6, .int .u8 x7]) (.int .i64 6)).run Try.prog w = .ok (.int .u8 x6) w := fun _ => by kernel_rfl
        have hx : x6 < 256 := HB8.out x6 (by simp)
        have HS := Lib.hid (valN_snoc ([x0, x1, x2, x3, x4, x5, x6, x7].take 6) x6)
        have HO := Lib.hid (or_add _ x6 6 (by decide) hq hx)
        obtain ⟨q, hqq⟩ : ∃ q, q = valN ([x0, x1, x2, x3, x4, x5, x6, x7].take 6) := ⟨_, rfl⟩
        rw [← hqq] at HS HO ⊢
        clear hqq hq
        go_wp2_with fail
        go_round
        case rel => exact ⟨7, by omega, by go_num, by rw [show [x0, x1, x2, x3, x4, x5, x6, x7].take 7 = [x0, x1, x2, x3, x4, x5, x6, x7].take 6 ++ [x6] from rfl, HS.out]; exact or_end HO.out (by first | (simp; done) | (simp; omega))⟩
        case measure => simp [intOf]
      · have ik : ∀ w, (Instr.index 68 (.agg #[.int .u8 x0, .int .u8 x1, .int .u8 x2, .int .u8 x3, .int .u8 x4, .int .u8 x5, .int .u8 x6, .int .u8 x7]) (.int .i64 7)).run Try.prog w = .ok (.int .u8 x7) w := fun _ => by kernel_rfl
        have hx : x7 < 256 := HB8.out x7 (by simp)
        have HS := Lib.hid (valN_snoc ([x0, x1, x2, x3, x4, x5, x6, x7].take 7) x7)
        have HO := Lib.hid (or_add _ x7 7 (by decide) hq hx)
        obtain ⟨q, hqq⟩ : ∃ q, q = valN ([x0, x1, x2, x3, x4, x5, x6, x7].take 7) := ⟨_, rfl⟩
        rw [← hqq] at HS HO ⊢
        clear hqq hq
        go_wp2_with fail
        go_round
        case rel => exact ⟨8, by omega, by go_num, by rw [show [x0, x1, x2, x3, x4, x5, x6, x7].take 8 = [x0, x1, x2, x3, x4, x5, x6, x7].take 7 ++ [x7] from rfl, HS.out]; exact or_end HO.out (by first | (simp; done) | (simp; omega))⟩
        case measure => simp [intOf]
      · clear hq
        go_wp2_with fail
        go_ret2
        refine ⟨?_, hbel⟩
        show Ending.returned (.tuple #[.int .u64 (valN [x0, x1, x2, x3, x4, x5, x6, x7] : Nat), .int .i64 0]) = _
        rw [HV.out]
end Go.Proofs.Ytmebodjofcomlaa

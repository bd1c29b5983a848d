import Derived.Test.YtmebodjofcomlaaNumD
namespace Go.Proofs.Ytmebodjofcomlaa
open Go.RowKit
theorem OwnB.snoc {B : Nat} {w : World} {v : Value} {l : List Nat} {n x : Nat} (hx : x < 256) (hl : ∀ b ∈ l, b < 256) (hn : n = l.length) (h : w.ownsRow B 5 1 v (n + 1) (cells8 l ++ [.int .u8 (x : Int)])) : OwnB B w v (l ++ [x]) := by
  subst hn
  refine ⟨fun b hb => ?_, ?_⟩
  · rcases List.mem_append.1 hb with h | h
    · exact hl b h
    · simp at h; omega
  · rw [List.length_append, List.length_singleton]
    have e : cells8 (l ++ [x]) = cells8 l ++ [.int .u8 (x : Int)] := by simp [cells8]
    rw [e]
    exact h
/-- One more byte behind a slice of one's own. -/
theorem grown_below {B : Nat} {w0 w w' : World} {e : TypeId} {v : Value} {n : Nat} {xs : List Value} (hb : Below B w0 w) (hB : B ≤ w.heap.size) (hown : w.ownsRow B e 1 v n xs) (hg : w.grownBy w' v.ownBlock) : Below B w0 w' :=
  hb.grown hg hB (fun k hk => (hown.lt k hk).1)
/-- 'append(out, x)' of one byte, out one's own. -/
theorem app1 {wr w0 : World} {B : Nat} {ops : Array Oper} {rest : List Oper} {o : Oper} {a : Act} {Q : Exit → Act → World → Prop} (hgd : o.guard = none) (s x : Operand)
    (ho : o.op = .call { callee := .builtin .append, args := #[s, x], argTypes := #[44, 44] }) (v : Value) (L : List Nat) (hs : a.eval s = v) (hO : OwnB B wr v L)
    (b : Int) (bN : Nat) (hbN : b = (bN : Int)) (hb : bN < 256) (hx : a.eval x = .slice (some ⟨wr.heap.size, 0, none⟩) 1 1) (hlen : L.length + 1 ≤ 140737488355328) (hb0 : Below B w0 wr) (hB : B ≤ wr.heap.size)
    (h : ∀ v' w', OwnB B w' v' (L ++ [bN]) → Below B w0 w' → wpList Try.prog ops Q rest (a.put o.dst v') w') : wpList Try.prog ops Q (o :: rest) a (wr.alloc (.cells #[.int .u8 b] 5)) := by
  obtain ⟨i0, hi, hz0, hz1, hz2⟩ := info_parts info_u8
  refine wpList_append_own _ hgd s x 44 ho B 5 i0 (.int .u8 0) 1 1 Try.underlying44 hi hz0 hz1 hz2 rfl (by decide) v L.length (cells8 L) hs (hO.2.alloc _) ⟨wr.heap.size, 0, none⟩ 1 1 [.int .u8 b] hx rfl (cell_one_new _ _ _)
    (fun u hu => by simp at hu; subst hu; rfl) (by unfold maxLen; omega) (by omega) (by simp; omega) ?_
  intro v' w' hown hg _
  subst hbN
  exact h v' w' (OwnB.snoc hb hO.1 rfl hown) (grown_below (hb0.alloc hB _) (by simp; omega) (hO.2.alloc _) hg)
def PutPost (B : Nat) (l : List Nat) (n size : Nat) (e : Ending) (w' : World) : Prop :=
  (n / 256 ^ size = 0 ∧ ∃ v', e = .returned (.tuple #[v', .int .i64 0]) ∧ OwnB B w' v' (l ++ leN n size)) ∨ (n / 256 ^ size ≠ 0 ∧ e = .returned (.tuple #[.slice none 0 0, .int .i64 1]))
set_option maxHeartbeats 1000000 in
theorem refput_loop (p : Option Addr) (cap : Nat) (l : List Nat) (n size : Nat) (w : World) (hb : Holds w (.slice p l.length cap) l) (hn : n < 18446744073709551616) (hs : 1 ≤ size) (hs8 : size ≤ 8) (hlen : l.length + 8 ≤ 140737488355328) :
    Calls Try.prog 47 #[.slice p l.length cap, .int .u64 n, .int .i64 size] w fun e w' => Below w.heap.size w w' ∧ PutPost w.heap.size l n size e w' := by
  obtain ⟨i0, hi, hz0, hz1, hz2⟩ := info_parts info_u8
  have hc := bytes_any p cap l w hb (by omega)
  have HC := Lib.hid hc
  clear hc hb
  have hmx : l.length + 8 ≤ maxLen := by unfold maxLen; omega
  go_enter Try.func47, Try.ntmps47
  go_wp2_with fail
  refine HC.out.mono ?_
  rintro e w1 ⟨v1, rfl, hO, hb1⟩
  go_wp2_with fail
  go_loopw [1, 8, 9] (fun m v i wr => ∃ k : Nat, k ≤ size ∧ i = .int .i64 k ∧ m = .int .u64 ((n / 256 ^ k : Nat) : Int) ∧ OwnB w.heap.size wr v (l ++ leN n k) ∧ Below w.heap.size w wr) (fun _ _ i _ => size - (intOf i).toNat)
  case atStart => exact ⟨0, by omega, rfl, by simp, by simpa [leN] using hO, hb1⟩
  case round =>
    clear hO hb1
    obtain ⟨k, hk, rfl, rfl, hO, hb1⟩ := hrel
    have hln : (l ++ leN n k).length = l.length + k := by rw [List.length_append, leN_length]
    have hq : n / 256 ^ k < 18446744073709551616 := Nat.lt_of_le_of_lt (Nat.div_le_self _ _) hn
    by_cases hlt : k < size
    · have HS := Lib.hid (show leN n (k + 1) = leN n k ++ [n / 256 ^ k % 256] from leN_succ n k)
      have HD := Lib.hid (show n / 256 ^ (k + 1) = n / 256 ^ k / 256 from by rw [Nat.pow_succ, Nat.div_div_eq_div_mul])
      have HLN := Lib.hid hln
      clear hln
      obtain ⟨q, hqq⟩ : ∃ q, q = n / 256 ^ k := ⟨_, rfl⟩
      rw [← hqq] at hq HS HD ⊢
      clear hqq
      go_wp2_with (with_reducible refine app1 rfl _ _ rfl _ _ rfl hO _ (q % 256) ?hc ?hd rfl ?he hb1 hb1.size ?_)
      case hd => omega
      case he => rw [HLN.out]; omega
      case hc => omega
      intro v2 w2 hO2 hb2
      go_wp2_with fail
      go_roundw
      case rel => exact ⟨k + 1, by omega, by go_num, by rw [HD.out]; go_num, by rw [HS.out]; first | exact hO2 | (rw [← List.append_assoc]; exact hO2), hb2⟩
      case measure => simp [intOf]; omega
    · obtain rfl : k = size := by omega
      obtain ⟨q, hqq⟩ : ∃ q, q = n / 256 ^ k := ⟨_, rfl⟩
      rw [← hqq] at hq ⊢
      by_cases hz : q = 0
      · have hz' : ¬ (0 : Int) < (q : Int) := by omega
        have HZ := Lib.hid (hqq.symm.trans hz)
        clear hz hqq
        go_wp2_with fail
        go_ret2
        exact ⟨hb1, .inl ⟨HZ.out, _, rfl, hO⟩⟩
      · have hz' : (0 : Int) < (q : Int) := by omega
        have HZ := Lib.hid (show n / 256 ^ k ≠ 0 from by rw [← hqq]; exact hz)
        clear hz hqq
        go_wp2_with fail
        go_ret2
        exact ⟨hb1, .inr ⟨HZ.out, rfl⟩⟩
theorem refput_out (v : Value) (n size : Int) (w : World) (hs : size < 1 ∨ 8 < size) :
    Calls Try.prog 47 #[v, .int .u64 n, .int .i64 size] w fun e w' => e = .returned (.tuple #[.slice none 0 0, .int .i64 1]) ∧ w = w' := by
  rcases hs with h | h
  all_goals
    go_enter Try.func47, Try.ntmps47
    go_wp2_with fail
    go_ret2
    exact ⟨rfl, rfl⟩
end Go.Proofs.Ytmebodjofcomlaa

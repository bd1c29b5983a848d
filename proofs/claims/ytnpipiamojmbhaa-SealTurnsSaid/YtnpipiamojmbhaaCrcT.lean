/- One turned byte turns the sum; a number's bytes and back. -/
import Derived.Test.YtnpipiamojmbhaaNumF
import Derived.Test.YtnpipiamojmbhaaCrcLaw
namespace Go.Proofs.Ytnpipiamojmbhaa
open Go.RowKit
namespace Crc
theorem add_lt32 (sum : Nat) (l : List Nat) : add sum l < 4294967296 := by unfold add; omega
/-- One turned byte turns the sum. -/
theorem turn_mid (p q : List Nat) (b x : Nat) (hp : Bytes p) (hb : b < 256) (hx : x < 256) (hq : Bytes q) (h : add 0 (p ++ (x :: q)) = add 0 (p ++ (b :: q))) : x = b := by
  have hap : ∀ y, y < 256 → Bytes (p ++ (y :: q)) := fun y hy z hz => by
    rcases List.mem_append.1 hz with h | h
    · exact hp z h
    · rcases List.mem_cons.1 h with h | h
      · subst h; exact hy
      · exact hq z h
  have l1 := fold_lt _ (4294967295 - 0) (by decide) (hap x hx)
  have l2 := fold_lt _ (4294967295 - 0) (by decide) (hap b hb)
  unfold add at h
  have h3 : fold (4294967295 - 0) (p ++ (x :: q)) = fold (4294967295 - 0) (p ++ (b :: q)) := by omega
  rw [fold_append, fold_append] at h3
  generalize fold (4294967295 - 0) p = r at h3
  have e : byte r x = byte r b ^^^ bits 8 (b ^^^ x) := by
    unfold byte
    rw [← bits_xor]
    congr 1
    rw [Nat.xor_assoc, ← Nat.xor_assoc b b x, Nat.xor_self, Nat.zero_xor]
  have e1 : ∀ y, fold r (y :: q) = fold (byte r y) q := fun y => List.foldl_cons ..
  rw [e1, e1, e, fold_diff] at h3
  have h4 := xor_cancel h3
  have ht : b ^^^ x < 4294967296 := Nat.lt_of_lt_of_le (Nat.xor_lt_two_pow (n := 8) hb hx) (by decide)
  have h5 := bits_ker 8 _ ht (bits_ker _ _ (bits_lt 8 _ ht) h4)
  have h6 := congrArg (b ^^^ ·) h5
  simp only [← Nat.xor_assoc, Nat.xor_self, Nat.zero_xor, Nat.xor_zero] at h6
  exact h6
theorem turn_at (l : List Nat) (i x : Nat) (hl : Bytes l) (hx : x < 256) (hi : i < l.length) (h : add 0 (l.set i x) = add 0 l) : x = l[i] := by
  have e : l = l.take i ++ (l[i] :: l.drop (i + 1)) := by rw [← List.drop_eq_getElem_cons hi, List.take_append_drop]
  have e2 : l.set i x = l.take i ++ (x :: l.drop (i + 1)) := List.set_eq_take_append_cons_drop .. |>.trans (if_pos hi)
  have h1 : add 0 (l.set i x) = add 0 (l.take i ++ (l[i] :: l.drop (i + 1))) := h.trans (congrArg (add 0) e)
  rw [e2] at h1
  exact turn_mid _ _ _ _ (fun z hz => hl z (List.mem_of_mem_take hz)) (hl _ (List.getElem_mem hi)) hx (fun z hz => hl z (List.mem_of_mem_drop hz)) h1
end Crc
theorem lt4' {n : Nat} (h : n < 4294967296) : n < 256 ^ 4 := by
  have e : (256 : Nat) ^ 4 = 4294967296 := by decide
  rw [e]; exact h
theorem leN_inj4 {l m : List Nat} (h : leN (Crc.add 0 l) 4 = leN (Crc.add 0 m) 4) : Crc.add 0 l = Crc.add 0 m := by
  have e := congrArg valN h
  rw [valN_leN, valN_leN, Nat.mod_eq_of_lt (lt4' (Crc.add_lt32 _ _)), Nat.mod_eq_of_lt (lt4' (Crc.add_lt32 _ _))] at e
  exact e
theorem leN_valN2 (l : List Nat) (hl : l.length = 2) (h : ∀ x ∈ l, x < 256) : leN (valN l) 2 = l := by
  match l, hl with
  | [a, b], _ =>
    have ha := h a (by simp)
    have hb := h b (by simp)
    simp only [valN, leN, List.range_succ, List.range_zero, List.nil_append, List.map_cons, List.map_nil, List.cons_append]
    congr 1
    · omega
    · congr 1; omega
theorem leN_valN4 (l : List Nat) (hl : l.length = 4) (h : ∀ x ∈ l, x < 256) : leN (valN l) 4 = l := by
  match l, hl with
  | [a, b, c, d], _ =>
    have ha := h a (by simp)
    have hb := h b (by simp)
    have hc := h c (by simp)
    have hd := h d (by simp)
    simp only [valN, leN, List.range_succ, List.range_zero, List.nil_append, List.map_cons, List.map_nil, List.cons_append]
    congr 1
    · omega
    congr 1
    · omega
    congr 1
    · omega
    congr 1; omega
end Go.Proofs.Ytnpipiamojmbhaa

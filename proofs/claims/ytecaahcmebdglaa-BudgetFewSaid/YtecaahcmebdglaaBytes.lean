/- Words for bytes in memory, and the plain law of four turned bytes. No program in sight. -/
import Derived.WalkKit
import Derived.WalkSpells
import Derived.Lib.Hide
import Derived.Deep.Draws
namespace Go.Proofs.Ytecaahcmebdglaa
open Go.RowKit
namespace Turn
def turned (l : List Nat) (a d : Nat) : Nat → List Nat
  | 0 => l
  | k + 1 => (turned l a d k).set (a + k) ((turned l a d k).getD (a + k) 0 ^^^ (d / 256 ^ k % 256))
theorem turned_len (l : List Nat) (a d : Nat) : ∀ k, (turned l a d k).length = l.length
  | 0 => rfl
  | k + 1 => by rw [turned, List.length_set]; exact turned_len l a d k
theorem get_at (p q : List Nat) (k : Nat) : (p ++ q).getD (p.length + k) 0 = q.getD k 0 := by
  simp [List.getD, List.getElem?_append_right]
theorem four (p q : List Nat) (b0 b1 b2 b3 d : Nat) : turned (p ++ (b0 :: b1 :: b2 :: b3 :: q)) p.length d 4 =
    p ++ ([b0 ^^^ (d % 256), b1 ^^^ (d / 256 % 256), b2 ^^^ (d / 65536 % 256), b3 ^^^ (d / 16777216 % 256)] ++ q) := by
  have s : ∀ (r : List Nat) (k x : Nat), (p ++ r).set (p.length + k) x = p ++ r.set k x := fun r k x => by
    rw [List.set_append_right _ _ (by omega), Nat.add_sub_cancel_left]
  simp only [turned, get_at, s]
  simp
theorem split (l : List Nat) (a : Nat) (h : a + 4 ≤ l.length) : ∃ p b0 b1 b2 b3 q, l = p ++ (b0 :: b1 :: b2 :: b3 :: q) ∧ p.length = a := by
  have hd : (l.drop a).length ≥ 4 := by rw [List.length_drop]; omega
  match hm : l.drop a, hd with
  | b0 :: b1 :: b2 :: b3 :: q, _ => exact ⟨l.take a, b0, b1, b2, b3, q, by rw [← hm, List.take_append_drop], by rw [List.length_take]; omega⟩
end Turn
theorem below_drewN {B : Nat} {a w : World} (h : Below B a w) (n : Nat) : Below B a (w.drewN n) := ⟨h.os, h.tape, h.output, h.size, h.block⟩
/-- The bytes of a text, as numbers; and a text of numbers. -/
def nats (s : ByteArray) : List Nat := s.data.toList.map UInt8.toNat
def text (l : List Nat) : ByteArray := ⟨(l.map UInt8.ofNat).toArray⟩
theorem nats_lt (s : ByteArray) : ∀ b ∈ nats s, b < 256 := by
  intro b hb
  simp only [nats, List.mem_map] at hb
  obtain ⟨c, _, rfl⟩ := hb
  exact c.toNat_lt
theorem nats_length (s : ByteArray) : (nats s).length = s.size := by simp [nats]
theorem nats_text (l : List Nat) (h : ∀ b ∈ l, b < 256) : nats (text l) = l := by
  simp only [nats, text, List.map_map]
  conv => rhs; rw [← List.map_id l]
  exact List.map_congr_left fun b hb => by
    show (UInt8.ofNat b).toNat = b
    rw [UInt8.toNat_ofNat']; exact Nat.mod_eq_of_lt (h b hb)
theorem text_nats (s : ByteArray) : text (nats s) = s := by
  obtain ⟨d⟩ := s
  simp only [nats, text, List.map_map]
  congr 1
  apply Array.toList_inj.1
  show (d.toList.map _) = d.toList
  conv => rhs; rw [← List.map_id d.toList]
  exact List.map_congr_left fun b _ => by simp
theorem text_size (l : List Nat) : (text l).size = l.length := by simp [text, ByteArray.size]
theorem nats_append (s t : ByteArray) : nats (s ++ t) = nats s ++ nats t := by simp [nats]
theorem nats_inj {s t : ByteArray} (h : nats s = nats t) : s = t := by rw [← text_nats s, h, text_nats]
theorem nats_take (s : ByteArray) (k : Nat) (h : k < s.size) : (nats s).take (k + 1) = (nats s).take k ++ [(s[k]).toNat] := by
  rw [List.take_succ_eq_append_getElem (by rw [nats_length]; exact h)]
  simp [nats]; rfl
theorem nats_get (s : ByteArray) (k : Nat) (h : k < s.size) : (nats s)[k]? = some (s[k]).toNat := by
  rw [List.getElem?_eq_getElem (by rw [nats_length]; exact h)]
  simp [nats]; rfl
theorem nats_getD (s : ByteArray) (k : Nat) (h : k < s.size) : (nats s).getD k 0 = (s[k]).toNat := by
  rw [List.getD_eq_getElem?_getD, nats_get s k h]; rfl
/-- Block g holds the bytes l, none of them frozen. -/
def BB (w : World) (g : Nat) (l : List Nat) : Prop := ∀ j x : Nat, l[j]? = some x → w.cell? ⟨g, j, none⟩ = some (.int .u8 (x : Int)) ∧ w.frozen? ⟨g, j, none⟩ = false
section
variable {w w' : World} {g : Nat} {l : List Nat}
theorem BB.below {B : Nat} (h : BB w g l) (hb : Below B w w') (hg : g < B) : BB w' g l := fun j x hx => by
  have := h j x hx
  exact ⟨(hb.cell (p := ⟨g, j, none⟩) hg).trans this.1, (hb.frozen (p := ⟨g, j, none⟩) hg).trans this.2⟩
theorem BB.drew (h : BB w g l) : BB w.drew g l := h
theorem BB.drewN (h : BB w g l) (n : Nat) : BB (w.drewN n) g l := h
theorem BB.at_ (h : BB w g l) (j : Nat) (hj : j < l.length) : w.cell? ⟨g, j, none⟩ = some (.int .u8 ((l.getD j 0 : Nat) : Int)) ∧ w.frozen? ⟨g, j, none⟩ = false := by
  have := h j l[j] (List.getElem?_eq_getElem hj)
  rw [List.getD_eq_getElem?_getD, List.getElem?_eq_getElem hj]
  exact this
theorem BB.set_ (h : BB w g l) (k x : Nat) : BB (w.setCell ⟨g, k, none⟩ (.int .u8 (x : Int))) g (l.set k x) := by
  intro j y hy
  by_cases hk : j = k
  · subst hk
    have hj : j < l.length := by
      have := (List.getElem?_eq_some_iff.1 hy).1
      simpa using this
    rw [List.getElem?_set_self hj] at hy
    injection hy with hy
    subst hy
    have := h.at_ j hj
    refine ⟨?_, ?_⟩
    · exact World.cell?_setCell_same _ _ _ this.1
    · rw [World.frozen?_setCell]; exact this.2
  · rw [List.getElem?_set_ne (fun e => hk e.symm)] at hy
    have := h j y hy
    refine ⟨?_, ?_⟩
    · exact (World.cell?_setCell_other w _ _ _ (by intro e; injection e; omega)).trans this.1
    · rw [World.frozen?_setCell]; exact this.2
end
end Go.Proofs.Ytecaahcmebdglaa

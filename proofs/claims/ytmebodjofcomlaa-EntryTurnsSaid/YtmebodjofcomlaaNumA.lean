import Derived.Test.YtmebodjofcomlaaProg
import Derived.Test.YtmebodjofcomlaaBytes
import Derived.Test.YtmebodjofcomlaaShelf
import Derived.WalkLawsBesides
namespace Go.Proofs.Ytmebodjofcomlaa
open Go.RowKit
def leN (n k : Nat) : List Nat := (List.range k).map fun i => n / 256 ^ i % 256
theorem leN_length (n k : Nat) : (leN n k).length = k := by simp [leN]
theorem leN_lt (n k : Nat) : ∀ b ∈ leN n k, b < 256 := by
  intro b hb
  simp only [leN, List.mem_map] at hb
  obtain ⟨i, _, rfl⟩ := hb
  exact Nat.mod_lt _ (by decide)
theorem leN_succ (n k : Nat) : leN n (k + 1) = leN n k ++ [n / 256 ^ k % 256] := by simp [leN, List.range_succ]
def u8s (l : List Nat) : List UInt8 := l.map UInt8.ofNat
theorem u8s_length (l : List Nat) : (u8s l).length = l.length := by simp [u8s]
/-- A slice of the bytes l (nil: none). -/
def Holds (w : World) (v : Value) (l : List Nat) : Prop := (∀ b ∈ l, b < 256) ∧ Lib.HoldsBytes w v (u8s l)
/-- A slice of the bytes l in a block of its own, from block B on. -/
def Fresh (B : Nat) (w : World) (v : Value) (l : List Nat) : Prop := (∀ b ∈ l, b < 256) ∧ Lib.FreshBytes B w v (u8s l)
theorem bytesOf_get (zs : List Int) (l : List UInt8) (h : Lib.bytesOf zs = l) (hz : ∀ x ∈ zs, 0 ≤ x ∧ x < 256) (i : Nat) (x : UInt8) (hx : l[i]? = some x) : zs[i]? = some (x.toNat : Int) := by
  subst h
  unfold Lib.bytesOf at hx
  rw [List.getElem?_map] at hx
  cases hz' : zs[i]? with
  | none => rw [hz'] at hx; cases hx
  | some z =>
    rw [hz'] at hx
    simp only [Option.map_some, Option.some.injEq] at hx
    have hm := hz z (List.mem_of_getElem? hz')
    subst hx
    congr 1
    rw [UInt8.toNat_ofNat']
    omega
theorem Fresh.holds {B : Nat} {w : World} {v : Value} {l : List Nat} (h : Fresh B w v l) : Holds w v l := by
  obtain ⟨h1, g, cap, zs, hv, _, hcap, _, hzl, hz, hbs, hc, _⟩ := h
  refine ⟨h1, some ⟨g, 0, none⟩, cap, hv, fun e => (by cases e), fun a ha i x hx => ?_⟩
  injection ha with ha
  subst ha
  have hi : i < (u8s l).length := (List.getElem?_eq_some_iff.1 hx).1
  have hadd : (⟨g, 0, none⟩ : Addr).add i = ⟨g, i, none⟩ := by unfold Addr.add; split <;> simp_all
  rw [hadd, hc i (by omega)]
  have hg := bytesOf_get (zs.take (u8s l).length) (u8s l) hbs (fun x hx => hz x (List.mem_of_mem_take hx)) i x hx
  rw [List.getElem?_take_of_lt hi] at hg
  rw [List.getD_eq_getElem?_getD, hg]
  rfl
theorem Holds.later {w w' : World} {v : Value} {l : List Nat} (h : Holds w v l) (hb : Below w.heap.size w w') : Holds w' v l := by
  obtain ⟨h1, p, cap, hv, hn, hc⟩ := h
  exact ⟨h1, p, cap, hv, hn, fun a ha i x hx => cell_later hb (hc a ha i x hx)⟩
theorem BB.holds {w : World} {g : Nat} {L : List Nat} (h : BB w g L) (hl : ∀ b ∈ L, b < 256) (k cap : Nat) (hk : k ≤ L.length) : Holds w (.slice (some ⟨g, 0, none⟩) k cap) (L.take k) := by
  refine ⟨fun b hb => hl b (List.mem_of_mem_take hb), some ⟨g, 0, none⟩, cap, by rw [u8s_length, List.length_take, Nat.min_eq_left hk], fun e => (by cases e), fun a ha i x hx => ?_⟩
  injection ha with ha
  subst ha
  have hadd : (⟨g, 0, none⟩ : Addr).add i = ⟨g, i, none⟩ := by unfold Addr.add; split <;> simp_all
  rw [hadd]
  unfold u8s at hx
  rw [List.getElem?_map] at hx
  cases hz' : (L.take k)[i]? with
  | none => rw [hz'] at hx; cases hx
  | some z =>
    rw [hz'] at hx
    simp only [Option.map_some, Option.some.injEq] at hx
    have hi : i < k := by
      have := (List.getElem?_eq_some_iff.1 hz').1
      rw [List.length_take] at this
      omega
    rw [List.getElem?_take_of_lt hi] at hz'
    have hm := hl z (List.mem_of_getElem? hz')
    subst hx
    rw [(h i z hz').1, UInt8.toNat_ofNat', Nat.mod_eq_of_lt hm]
theorem Holds.nil (w : World) : Holds w (.slice none 0 0) [] := ⟨fun b hb => (by cases hb), none, 0, rfl, fun _ => rfl, fun a ha => (by cases ha)⟩
/-- bytes.Join of two parts, of three parts, nothing between. -/
theorem join2 (w : World) (g : Nat) (v0 v1 : Value) (l0 l1 : List Nat) (h0 : Holds w v0 l0) (h1 : Holds w v1 l1) (hc0 : w.cell? ⟨g, 0, none⟩ = some v0) (hc1 : w.cell? ⟨g, 1, none⟩ = some v1) (hlen : l0.length + l1.length ≤ 140737488355328) :
    Calls Try.prog 45 #[.slice (some ⟨g, 0, none⟩) 2 2, .slice none 0 0] w fun e w' => ∃ v', e = .returned v' ∧ Fresh w.heap.size w' v' (l0 ++ l1) ∧ Below w.heap.size w w' := by
  have hadd : ∀ i, (⟨g, 0, none⟩ : Addr).add i = ⟨g, i, none⟩ := by intro i; unfold Addr.add; split <;> simp_all
  have := Go.Proofs.Try.bytes_Join_many g 0 2 2 [v0, v1] [u8s l0, u8s l1] (.slice none 0 0) [] w rfl (Nat.le_refl _)
    ⟨rfl, fun i v hi => (by
      match i, hi with
      | 0, hi => simp at hi; subst hi; rw [hadd]; exact hc0
      | 1, hi => simp at hi; subst hi; rw [hadd]; exact hc1), fun i v l hi hl => (by
      match i, hi, hl with
      | 0, hi, hl => simp at hi hl; subst hi hl; exact h0.2
      | 1, hi, hl => simp at hi hl; subst hi hl; exact h1.2)⟩ (Nat.le_refl _) (Holds.nil w).2 (by decide) (by simp [Lib.lens, u8s_length]; omega)
  refine this.mono ?_
  rintro e w' ⟨v', he, hf, hb⟩
  have hj : Lib.join [u8s l0, u8s l1] [] = u8s (l0 ++ l1) := by simp [Lib.join, u8s]
  rw [hj] at hf
  exact ⟨v', he, ⟨fun b hb => by
    rcases List.mem_append.1 hb with h | h
    · exact h0.1 b h
    · exact h1.1 b h, hf⟩, hb⟩
theorem join3 (w : World) (g : Nat) (v0 v1 v2 : Value) (l0 l1 l2 : List Nat) (h0 : Holds w v0 l0) (h1 : Holds w v1 l1) (h2 : Holds w v2 l2) (hc0 : w.cell? ⟨g, 0, none⟩ = some v0) (hc1 : w.cell? ⟨g, 1, none⟩ = some v1) (hc2 : w.cell? ⟨g, 2, none⟩ = some v2) (hlen : l0.length + l1.length + l2.length ≤ 140737488355328) :
    Calls Try.prog 45 #[.slice (some ⟨g, 0, none⟩) 3 3, .slice none 0 0] w fun e w' => ∃ v', e = .returned v' ∧ Fresh w.heap.size w' v' (l0 ++ l1 ++ l2) ∧ Below w.heap.size w w' := by
  have hadd : ∀ i, (⟨g, 0, none⟩ : Addr).add i = ⟨g, i, none⟩ := by intro i; unfold Addr.add; split <;> simp_all
  have := Go.Proofs.Try.bytes_Join_many g 0 3 3 [v0, v1, v2] [u8s l0, u8s l1, u8s l2] (.slice none 0 0) [] w rfl (by decide)
    ⟨rfl, fun i v hi => (by
      match i, hi with
      | 0, hi => simp at hi; subst hi; rw [hadd]; exact hc0
      | 1, hi => simp at hi; subst hi; rw [hadd]; exact hc1
      | 2, hi => simp at hi; subst hi; rw [hadd]; exact hc2), fun i v l hi hl => (by
      match i, hi, hl with
      | 0, hi, hl => simp at hi hl; subst hi hl; exact h0.2
      | 1, hi, hl => simp at hi hl; subst hi hl; exact h1.2
      | 2, hi, hl => simp at hi hl; subst hi hl; exact h2.2)⟩ (Nat.le_refl _) (Holds.nil w).2 (by decide) (by simp [Lib.lens, u8s_length]; omega)
  refine this.mono ?_
  rintro e w' ⟨v', he, hf, hb⟩
  have hj : Lib.join [u8s l0, u8s l1, u8s l2] [] = u8s (l0 ++ l1 ++ l2) := by simp [Lib.join, u8s]
  rw [hj] at hf
  exact ⟨v', he, ⟨fun b hb => by
    rcases List.mem_append.1 hb with h | h
    · rcases List.mem_append.1 h with h | h
      · exact h0.1 b h
      · exact h1.1 b h
    · exact h2.1 b h, hf⟩, hb⟩
end Go.Proofs.Ytmebodjofcomlaa

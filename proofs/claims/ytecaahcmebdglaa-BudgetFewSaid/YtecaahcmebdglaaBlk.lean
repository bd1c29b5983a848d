/- A block whose cells are known and free; '[]byte(s)'. -/
import Derived.Test.YtecaahcmebdglaaRow
namespace Go.Proofs.Ytecaahcmebdglaa
open Go.RowKit
/-- The cells of a block, none of them frozen. -/
def Blk (w : World) (b : Nat) (cs : Array Value) : Prop := b < w.heap.size ∧ ∀ i v, cs[i]? = some v → w.cell? ⟨b, i, none⟩ = some v ∧ w.frozen? ⟨b, i, none⟩ = false
theorem Blk.row {w : World} {b : Nat} {cs : Array Value} (h : Blk w b cs) : Row w b cs := ⟨h.1, fun i v hv => (h.2 i v hv).1⟩
theorem Blk.below {w w' : World} {b B : Nat} {cs : Array Value} (h : Blk w b cs) (hb : Below B w w') (hB : b < B) : Blk w' b cs :=
  ⟨Nat.lt_of_lt_of_le h.1 hb.size, fun i v hv => ⟨(hb.cell (p := ⟨b, i, none⟩) hB).trans (h.2 i v hv).1, (hb.frozen (p := ⟨b, i, none⟩) hB).trans (h.2 i v hv).2⟩⟩
theorem Blk.later {w w' : World} {b : Nat} {cs : Array Value} (h : Blk w b cs) (hb : Below w.heap.size w w') : Blk w' b cs := h.below hb h.1
theorem Blk.alloc {w : World} {b : Nat} {cs : Array Value} (h : Blk w b cs) (o : Obj) : Blk (w.alloc o) b cs :=
  h.below ((Below.refl w.heap.size w).alloc (Nat.le_refl _) o) h.1
theorem Blk.drew {w : World} {b : Nat} {cs : Array Value} (h : Blk w b cs) : Blk w.drew b cs := h
theorem Blk.new (w : World) (cs : Array Value) (t : TypeId) (k : Nat) (hk : k = w.heap.size) : Blk (w.alloc (.cells cs t)) k cs := by
  subst hk
  refine ⟨by simp, fun i v hv => ⟨?_, ?_⟩⟩
  · rw [cell_of_row _ _ _ _ _ _ (heap_alloc_new w _)]
    exact hv
  · unfold World.frozen?
    rw [heap_alloc_new w]
    simp
theorem Blk.other {w : World} {b : Nat} {cs : Array Value} (h : Blk w b cs) (p : Addr) (hp : p.block ≠ b) (v : Value) : Blk (w.setCell p v) b cs := by
  refine ⟨by simpa using h.1, fun i x hx => ⟨?_, ?_⟩⟩
  · exact (World.cell?_setCell_other w _ _ _ (by intro e; rw [e] at hp; exact hp rfl)).trans (h.2 i x hx).1
  · rw [World.frozen?_setCell]; exact (h.2 i x hx).2
theorem Blk.set_ {w : World} {b : Nat} {cs : Array Value} (h : Blk w b cs) (k : Nat) (x : Value) : Blk (w.setCell ⟨b, k, none⟩ x) b (cs.setIfInBounds k x) := by
  refine ⟨by simpa using h.1, fun j y hy => ?_⟩
  by_cases hk : k = j
  · subst hk
    have hj : k < cs.size := by
      have := (Array.getElem?_eq_some_iff.1 hy).1
      simpa using this
    rw [Array.getElem?_setIfInBounds_self_of_lt hj] at hy
    injection hy with hy
    subst hy
    have := h.2 k cs[k] (Array.getElem?_eq_getElem hj)
    exact ⟨World.cell?_setCell_same _ _ _ this.1, by rw [World.frozen?_setCell]; exact this.2⟩
  · rw [Array.getElem?_setIfInBounds_ne (Ne.symm (fun e => hk e.symm))] at hy
    have := h.2 j y hy
    exact ⟨(World.cell?_setCell_other w _ _ _ (by intro e; injection e; omega)).trans this.1, by rw [World.frozen?_setCell]; exact this.2⟩
theorem bb_row (w : World) (s : ByteArray) (cap t n : Nat) : BB (w.alloc (.cells (bytesRow s cap) t ((bytesRow s cap).size, n))) w.heap.size (nats s) := by
  intro j x hx
  have hj : j < s.size := by
    have := (List.getElem?_eq_some_iff.1 hx).1
    rwa [nats_length] at this
  have hb := heap_alloc_new w (.cells (bytesRow s cap) t ((bytesRow s cap).size, n))
  have hj' : j < s.data.size := hj
  have hrow : (bytesRow s cap)[j]? = some (.int .u8 (x : Int)) := by
    rw [nats_get s j hj] at hx
    injection hx with hx
    subst hx
    unfold bytesRow
    rw [Array.getElem?_append_left (by simpa using hj')]
    rw [Array.getElem?_map, Array.getElem?_eq_getElem hj']
    rfl
  refine ⟨by rw [cell_of_row _ _ _ _ _ _ hb]; exact hrow, ?_⟩
  have hlt : j < (bytesRow s cap).size := by
    rcases Nat.lt_or_ge j (bytesRow s cap).size with h | h
    · exact h
    · rw [Array.getElem?_eq_none h] at hrow; cases hrow
  unfold World.frozen?
  rw [hb]
  simp
  omega
theorem nats_extract (s : ByteArray) (a b : Nat) : nats (s.extract a b) = ((nats s).take b).drop a := by
  unfold nats
  rw [ByteArray.data_extract, Array.toList_extract, List.extract_eq_take_drop, List.map_take, List.map_drop, List.drop_take]
end Go.Proofs.Ytecaahcmebdglaa

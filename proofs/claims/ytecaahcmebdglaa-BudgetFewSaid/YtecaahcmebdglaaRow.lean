import Derived.Test.YtecaahcmebdglaaBytes
import Derived.WalkKit
import Derived.Below
import Derived.RowKit3
namespace Go.Proofs.Ytecaahcmebdglaa
open Go.RowKit
/-- The cells of a block. -/
def Row (w : World) (b : Nat) (cs : Array Value) : Prop := b < w.heap.size ∧ ∀ i v, cs[i]? = some v → w.cell? ⟨b, i, none⟩ = some v
theorem Row.below {w w' : World} {b B : Nat} {cs : Array Value} (h : Row w b cs) (hb : Below B w w') (hB : b < B) : Row w' b cs :=
  ⟨Nat.lt_of_lt_of_le h.1 hb.size, fun i v hv => (hb.cell (p := ⟨b, i, none⟩) hB).trans (h.2 i v hv)⟩
theorem Row.alloc {w : World} {b : Nat} {cs : Array Value} (h : Row w b cs) (o : Obj) : Row (w.alloc o) b cs :=
  h.below ((Below.refl w.heap.size w).alloc (Nat.le_refl _) o) h.1
theorem Row.new (w : World) (cs : Array Value) (t : TypeId) (k : Nat) (hk : k = w.heap.size) : Row (w.alloc (.cells cs t)) k cs := by
  subst hk
  refine ⟨by simp, fun i v hv => ?_⟩
  rw [cell_of_row _ _ _ _ _ _ (heap_alloc_new w _)]
  exact hv
end Go.Proofs.Ytecaahcmebdglaa

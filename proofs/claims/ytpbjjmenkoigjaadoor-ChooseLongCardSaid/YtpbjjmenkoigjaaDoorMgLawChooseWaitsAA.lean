/- Cells of a block are set: what stays, what comes. -/
import Derived.Test.YtpbjjmenkoigjaaDoorMgLawChooseTurnsAF
namespace Go.Proofs.YtpbjjmenkoigjaaDoor
open Go.RowKit
set_option linter.unusedVariables false
theorem poke_one {w : World} {g i : Nat} {cs : Array Value} {v : Value} (t : TypeId) (hz : (Tryd.prog.info? t).map (·.size) = some 1) (hB : Blk w g cs) (hi : i < cs.size) (hv : (∃ k n, v = .int k n) ∨ (∃ p l c, v = .slice p l c)) :
    (Instr.storeAt t (.pointer (some ⟨g, i, none⟩)) v).run Tryd.prog w = .ok () (w.setCell ⟨g, i, none⟩ v) := by
  have h := hB.2 i _ (Array.getElem?_eq_getElem hi)
  cases hq : Tryd.prog.info? t with
  | none => simp [hq] at hz
  | some f =>
    have hs : f.size = 1 := by simpa [hq] using hz
    rcases hv with ⟨k, n, rfl⟩ | ⟨p, l, c, rfl⟩
    · simp [go_sem, sizeOf, typeInfo, hq, hs, h]
    · simp [go_sem, sizeOf, typeInfo, hq, hs, h]
theorem poke {w : World} {g i : Nat} {cs : Array Value} {v : Value} (t : TypeId) (hB : Blk w g cs) (hi : i < cs.size) (hz : (Tryd.prog.info? t).map (·.size) = some 1) (hv : (∃ k n, v = .int k n) ∨ (∃ p l c, v = .slice p l c)) :
    ∃ w', (Instr.storeAt t (.pointer (some ⟨g, i, none⟩)) v).run Tryd.prog w = .ok () w' ∧ w.heap.size ≤ w'.heap.size ∧ Blk w' g (cs.setIfInBounds i v) ∧ (∀ B, B ≤ g → B ≤ w.heap.size → Below B w w') ∧ (∀ b cs', b ≠ g → Blk w b cs' → Blk w' b cs') := by
  have ht : Turned (fun q => q = g) w (w.setCell ⟨g, i, none⟩ v) := Turned.setCell _ _ rfl
  exact ⟨_, poke_one t hz hB hi hv, ht.size, hB.set_ i v, fun B hb hB' => ht.below (fun q hq => by omega) hB', fun b cs' hb h => h.turned ht (fun q => hb q)⟩
theorem poke_three {w : World} {g i : Nat} {cs : Array Value} (a b c : Int) (hB : Blk w g cs) (hi : i + 2 < cs.size) :
    ∃ w', (Instr.storeAt 27 (.pointer (some ⟨g, i, none⟩)) (.agg #[.int .i64 a, .int .i64 b, .int .u64 c])).run Tryd.prog w = .ok () w' ∧ w.heap.size ≤ w'.heap.size ∧ Blk w' g (((cs.setIfInBounds i (.int .i64 a)).setIfInBounds (i + 1) (.int .i64 b)).setIfInBounds (i + 2) (.int .u64 c)) ∧ (∀ B, B ≤ g → B ≤ w.heap.size → Below B w w') ∧ (∀ b cs', b ≠ g → Blk w b cs' → Blk w' b cs') := by
  have ht : Turned (fun q => q = g) w (w.setCells g i [.int .i64 a, .int .i64 b, .int .u64 c]) := Turned.setCells (X := fun q => q = g) g rfl _ _ _
  refine ⟨_, run_storeAt_mid w g i 27 #[.int .i64 a, .int .i64 b, .int .u64 c] (fun j hj => ?_) (by kernel_rfl) (by simp [Value.oneCell']), ht.size, ((hB.set_ i _).set_ (i + 1) _).set_ (i + 2) _, fun B hb hB' => ht.below (fun q hq => by omega) hB', fun b cs' hb h => h.turned ht (fun q => hb q)⟩
  have hj' : j < 3 := hj
  have := hB.2 (i + j) _ (Array.getElem?_eq_getElem (by omega))
  exact ⟨by rw [this.1]; rfl, this.2⟩
end Go.Proofs.YtpbjjmenkoigjaaDoor

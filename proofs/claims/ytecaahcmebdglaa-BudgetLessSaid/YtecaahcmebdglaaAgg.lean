/- A struct of one-cell fields by value, whatever their number: the value, its datum, and each field's own reading. -/
import Derived.Test.YtecaahcmebdglaaRows
import Derived.WalkKit
import Derived.OpenShut
import Derived.WideShapes
import Derived.Deep.Fields
namespace Go.Proofs.Ytecaahcmebdglaa
open Go.ChangeShapes Go.WideShapes Go.RowKit Go.Deep
theorem open_agg {H : Type} {enc : TypeId × Value → H} {P : Program} {w : World} {base : Nat} {spare : Nat → Bool} {held : Bool} {fs : Array Field}
    {r : Reach} {b0 : Nat} {t : TypeId} {v : Value} {d : DataW H} {p : List MemPlace} (hs : P.underlying t = some (.struct fs)) (hone : oneCellFields P fs = true) (k : Nat) (hk : fs.size = k) (hC : P.cellsOf t = k)
    (hv : Value.okWide P w r b0 t v) (h : DataW.Trod enc P w base spare held t v d p) :
    ∃ cs : List Value, v = .agg ⟨cs⟩ ∧ cs.length = k ∧ ∃ (n : Nat) (ys : List (DataW H × List MemPlace)), d = .agg (ys.map (·.1)) ∧ p = ys.flatMap (·.2) ∧ ys.length = fs.size ∧
      ∀ (j : Nat) (f : Field) (c : Value), fs[j]? = some f → cs[j]? = some c → ∃ y, ys[j]? = some y ∧ DataW.trod enc P w base spare held n f.type [c] = some y := by
  subst hk
  obtain ⟨cs, rfl, hsz⟩ := okWide_struct hs hv
  obtain ⟨l⟩ := cs
  obtain ⟨fuel, hf⟩ := h
  obtain ⟨xs, n, _, hx, _, hlen, hg⟩ := DataW.trod_struct hs hf
  simp only [Prod.mk.injEq] at hx
  refine ⟨l, rfl, hsz.trans hC, n, xs, hx.1, hx.2, hlen, fun j f c hj hc => ?_⟩
  obtain ⟨o, k⟩ := hone_of hone j f hj
  have hg' := hg j f hj
  have hlt : j < fs.size := (Array.getElem?_eq_some_iff.1 hj).1
  have hlt' : j < l.length := (List.getElem?_eq_some_iff.1 hc).1
  have hys : xs[j]? = some (xs[j]'(by omega)) := List.getElem?_eq_getElem (by omega)
  refine ⟨_, hys, ?_⟩
  rw [← hys, ← hg', o, k]
  show _ = DataW.trod enc P w base spare held n f.type ((l.drop j).take 1)
  rw [List.drop_eq_getElem_cons hlt', List.take_succ_cons, List.take_zero, (List.getElem?_eq_some_iff.1 hc).2]
theorem list_of1 (cs : List Value) (h : cs.length = 1) : ∃ z0, cs = [z0] := by
  match cs, h with
  | [z0], _ => exact ⟨z0, rfl⟩
theorem list_of2 (cs : List Value) (h : cs.length = 2) : ∃ z0 z1, cs = [z0, z1] := by
  match cs, h with
  | [z0, z1], _ => exact ⟨z0, z1, rfl⟩
theorem list_of3 (cs : List Value) (h : cs.length = 3) : ∃ z0 z1 z2, cs = [z0, z1, z2] := by
  match cs, h with
  | [z0, z1, z2], _ => exact ⟨z0, z1, z2, rfl⟩
theorem list_of4 (cs : List Value) (h : cs.length = 4) : ∃ z0 z1 z2 z3, cs = [z0, z1, z2, z3] := by
  match cs, h with
  | [z0, z1, z2, z3], _ => exact ⟨z0, z1, z2, z3, rfl⟩
theorem list_of5 (cs : List Value) (h : cs.length = 5) : ∃ z0 z1 z2 z3 z4, cs = [z0, z1, z2, z3, z4] := by
  match cs, h with
  | [z0, z1, z2, z3, z4], _ => exact ⟨z0, z1, z2, z3, z4, rfl⟩
theorem list_of6 (cs : List Value) (h : cs.length = 6) : ∃ z0 z1 z2 z3 z4 z5, cs = [z0, z1, z2, z3, z4, z5] := by
  match cs, h with
  | [z0, z1, z2, z3, z4, z5], _ => exact ⟨z0, z1, z2, z3, z4, z5, rfl⟩
theorem list_of7 (cs : List Value) (h : cs.length = 7) : ∃ z0 z1 z2 z3 z4 z5 z6, cs = [z0, z1, z2, z3, z4, z5, z6] := by
  match cs, h with
  | [z0, z1, z2, z3, z4, z5, z6], _ => exact ⟨z0, z1, z2, z3, z4, z5, z6, rfl⟩
theorem list_of8 (cs : List Value) (h : cs.length = 8) : ∃ z0 z1 z2 z3 z4 z5 z6 z7, cs = [z0, z1, z2, z3, z4, z5, z6, z7] := by
  match cs, h with
  | [z0, z1, z2, z3, z4, z5, z6, z7], _ => exact ⟨z0, z1, z2, z3, z4, z5, z6, z7, rfl⟩
theorem list_of9 (cs : List Value) (h : cs.length = 9) : ∃ z0 z1 z2 z3 z4 z5 z6 z7 z8, cs = [z0, z1, z2, z3, z4, z5, z6, z7, z8] := by
  match cs, h with
  | [z0, z1, z2, z3, z4, z5, z6, z7, z8], _ => exact ⟨z0, z1, z2, z3, z4, z5, z6, z7, z8, rfl⟩
theorem list_of10 (cs : List Value) (h : cs.length = 10) : ∃ z0 z1 z2 z3 z4 z5 z6 z7 z8 z9, cs = [z0, z1, z2, z3, z4, z5, z6, z7, z8, z9] := by
  match cs, h with
  | [z0, z1, z2, z3, z4, z5, z6, z7, z8, z9], _ => exact ⟨z0, z1, z2, z3, z4, z5, z6, z7, z8, z9, rfl⟩
theorem list_of11 (cs : List Value) (h : cs.length = 11) : ∃ z0 z1 z2 z3 z4 z5 z6 z7 z8 z9 z10, cs = [z0, z1, z2, z3, z4, z5, z6, z7, z8, z9, z10] := by
  match cs, h with
  | [z0, z1, z2, z3, z4, z5, z6, z7, z8, z9, z10], _ => exact ⟨z0, z1, z2, z3, z4, z5, z6, z7, z8, z9, z10, rfl⟩
theorem list_of12 (cs : List Value) (h : cs.length = 12) : ∃ z0 z1 z2 z3 z4 z5 z6 z7 z8 z9 z10 z11, cs = [z0, z1, z2, z3, z4, z5, z6, z7, z8, z9, z10, z11] := by
  match cs, h with
  | [z0, z1, z2, z3, z4, z5, z6, z7, z8, z9, z10, z11], _ => exact ⟨z0, z1, z2, z3, z4, z5, z6, z7, z8, z9, z10, z11, rfl⟩
theorem list_of13 (cs : List Value) (h : cs.length = 13) : ∃ z0 z1 z2 z3 z4 z5 z6 z7 z8 z9 z10 z11 z12, cs = [z0, z1, z2, z3, z4, z5, z6, z7, z8, z9, z10, z11, z12] := by
  match cs, h with
  | [z0, z1, z2, z3, z4, z5, z6, z7, z8, z9, z10, z11, z12], _ => exact ⟨z0, z1, z2, z3, z4, z5, z6, z7, z8, z9, z10, z11, z12, rfl⟩
theorem list_of14 (cs : List Value) (h : cs.length = 14) : ∃ z0 z1 z2 z3 z4 z5 z6 z7 z8 z9 z10 z11 z12 z13, cs = [z0, z1, z2, z3, z4, z5, z6, z7, z8, z9, z10, z11, z12, z13] := by
  match cs, h with
  | [z0, z1, z2, z3, z4, z5, z6, z7, z8, z9, z10, z11, z12, z13], _ => exact ⟨z0, z1, z2, z3, z4, z5, z6, z7, z8, z9, z10, z11, z12, z13, rfl⟩
end Go.Proofs.Ytecaahcmebdglaa

/- One pipe in a memory with other blocks in it. -/
import Derived.Test.YtecaahcmebdglaaPipX
namespace Go.Proofs.Ytecaahcmebdglaa
open Go.RowKit
set_option linter.unusedVariables false
/-- A pipe behind w0 that owns none of the blocks of X. -/
def JP (w0 : World) (X : Nat → Prop) (W : World) (g cN : Nat) (who k : Int) (l : List Nat) : Prop := ∃ Z : Nat → Prop, Pp Z W g (cN : Int) who k l ∧ (∀ q, Z q → w0.heap.size ≤ q ∧ q < W.heap.size ∧ ¬ X q) ∧ Below w0.heap.size w0 W
section
variable {w0 : World} {X : Nat → Prop} {g cN N : Nat} {who k : Int} {l : List Nat} {row : List (Int × Int)}
theorem JP.later {W W' : World} (h : JP w0 X W g cN who k l) (hb : Below W.heap.size W W') : JP w0 X W' g cN who k l := by
  obtain ⟨Z, h1, hz, hw⟩ := h
  exact ⟨Z, h1.later hb, fun q hq => ⟨(hz q hq).1, Nat.lt_of_lt_of_le (hz q hq).2.1 hb.size, (hz q hq).2.2⟩, hw.trans (hb.mono hw.size)⟩
theorem JP.drewN {W : World} (h : JP w0 X W g cN who k l) (n : Nat) : JP w0 X (W.drewN n) g cN who k l := h.later ⟨rfl, rfl, rfl, Nat.le_refl _, fun _ _ => rfl⟩
theorem JP.below {W : World} (h : JP w0 X W g cN who k l) : Below w0.heap.size w0 W := by
  obtain ⟨Z, h1, hz, hw⟩ := h
  exact hw
theorem JP.cell {W : World} (h : JP w0 X W g cN who k l) {p : Addr} {v : Value} (hc : w0.cell? p = some v) : W.cell? p = some v := (h.below.cell (cell_lt hc)).trans hc
/-- Blocks of X may turn. -/
theorem JP.turned {W W' : World} (h : JP w0 X W g cN who k l) (ht : Turned X W W') (hX : ∀ q, X q → w0.heap.size ≤ q) : JP w0 X W' g cN who k l := by
  obtain ⟨Z, h1, hz, hw⟩ := h
  exact ⟨Z, h1.turned ht (fun q hq => (hz q hq).2.2), fun q hq => ⟨(hz q hq).1, Nat.lt_of_lt_of_le (hz q hq).2.1 ht.size, (hz q hq).2.2⟩, hw.trans (ht.below hX hw.size)⟩
theorem JP.step {W : World} {f : FuncId} {args : Array Value} {E : Ending} {k' : Int} {l' : List Nat} (hJ : JP w0 X W g cN who k l) (hX : ∀ q, X q → q < W.heap.size)
    (hf : ∀ Z, Pp Z W g (cN : Int) who k l → Calls Try.prog f args W fun e w' => e = E ∧ Pp (fun q => Z q ∨ W.heap.size ≤ q) w' g (cN : Int) who k' l' ∧ Turned Z W w') : Calls Try.prog f args W fun e w' => e = E ∧ JP w0 X w' g cN who k' l' ∧ Turned (fun q => ¬ X q) W w' := by
  obtain ⟨Z, h1, hz, hw⟩ := hJ
  refine (hf Z h1).mono ?_
  rintro e w' ⟨rfl, hP, hT⟩
  refine ⟨rfl, ⟨_, hP.lt, fun q hq => ?_, hw.trans (hT.below (fun q h => (hz q h).1) hw.size)⟩, hT.mono (fun q hq => .inl (hz q hq).2.2)⟩
  rcases hq.1 with h | h
  · exact ⟨(hz q h).1, hq.2, (hz q h).2.2⟩
  · exact ⟨Nat.le_trans hw.size h, hq.2, fun hx => by have := hX q hx; omega⟩
theorem jp_commit (W : World) (h : JP w0 X W g cN who k l) : Calls Try.prog 38 #[.pointer (some ⟨g, 0, none⟩)] W fun e w' => e = .returned (.int .i64 k) ∧ ∃ m, w' = W.drewN m := by
  obtain ⟨Z, h1, hz, hw⟩ := h
  exact h1.commit
theorem jp_head (hS : SR cN who k l row N) (W : World) (h : JP w0 X W g cN who k l) : Calls Try.prog 39 #[.pointer (some ⟨g, 0, none⟩)] W fun e w' => e = .returned (.int .i64 (k + (l.length : Int))) ∧ ∃ m, w' = W.drewN m := by
  obtain ⟨Z, h1, hz, hw⟩ := h
  exact h1.head hS.k0 hS.k1
theorem jp_due (hS : SR cN who k l row N) (W : World) (op : Int) (h : JP w0 X W g cN who k l) : Calls Try.prog 40 #[.pointer (some ⟨g, 0, none⟩), .int .i64 op] W fun e w' => ∃ v, e = .returned v ∧ Read1 w' v (dueL cN k l op) ∧ Below W.heap.size W w' := by
  obtain ⟨Z, h1, hz, hw⟩ := h
  exact due_any h1 rfl hS.five hS.k0 hS.k1 hS.rel.small op
theorem jp_add {W : World} (hS : SR cN who k l row N) (hX : ∀ q, X q → q < W.heap.size) (h : JP w0 X W g cN who k l) : Calls Try.prog 36 #[.pointer (some ⟨g, 0, none⟩)] W fun e w' =>
    e = .returned (.tuple #[.int .i64 (if full k l then 0 else k + l.length + 1), .int .i64 (if full k l then 9 else 0)]) ∧ JP w0 X w' g cN who k (if full k l then l else l ++ [Quo.wth 0 who]) ∧ Turned (fun q => ¬ X q) W w' := by
  have h5 := hS.five
  have hw := hS.w
  exact h.step hX (fun Z hP => add_any hP (by omega) hS.k0 hS.k1)
theorem jp_keep {W : World} (hS : SR cN who k l row N) (hX : ∀ q, X q → q < W.heap.size) (h : JP w0 X W g cN who k l) (op f : Int) : Calls Try.prog 37 #[.pointer (some ⟨g, 0, none⟩), .int .i64 op, .int .i64 f] W fun e w' =>
    e = .returned (.int .i64 (kErr cN k l op f)) ∧ JP w0 X w' g cN who (k + (kDone cN k l op f : Nat)) ((kSet cN k l op f).drop (kDone cN k l op f)) ∧ Turned (fun q => ¬ X q) W w' := by
  have hc := hS.rel.cnt
  exact h.step hX (fun Z hP => kept_any hP (by omega) hS.k0 hS.k1 hS.rel.small op f)
theorem jp_new (w0 w : World) (hb : Below w0.heap.size w0 w) (hX : ∀ q, X q → q < w.heap.size) (who k hd : Int) (hc : cN = 3 ∨ cN = 5) (hw : 1 ≤ who ∧ who ≤ cN) (h0 : 0 ≤ k) (h1 : hd ≤ 72057594037927935) (h2 : k ≤ hd) (h3 : hd - k ≤ 16) : Calls Try.prog 35 #[.int .i64 (cN : Int), .int .i64 who, .int .i64 k, .int .i64 hd] w fun e w' =>
    e = .returned (.tuple #[.pointer (some ⟨w.heap.size, 0, none⟩), .int .i64 0]) ∧ JP w0 X w' w.heap.size cN who k (List.replicate (hd - k).toNat (Quo.wth 0 who)) ∧ Below w.heap.size w w' := by
  refine (new_ok cN who k hd w (by omega) hw h0 h1 h2 h3).mono ?_
  rintro e w' ⟨rfl, hP, hbb⟩
  refine ⟨rfl, ⟨_, hP.lt, fun q hq => ⟨Nat.le_trans hb.size hq.1, hq.2, fun hx => by have := hX q hx; have := hq.1; omega⟩, hb.trans (hbb.mono hb.size)⟩, hbb⟩
end
theorem SR.first (cN : Nat) (who k : Int) (hc : cN = 3 ∨ cN = 5) (hw : 1 ≤ who ∧ who ≤ cN) (h0 : 0 ≤ k) (m : Nat) (h1 : k + m ≤ 72057594037927935) (hm : m ≤ 16) : SR cN who k (List.replicate m (Quo.wth 0 who)) ((List.range m).map (fun (i : Nat) => (k + 1 + (i : Int), who))) 16 :=
  ⟨Pip.Rel.new cN k who hc hw m, hw, h0, by rw [List.length_replicate]; omega, by rw [List.length_replicate]; omega, by simp; omega⟩
end Go.Proofs.Ytecaahcmebdglaa

/- An argument that is a slice of acts of mail: its rows. -/
import Derived.Test.YtnldjddmchfcoaaRows
import Derived.Test.YtnldjddmchfcoaaAgg
import Derived.Test.YtnldjddmchfcoaaSlS
namespace Go.Proofs.Ytnldjddmchfcoaa
open Go.ChangeShapes Go.WideShapes Go.RowKit Go.Deep
theorem open_rows {H : Type} {enc : TypeId × Value → H} {P : Program} {w : World} {base : Nat} {spare : Nat → Bool} {held : Bool} {t e : TypeId} {ad : Option Addr} {len cap : Nat} {d : DataW H} {p : List MemPlace}
    (ht : P.underlying t = some (.slice e)) (k : Nat) (hC : P.cellsOf e = k) (hcs : ∀ n (r : List Value) y, DataW.trod enc P w base spare held n e r = some y → r.length = k) (h : DataW.Trod enc P w base spare held t (.slice ad len cap) d p) :
    ∃ l : List (List Value), len = l.length ∧ l.length ≤ cap ∧ cap ≤ maxLen ∧ RowsAt w ad k l ∧ ∀ r ∈ l, r.length = k ∧ ∃ y n, DataW.trod enc P w base spare held n e r = some y := by
  obtain ⟨fuel, hf⟩ := h
  rcases open_slice ht hf with ⟨hcs', _⟩ | ⟨a, ln, cp, m, n, D, Pl, hcs', _, hl, hm, hmm, _, hi⟩
  · simp [Value.cells] at hcs'
    obtain ⟨rfl, rfl, rfl⟩ := hcs'
    exact ⟨[], rfl, Nat.le_refl _, by unfold maxLen; omega, ⟨fun _ => rfl, fun ad h => by cases h⟩, fun r hr => by cases hr⟩
  · simp [Value.cells] at hcs'
    obtain ⟨rfl, rfl, rfl⟩ := hcs'
    have hlm : len ≤ m := by
      rw [hmm]
      split
      · exact hl
      · exact Nat.le_refl _
    obtain ⟨F, hF⟩ : ∃ F : Nat → List Value, ∀ i, i < m → w.cells? base (a.add (i * P.cellsOf e)) (P.cellsOf e) = some (F i) ∧ DataW.trod enc P w base spare held n e (F i) = some (D i, Pl i) := by
      refine ⟨fun i => if h : i < m then (hi i h).choose else [], fun i h => ?_⟩
      simp only [dif_pos h]
      exact (hi i h).choose_spec
    refine ⟨(List.range len).map F, by simp, by simp; exact hl, hm, ⟨(fun h => by cases h), fun ad had i r hr j u hu => ?_⟩, fun r hr => ?_⟩
    · injection had with had
      subst had
      rw [List.getElem?_map] at hr
      obtain ⟨i', hi', rfl⟩ := Option.map_eq_some_iff.1 hr
      obtain ⟨hlt, rfl⟩ := List.getElem?_eq_some_iff.1 hi'
      rw [List.length_range] at hlt
      rw [List.getElem_range] at hu
      obtain ⟨hc, ht'⟩ := hF i (by omega)
      have hlen := hcs _ _ _ ht'
      rw [hC] at hc
      obtain ⟨_, hcl, hat⟩ := World.cells?_some hc
      have hj : j < k := by
        have := (List.getElem?_eq_some_iff.1 hu).1
        omega
      rw [← Go.Deep.add_add, hat j hj]
      exact hu
    · obtain ⟨i, hi', rfl⟩ := List.mem_map.1 hr
      have hlt := List.mem_range.1 hi'
      obtain ⟨hc, ht'⟩ := hF i (by omega)
      exact ⟨hcs _ _ _ ht', _, _, ht'⟩
theorem open_acts {H : Type} {enc : TypeId × Value → H} {w : World} {base : Nat} {spare : Nat → Bool} {held : Bool} {ad : Option Addr} {len cap : Nat} {d : DataW H} {p : List MemPlace}
    (h : DataW.Trod enc Try.prog w base spare held 32 (.slice ad len cap) d p) :
    ∃ l : List (List Value), len = l.length ∧ l.length ≤ cap ∧ cap ≤ maxLen ∧ RowsAt w ad 4 l ∧ ∀ r ∈ l, ∃ (c0 c1 c2 : Int) (c3 : ByteArray), r = [.int .i64 c0, .int .i64 c1, .int .i64 c2, .string c3] ∧ (-9223372036854775808 ≤ c0 ∧ c0 ≤ 9223372036854775807) ∧ (-9223372036854775808 ≤ c1 ∧ c1 ≤ 9223372036854775807) ∧ (-9223372036854775808 ≤ c2 ∧ c2 ≤ 9223372036854775807) := by
  have k3 : Try.prog.cellsOf 3 = 1 := by kernel_rfl
  have k9 : Try.prog.cellsOf 9 = 1 := by kernel_rfl
  have k40 : Try.prog.cellsOf 40 = 3 := by kernel_rfl
  have k42 : Try.prog.cellsOf 42 = 4 := by kernel_rfl
  obtain ⟨l, h1, h2, h3, h4, h5⟩ := open_rows Try.underlying32 4 k42 (fun n r y hy => by
    obtain ⟨xs, n', _, _, hcl, _⟩ := DataW.trod_struct Try.underlying42 hy
    rw [k42] at hcl
    exact hcl) h
  refine ⟨l, h1, h2, h3, h4, fun r hr => ?_⟩
  obtain ⟨hl, y, n, ht⟩ := h5 r hr
  obtain ⟨e0, e1, e2, e3, rfl⟩ := list_of4 r hl
  obtain ⟨xs, n', _, _, _, hxl, hff⟩ := DataW.trod_struct Try.underlying42 ht
  have f0 : DataW.trod enc Try.prog w base spare held n' 3 (([e0, e1, e2, e3].drop 0).take (Try.prog.cellsOf 3)) = xs[0]? := hff 0 _ rfl
  have f1 : DataW.trod enc Try.prog w base spare held n' 40 (([e0, e1, e2, e3].drop 1).take (Try.prog.cellsOf 40)) = xs[1]? := hff 1 _ rfl
  rw [k3] at f0
  rw [k40] at f1
  simp at f0 f1 hxl
  rw [List.getElem?_eq_getElem (by omega)] at f0 f1
  obtain ⟨c0, q0, -, w0⟩ := DataW.trod_int Try.underlying3 f0
  obtain rfl := (List.cons.inj q0).1
  obtain ⟨ys, n2, _, _, _, hyl, hgg⟩ := DataW.trod_struct Try.underlying40 f1
  have g0 : DataW.trod enc Try.prog w base spare held n2 3 (([e1, e2, e3].drop 0).take (Try.prog.cellsOf 3)) = ys[0]? := hgg 0 _ rfl
  have g1 : DataW.trod enc Try.prog w base spare held n2 3 (([e1, e2, e3].drop 1).take (Try.prog.cellsOf 3)) = ys[1]? := hgg 1 _ rfl
  have g2 : DataW.trod enc Try.prog w base spare held n2 9 (([e1, e2, e3].drop 2).take (Try.prog.cellsOf 9)) = ys[2]? := hgg 2 _ rfl
  rw [k3] at g0 g1
  rw [k9] at g2
  simp at g0 g1 g2 hyl
  rw [List.getElem?_eq_getElem (by omega)] at g0 g1 g2
  obtain ⟨c1, q1, -, w1⟩ := DataW.trod_int Try.underlying3 g0
  obtain rfl := (List.cons.inj q1).1
  obtain ⟨c2, q2, -, w2⟩ := DataW.trod_int Try.underlying3 g1
  obtain rfl := (List.cons.inj q2).1
  obtain ⟨c3, q3, -⟩ := DataW.trod_string Try.underlying9 g2
  obtain rfl := (List.cons.inj q3).1
  exact ⟨c0, c1, c2, c3, rfl, bounds_i64 w0, bounds_i64 w1, bounds_i64 w2⟩
end Go.Proofs.Ytnldjddmchfcoaa

/- An argument that is a slice of structs whose fields take one cell each: its rows. -/
import Derived.Test.YtecaahcmebdglaaRows
import Derived.WalkKit
import Derived.OpenShut
import Derived.WideShapes
import Derived.ChangeSame
import Derived.Deep.Slices
import Derived.Deep.Fields
namespace Go.Proofs.Ytecaahcmebdglaa
open Go.ChangeShapes Go.WideShapes Go.RowKit Go.Deep
/-- A slice of rows of k cells each. -/
def RowsAt (w : World) (p : Option Addr) (k : Nat) (l : List (List Value)) : Prop := (p = none → l = []) ∧ ∀ ad, p = some ad → ∀ i r, l[i]? = some r → ∀ j u, r[j]? = some u → w.cell? (ad.add (i * k + j)) = some u
theorem open_structs {H : Type} {enc : TypeId × Value → H} {P : Program} {w : World} {base : Nat} {spare : Nat → Bool} {held : Bool} {t e : TypeId} {fs : Array Field} {ad : Option Addr} {len cap : Nat} {d : DataW H} {p : List MemPlace}
    (ht : P.underlying t = some (.slice e)) (he : P.underlying e = some (.struct fs)) (hone : oneCellFields P fs = true) (k : Nat) (hk : fs.size = k) (hC : P.cellsOf e = k) (h : DataW.Trod enc P w base spare held t (.slice ad len cap) d p) :
    ∃ l : List (List Value), len = l.length ∧ l.length ≤ cap ∧ cap ≤ maxLen ∧ RowsAt w ad k l ∧ ∀ r ∈ l, r.length = k ∧ ∀ (j : Nat) (f : Field) (u : Value), fs[j]? = some f → r[j]? = some u → ∃ y n, DataW.trod enc P w base spare held n f.type [u] = some y := by
  subst hk
  obtain ⟨fuel, hf⟩ := h
  rcases open_slice ht hf with ⟨hcs, _⟩ | ⟨a, ln, cp, m, n, D, Pl, hcs, _, hl, hm, hmm, _, hi⟩
  · simp [Value.cells] at hcs
    obtain ⟨rfl, rfl, rfl⟩ := hcs
    exact ⟨[], rfl, Nat.le_refl _, by unfold maxLen; omega, ⟨fun _ => rfl, fun ad h => by cases h⟩, fun r hr => by cases hr⟩
  · simp [Value.cells] at hcs
    obtain ⟨rfl, rfl, rfl⟩ := hcs
    have hlm : len ≤ m := by
      rw [hmm]
      split
      · exact hl
      · exact Nat.le_refl _
    obtain ⟨F, hF⟩ : ∃ F : Nat → List Value, ∀ i, i < m → w.cells? base (a.add (i * P.cellsOf e)) (P.cellsOf e) = some (F i) ∧ DataW.trod enc P w base spare held n e (F i) = some (D i, Pl i) := by
      refine ⟨fun i => if h : i < m then (hi i h).choose else [], fun i h => ?_⟩
      simp only [dif_pos h]
      exact (hi i h).choose_spec
    refine ⟨(List.range len).map F, by simp, by simp; exact hl, hm, ⟨(fun h => by cases h), fun ad had i r hr j u hu => ?_⟩, fun r hr => ?_⟩
    · injection had with had
      subst had
      rw [List.getElem?_map] at hr
      obtain ⟨i', hi', rfl⟩ := Option.map_eq_some_iff.1 hr
      obtain ⟨hlt, rfl⟩ := List.getElem?_eq_some_iff.1 hi'
      rw [List.length_range] at hlt
      rw [List.getElem_range] at hu
      obtain ⟨hc, _⟩ := hF i (by omega)
      rw [hC] at hc
      obtain ⟨_, hcl, hat⟩ := World.cells?_some hc
      have hj : j < fs.size := by
        have := (List.getElem?_eq_some_iff.1 hu).1
        omega
      rw [← Go.Deep.add_add, hat j hj]
      exact hu
    · obtain ⟨i, hi', rfl⟩ := List.mem_map.1 hr
      have hlt := List.mem_range.1 hi'
      obtain ⟨hc, ht'⟩ := hF i (by omega)
      rw [hC] at hc
      obtain ⟨_, hcl, hat⟩ := World.cells?_some hc
      obtain ⟨ys, n', _, hy, hlen, hyl, hff⟩ := DataW.trod_struct he ht'
      refine ⟨hcl, fun j f u hj hu => ?_⟩
      obtain ⟨ho, hk⟩ := hone_of hone j f hj
      have hjl : j < (F i).length := (List.getElem?_eq_some_iff.1 hu).1
      have h1 := hff j f hj
      rw [ho, hk, List.drop_eq_getElem_cons hjl, List.take_succ_cons, List.take_zero, (List.getElem?_eq_some_iff.1 hu).2] at h1
      have hjs : j < ys.length := by rw [hyl]; exact (Array.getElem?_eq_some_iff.1 hj).1
      rw [List.getElem?_eq_getElem hjs] at h1
      exact ⟨_, n', h1⟩
theorem slice_cell {H : Type} {enc : TypeId × Value → H} {P : Program} {w : World} {base : Nat} {spare : Nat → Bool} {held : Bool} {t e : TypeId} {fuel : Nat} {u : Value} {y : DataW H × List MemPlace} (ht : P.underlying t = some (.slice e)) (h : DataW.trod enc P w base spare held fuel t [u] = some y) : ∃ q n c, u = .slice q n c := by
  rcases open_slice ht h with ⟨q, _⟩ | ⟨a, ln, cp, m, n, D, Pl, q, _⟩
  · exact ⟨none, 0, 0, (List.cons.inj q).1⟩
  · exact ⟨some a, ln, cp, (List.cons.inj q).1⟩
/-- A slice of ints. -/
def IntsAt (w : World) (p : Option Addr) (l : List Int) : Prop := (p = none → l = []) ∧ ∀ ad, p = some ad → ∀ (i : Nat) (x : Int), l[i]? = some x → w.cell? (ad.add i) = some (.int .i64 x)
theorem intsAt_nil (w : World) : IntsAt w none [] := ⟨fun _ => rfl, fun ad h => by cases h⟩
theorem intsAt_of {w : World} {x : Addr} {len cap : Nat} {zs : List Int} (hl : len ≤ cap) (hz : zs.length = cap) (hcell : ∀ i, i < zs.length → w.cell? (x.add i) = some (.int .i64 (zs.getD i 0))) (hwz : ∀ n ∈ zs, (Lit.int .i64 n).wf = true) :
    ∃ L : List Int, len = L.length ∧ IntsAt w (some x) L ∧ ∀ n ∈ L, -9223372036854775808 ≤ n ∧ n ≤ 9223372036854775807 := by
  refine ⟨zs.take len, by rw [List.length_take]; omega, ⟨(fun h => by cases h), fun ad had i y hy => ?_⟩, fun n hn => bounds_i64 (hwz n (List.mem_of_mem_take hn))⟩
  injection had with had
  subst had
  have hi : i < (zs.take len).length := (List.getElem?_eq_some_iff.1 hy).1
  rw [List.length_take] at hi
  rw [List.getElem?_take_of_lt (by omega)] at hy
  rw [hcell i (by omega), List.getD_eq_getElem?_getD, hy]
  rfl
end Go.Proofs.Ytecaahcmebdglaa

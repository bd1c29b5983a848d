/- The numbers of one row of a slice of acts. -/
import Derived.Test.YtecaahcmebdglaaPipX
import Derived.Test.YtecaahcmebdglaaSlS
namespace Go.Proofs.Ytecaahcmebdglaa
open Go.RowKit
set_option linter.unusedVariables false
/-- The numbers of one row of three. -/
theorem row3 {w : World} {ad : Option Addr} {L : List (List Value)} (h : RowsAt w ad 3 L) (ht : ∀ r ∈ L, ∃ (c0 : Int) (c1 : Int) (c2 : Int), r = [.int .i64 c0, .int .i64 c1, .int .i64 c2] ∧ (-9223372036854775808 ≤ c0 ∧ c0 ≤ 9223372036854775807) ∧ (-9223372036854775808 ≤ c1 ∧ c1 ≤ 9223372036854775807) ∧ (-9223372036854775808 ≤ c2 ∧ c2 ≤ 9223372036854775807)) (i : Nat) (hi : i < L.length) :
    ∃ (b off : Nat) (x y z : Int), ad = some ⟨b, off, none⟩ ∧ w.cell? ⟨b, off + i * 3, none⟩ = some (.int .i64 x) ∧ w.cell? ⟨b, off + i * 3 + 1, none⟩ = some (.int .i64 y) ∧ w.cell? ⟨b, off + i * 3 + 2, none⟩ = some (.int .i64 z) ∧ (-9223372036854775808 ≤ y ∧ y ≤ 9223372036854775807) ∧ (-9223372036854775808 ≤ z ∧ z ≤ 9223372036854775807) := by
  obtain ⟨x, y, z, hr, _, hy, hz⟩ := ht L[i] (List.getElem_mem hi)
  have hg : L[i]? = some [.int .i64 x, .int .i64 y, .int .i64 z] := by rw [List.getElem?_eq_getElem hi, hr]
  cases ad with
  | none => rw [h.1 rfl] at hi; exact absurd hi (by simp)
  | some a =>
    obtain ⟨b, off, spot⟩ := a
    have hsp : spot = none := by
      obtain ⟨x0, y0, z0, hr0, _⟩ := ht L[0] (List.getElem_mem (by omega))
      have hg0 : L[0]? = some [.int .i64 x0, .int .i64 y0, .int .i64 z0] := by rw [List.getElem?_eq_getElem (by omega), hr0]
      have h0 := h.2 _ rfl 0 _ hg0 0 _ rfl
      cases spot with
      | none => rfl
      | some q =>
        simp [Addr.add, World.cell?] at h0
        split at h0 <;> simp at h0
    subst hsp
    have hadd : ∀ j, (⟨b, off, none⟩ : Addr).add j = ⟨b, off + j, none⟩ := by intro j; unfold Addr.add; split <;> simp_all
    have h0 := h.2 _ rfl i _ hg 0 _ rfl
    have h1 := h.2 _ rfl i _ hg 1 _ rfl
    have h2 := h.2 _ rfl i _ hg 2 _ rfl
    rw [hadd] at h0 h1 h2
    exact ⟨b, off, x, y, z, rfl, h0, h1, h2, hy, hz⟩
end Go.Proofs.Ytecaahcmebdglaa

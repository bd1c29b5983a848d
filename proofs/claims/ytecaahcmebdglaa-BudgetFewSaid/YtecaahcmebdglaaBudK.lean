/- The plain law of BudgetFew. -/
import Derived.Test.YtecaahcmebdglaaBudJ
namespace Go.Proofs.Ytecaahcmebdglaa
open Go.RowKit
set_option linter.unusedVariables false
namespace Bud
/-- The group's sizes: of three one, of five two. -/
def RF (R F : Nat) : Prop := (R = 3 ∧ F = 1) ∨ (R = 5 ∧ F = 2)
/-- Rots of the journals of F replicas from f on alone. -/
def Few (R F f : Nat) (l : List Bst) : Prop := ∀ x ∈ l, ∃ t n : Nat, t < F ∧ 4 ≤ n ∧ n < 20 ∧ x = rotS ((1 + (f + t) % R : Nat) : Int) (n : Int)
theorem Few.nil (R F f : Nat) : Few R F f [] := fun x h => by cases h
theorem Few.add {R F f : Nat} {l : List Bst} (h : Few R F f l) {t n : Nat} (ht : t < F) (h4 : 4 ≤ n) (h20 : n < 20) : Few R F f (l ++ [rotS ((1 + (f + t) % R : Nat) : Int) (n : Int)]) := by
  intro x hx
  rcases List.mem_append.1 hx with h' | h'
  · exact h x h'
  · exact ⟨t, n, ht, h4, h20, List.mem_singleton.1 h'⟩
def inF (R F f i : Nat) : Bool := (List.range F).any fun t => i == (f + t) % R
theorem inF_iff (R F f i : Nat) : inF R F f i = true ↔ ∃ t, t < F ∧ i = (f + t) % R := by simp [inF]
theorem cnt_few (R F f : Nat) (h : RF R F) (hf : f < R) : cnt (inF R F f) R = F ∧ cnt (inF R (F + 1) f) R = F + 1 := by
  rcases h with ⟨rfl, rfl⟩ | ⟨rfl, rfl⟩
  · have : ∀ f, f < 3 → cnt (inF 3 1 f) 3 = 1 ∧ cnt (inF 3 (1 + 1) f) 3 = 1 + 1 := by decide
    exact this f hf
  · have : ∀ f, f < 5 → cnt (inF 5 2 f) 5 = 2 ∧ cnt (inF 5 (2 + 1) f) 5 = 2 + 1 := by decide
    exact this f hf
theorem rot_rotS {R : Nat} {w n : Nat} (h1 : 1 ≤ w) (h2 : w ≤ R) (h3 : n < 32) : rot (R : Int) (rotS (w : Int) (n : Int)) = true := by
  rw [rot_iff]
  exact ⟨rfl, ⟨by show (1 : Int) ≤ w; omega, by show (w : Int) ≤ R; omega⟩, ⟨by show (0 : Int) ≤ n; omega, by show (n : Int) ≤ 31; omega⟩, ⟨by show (0 : Int) ≤ 0; omega, by show (0 : Int) ≤ 383; omega⟩, by show (1 : Int) ≤ 1; omega, by show (1 : Int) ≤ 255; omega⟩
theorem few_copies {R F f : Nat} {l : List Bst} (h : Few R F f l) (w : Int) : copiesOk R l w := by
  unfold copiesOk
  rw [cnt_none 4 (fun k hk => ?_)]
  · omega
  · cases q : hit R l w k
    · rfl
    · obtain ⟨x, hx, _, _, h4⟩ := (hit_iff _ l w k).1 q
      obtain ⟨t, n, _, h5, _, rfl⟩ := h x hx
      simp only [rotS] at h4
      omega
theorem few_within {R F f : Nat} {l : List Bst} (hRF : RF R F) (hf : f < R) (h : Few R F f l) : within R 1 l = true := by
  have hm : may R 1 = true := by rw [may_iff]; unfold RF at hRF; omega
  refine within_yes ⟨hm, fun i _ => few_copies h _, fun s hs => ?_⟩
  unfold slotOk
  have h1 := cnt_mono (p := fun i => lost R l ((i : Int) + 1) (s : Int)) (q := inF R F f) (fun k hk => by
    obtain ⟨x, hx, _, hw, _⟩ := (lost_iff _ _ _ _).1 hk
    obtain ⟨t, n, ht, _, _, rfl⟩ := h x hx
    simp only [rotS] at hw
    exact (inF_iff _ _ _ _).2 ⟨t, ht, by omega⟩) (R : Int).toNat
  rw [Int.toNat_natCast, (cnt_few R F f hRF hf).1] at h1
  rw [Int.toNat_natCast]
  unfold RF at hRF
  omega
theorem few_grid {R F f : Nat} {l : List Bst} (h : Few R F f l) : grid R 1 l = false := by
  refine grid_no ?_
  rintro ⟨_, i, _, hc⟩
  obtain ⟨x, hx, _, _, h4⟩ := (checks_iff _ _ _).1 hc
  obtain ⟨t, n, _, _, h5, rfl⟩ := h x hx
  simp only [rotS] at h4
  omega
theorem few_rots {R F w n : Nat} {l : List Bst} (hRF : RF R F) (hx : rotS (w : Int) (n : Int) ∈ l) (h1 : 1 ≤ w) (h2 : w ≤ R) (h3 : n < 32) : rots R 1 l = true := by
  have hm : may R 1 = true := by rw [may_iff]; unfold RF at hRF; omega
  unfold rots
  rw [hm, Bool.true_and, List.any_eq_true]
  exact ⟨_, hx, rot_rotS h1 h2 h3⟩
theorem few_too {R F f s : Nat} {l : List Bst} (hRF : RF R F) (hf : f < R) (hs : s < 8) (h : ∀ t, t < F + 1 → ∃ n : Nat, (n = 4 + s ∨ n = 12 + s) ∧ rotS ((1 + (f + t) % R : Nat) : Int) (n : Int) ∈ l) : within R 1 l = false := by
  refine within_no (fun hw => ?_)
  have h3 := hw.2.2 s hs
  unfold slotOk at h3
  have hR : 0 < R := by omega
  have h1 := cnt_mono (p := inF R (F + 1) f) (q := fun i => lost R l ((i : Int) + 1) (s : Int)) (fun k hk => by
    obtain ⟨t, ht, hk⟩ := (inF_iff _ _ _ _).1 hk
    obtain ⟨n, hn, hx⟩ := h t ht
    have := Nat.mod_lt (f + t) hR
    refine (lost_iff _ _ _ _).2 ⟨_, hx, rot_rotS (by omega) (by omega) (by omega), ?_, ?_⟩
    · simp only [rotS]; omega
    · simp only [rotS]; omega) (R : Int).toNat
  rw [Int.toNat_natCast, (cnt_few R F f hRF hf).2] at h1
  rw [Int.toNat_natCast] at h3
  unfold RF at hRF
  omega
end Bud
end Go.Proofs.Ytecaahcmebdglaa

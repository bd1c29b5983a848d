/- The sets that a law keeps beside a pipe. -/
import Derived.Test.YtecaahcmebdglaaPipY
namespace Go.Proofs.Ytecaahcmebdglaa
open Go.RowKit
set_option linter.unusedVariables false
theorem done_spec (c : Int) : ∀ (l : List Nat) (i : Nat), i < Pip.done c l → ∃ s, l[i]? = some s ∧ Quo.enough c ≤ Quo.size s
  | [], i, h => by simp [Pip.done] at h
  | s :: r, i, h => by
    unfold Pip.done at h
    by_cases q : Quo.enough c ≤ Quo.size s
    · rw [if_pos q] at h
      cases i with
      | zero => exact ⟨s, rfl, q⟩
      | succ i =>
        obtain ⟨t, h1, h2⟩ := done_spec c r i (by omega)
        exact ⟨t, h1, h2⟩
    · rw [if_neg q] at h
      omega
structure TS (k0 k : Int) (l T : List Nat) : Prop where
  len : T.length = 81
  small : ∀ x ∈ T, x < 32
  same : ∀ (i s : Nat), l[i]? = some s → T[(k + 1 + i - k0).toNat]? = some s
section
variable {k0 k : Int} {l T : List Nat}
theorem TS.add (h : TS k0 k l T) (hk : k0 ≤ k) (h80 : k + l.length + 1 ≤ k0 + 80) (a : Nat) (ha : a < 32) : TS k0 k (l ++ [a]) (T.set (k + l.length + 1 - k0).toNat a) := by
  obtain ⟨h1, h2, h3⟩ := h
  refine ⟨by rw [List.length_set]; exact h1, fun x hx => ?_, fun i s hi => ?_⟩
  · rcases List.mem_or_eq_of_mem_set hx with hx | rfl
    · exact h2 x hx
    · exact ha
  · rw [List.getElem?_set]
    by_cases q : i < l.length
    · rw [List.getElem?_append_left q] at hi
      rw [if_neg (by omega)]
      exact h3 i s hi
    · rw [List.getElem?_append_right (by omega)] at hi
      have hi0 : i = l.length := by
        have := (List.getElem?_eq_some_iff.1 hi).1
        rw [List.length_singleton] at this
        omega
      subst hi0
      rw [Nat.sub_self] at hi
      rw [if_pos (by omega), if_pos (by omega)]
      exact hi
theorem TS.set_ (h : TS k0 k l T) (hk : k0 ≤ k) (h80 : k + l.length ≤ k0 + 80) (i a : Nat) (hi : i < l.length) (ha : a < 32) : TS k0 k (l.set i a) (T.set (k + 1 + i - k0).toNat a) := by
  obtain ⟨h1, h2, h3⟩ := h
  refine ⟨by rw [List.length_set]; exact h1, fun x hx => ?_, fun n s hn => ?_⟩
  · rcases List.mem_or_eq_of_mem_set hx with hx | rfl
    · exact h2 x hx
    · exact ha
  · rw [List.getElem?_set] at hn ⊢
    by_cases q : i = n
    · subst q
      rw [if_pos rfl, if_pos hi] at hn
      rw [if_pos rfl, if_pos (by omega)]
      exact hn
    · rw [if_neg q] at hn
      rw [if_neg (by omega)]
      exact h3 n s hn
theorem TS.drop (h : TS k0 k l T) (d : Nat) : TS k0 (k + d) (l.drop d) T := by
  obtain ⟨h1, h2, h3⟩ := h
  refine ⟨h1, h2, fun i s hi => ?_⟩
  rw [List.getElem?_drop] at hi
  rw [← h3 (d + i) s hi]
  congr 2
  omega
end
/-- What one call of Kept does to the sets beside. -/
theorem TS.keep {cN : Nat} {k0 k : Int} {l T : List Nat} (h : TS k0 k l T) (hk : k0 ≤ k) (h80 : k + l.length ≤ k0 + 80) (h32 : ∀ s ∈ l, s < 32) (op f : Int) (he : kErr cN k l op f = 0) :
    ∃ s : Nat, s < 32 ∧ k < op ∧ op ≤ k + l.length ∧ T[(op - k0).toNat]? = some s ∧ TS k0 (k + (kDone cN k l op f : Nat)) ((kSet cN k l op f).drop (kDone cN k l op f)) (T.set (op - k0).toNat (Quo.wth s f)) ∧
      ∀ i : Nat, k + 1 + i ≤ k + (kDone cN k l op f : Nat) → ∃ t, t < 32 ∧ (T.set (op - k0).toNat (Quo.wth s f))[(k + 1 + i - k0).toNat]? = some t ∧ Quo.enough cN ≤ Quo.size t := by
  have ho : (1 ≤ f ∧ f ≤ (cN : Int)) ∧ (k < op ∧ op ≤ k + l.length) := by
    unfold kErr at he
    by_cases q : 1 ≤ f ∧ f ≤ (cN : Int)
    · rw [if_pos q] at he
      by_cases q2 : k < op ∧ op ≤ k + l.length
      · exact ⟨q, q2⟩
      · rw [if_neg q2] at he; cases he
    · rw [if_neg q] at he; cases he
  obtain ⟨i, hi⟩ : ∃ i : Nat, op = k + 1 + i := ⟨(op - k - 1).toNat, by omega⟩
  have hil : i < l.length := by omega
  have hg : l[i]? = some l[i] := List.getElem?_eq_getElem hil
  have e1 : (op - k - 1).toNat = i := by omega
  have e2 : l.getD i 0 = l[i] := by rw [List.getD_eq_getElem?_getD, hg]; rfl
  have hs := h32 _ (List.mem_of_getElem? hg)
  have h1 := h.set_ hk h80 i (Quo.wth l[i] f) hil (Quo.wth_lt _ _ hs)
  have eS : kSet cN k l op f = l.set i (Quo.wth l[i] f) := by unfold kSet; rw [if_pos ho, e1, e2]
  have eD : kDone cN k l op f = Pip.done cN (l.set i (Quo.wth l[i] f)) := by unfold kDone; rw [if_pos ho, eS]
  refine ⟨l[i], hs, ho.2.1, ho.2.2, by rw [hi]; exact h.same i _ hg, ?_, fun j hj => ?_⟩
  · rw [eS, eD, hi]
    exact h1.drop _
  · rw [eD] at hj
    obtain ⟨t, ht1, ht2⟩ := done_spec cN _ j (show j < Pip.done cN (l.set i (Quo.wth l[i] f)) by omega)
    have h3 := h1.same j t ht1
    rw [hi]
    exact ⟨t, h1.small t (List.mem_of_getElem? h3), h3, ht2⟩
/-- The sets as they lie in memory. -/
def tcells (T : List Nat) : Array Value := (T.map (fun (n : Nat) => Value.int .i64 (n : Int))).toArray
theorem tcells_get {T : List Nat} {i s : Nat} (h : T[i]? = some s) : (tcells T)[i]? = some (.int .i64 (s : Int)) := by
  unfold tcells
  rw [List.getElem?_toArray, List.getElem?_map, h]
  rfl
theorem tcells_set (T : List Nat) (i a : Nat) : (tcells T).setIfInBounds i (.int .i64 (a : Int)) = tcells (T.set i a) := by
  unfold tcells
  rw [List.setIfInBounds_toArray, ← List.map_set]
end Go.Proofs.Ytecaahcmebdglaa

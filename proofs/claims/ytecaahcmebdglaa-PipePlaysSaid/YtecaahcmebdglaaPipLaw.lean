/- The plain law of what is under way. No program in sight. -/
import Derived.Test.YtecaahcmebdglaaQuoLaw
namespace Go.Proofs.Ytecaahcmebdglaa
namespace Pip
open Quo
/-- Of how many, in a row, enough have kept them. -/
def done (c : Int) : List Nat → Nat
  | [] => 0
  | s :: r => if enough c ≤ size s then done c r + 1 else 0
theorem done_le (c : Int) : ∀ l, done c l ≤ l.length
  | [] => Nat.le_refl _
  | s :: r => by
    have := done_le c r
    unfold done
    split <;> simp <;> omega
def hasR (row : List (Int × Int)) (op who : Int) : Bool := row.any (fun p => p.1 == op && p.2 == who)
/-- How many of the first j have kept op. -/
def manyR (row : List (Int × Int)) (op : Int) : Nat → Nat
  | 0 => 0
  | j + 1 => manyR row op j + (hasR row op ((j + 1 : Nat) : Int)).toNat
theorem manyR_le (row : List (Int × Int)) (op : Int) : ∀ j, manyR row op j ≤ j
  | 0 => Nat.le_refl _
  | j + 1 => by
    have := manyR_le row op j
    have h : (hasR row op ((j + 1 : Nat) : Int)).toNat ≤ 1 := by cases hasR row op ((j + 1 : Nat) : Int) <;> decide
    unfold manyR
    omega
def doneR (c : Nat) (row : List (Int × Int)) (k : Int) : Nat → Nat
  | 0 => 0
  | n + 1 => if enough c ≤ manyR row (k + 1) c then doneR c row (k + 1) n + 1 else 0
theorem doneR_le (c : Nat) (row : List (Int × Int)) : ∀ (n : Nat) (k : Int), doneR c row k n ≤ n
  | 0, _ => Nat.le_refl _
  | n + 1, k => by
    have := doneR_le c row n (k + 1)
    unfold doneR
    split <;> omega
structure Rel (c : Nat) (k : Int) (l : List Nat) (row : List (Int × Int)) : Prop where
  cnt : c = 3 ∨ c = 5
  small : ∀ s ∈ l, s < 32
  top : ∀ p ∈ row, p.1 ≤ k + l.length ∧ 1 ≤ p.2 ∧ p.2 ≤ c
  same : ∀ (i s : Nat), l[i]? = some s → ∀ j : Int, 1 ≤ j → j ≤ 5 → has s j = hasR row (k + 1 + i) j
theorem has_zero (j : Int) : has 0 j = false := by simp [has]
theorem has_wth_ne (s : Nat) (a j : Int) (h : a ≠ j) (hj : 1 ≤ j) (ha : 1 ≤ a) : has (wth s a) j = has s j := by
  unfold has wth
  split
  · rw [Nat.testBit_or, Nat.testBit_two_pow]
    have : decide ((a - 1).toNat = (j - 1).toNat) = false := decide_eq_false (by omega)
    rw [this, Bool.or_false]
  · rfl
theorem has_with (s : Nat) (a j : Int) (ha : 1 ≤ a ∧ a ≤ 5) (hj : 1 ≤ j) : has (wth s a) j = (has s j || decide (a = j)) := by
  by_cases h : a = j
  · subst h
    rw [has_wth]
    simp [ha.1, ha.2]
  · rw [has_wth_ne s a j h hj ha.1]
    simp [h]
theorem hasR_append (row : List (Int × Int)) (p : Int × Int) (op who : Int) : hasR (row ++ [p]) op who = (hasR row op who || (p.1 == op && p.2 == who)) := by
  simp [hasR]
theorem hasR_out {c : Nat} {k : Int} {l : List Nat} {row : List (Int × Int)} (h : Rel c k l row) (op who : Int) (ho : k + l.length < op ∨ ¬ (1 ≤ who ∧ who ≤ c)) : hasR row op who = false := by
  unfold hasR
  rw [List.any_eq_false]
  intro p hp
  have := h.top p hp
  simp only [Bool.and_eq_true, beq_iff_eq, not_and]
  intro h1 h2
  subst h1 h2
  omega
theorem Rel.add {c : Nat} {k : Int} {l : List Nat} {row : List (Int × Int)} (h : Rel c k l row) {who : Int} (hw : 1 ≤ who ∧ who ≤ c) : Rel c k (l ++ [wth 0 who]) (row ++ [(k + l.length + 1, who)]) := by
  have hc := h.cnt
  refine ⟨h.cnt, fun s hs => ?_, fun p hp => ?_, fun i s hi j h1 h5 => ?_⟩
  · rw [List.mem_append, List.mem_singleton] at hs
    rcases hs with hs | rfl
    · exact h.small s hs
    · exact wth_lt _ _ (by decide)
  · rw [List.mem_append, List.mem_singleton] at hp
    rw [List.length_append, List.length_singleton]
    rcases hp with hp | rfl
    · have := h.top p hp
      omega
    · exact ⟨by simp; omega, hw⟩
  · rw [hasR_append]
    by_cases hl : i < l.length
    · rw [List.getElem?_append_left hl] at hi
      have e : ((k + (l.length : Int) + 1 == k + 1 + (i : Int)) : Bool) = false := by simp; omega
      rw [h.same i s hi j h1 h5, e]
      simp
    · rw [List.getElem?_append_right (by omega)] at hi
      have hi0 : i = l.length := by
        have := (List.getElem?_eq_some_iff.1 hi).1
        rw [List.length_singleton] at this
        omega
      subst hi0
      rw [Nat.sub_self] at hi
      obtain rfl := Option.some.inj hi
      rw [has_with 0 who j ⟨hw.1, by omega⟩ h1, has_zero, hasR_out h _ _ (.inl (by omega))]
      have e : ((k + (l.length : Int) + 1 == k + 1 + (l.length : Int)) : Bool) = true := by simp; omega
      simp only [e, Bool.true_and, Bool.false_or]
      by_cases q : who = j <;> simp [q]
theorem Rel.keep {c : Nat} {k : Int} {l : List Nat} {row : List (Int × Int)} (h : Rel c k l row) {i : Nat} {s : Nat} (hi : l[i]? = some s) {who : Int} (hw : 1 ≤ who ∧ who ≤ c) : Rel c k (l.set i (wth s who)) (row ++ [(k + 1 + i, who)]) := by
  have hc := h.cnt
  have hil := (List.getElem?_eq_some_iff.1 hi).1
  refine ⟨h.cnt, fun x hx => ?_, fun p hp => ?_, fun n x hn j h1 h5 => ?_⟩
  · rcases List.mem_or_eq_of_mem_set hx with hx | rfl
    · exact h.small x hx
    · exact wth_lt _ _ (h.small s (List.mem_of_getElem? hi))
  · rw [List.mem_append, List.mem_singleton] at hp
    rw [List.length_set]
    rcases hp with hp | rfl
    · exact h.top p hp
    · exact ⟨by simp; omega, hw⟩
  · rw [hasR_append]
    rw [List.getElem?_set] at hn
    by_cases q : i = n
    · subst q
      rw [if_pos rfl, if_pos hil] at hn
      obtain rfl := Option.some.inj hn
      rw [has_with s who j ⟨hw.1, by omega⟩ h1, h.same i s hi j h1 h5]
      by_cases q : who = j <;> simp [q]
    · rw [if_neg q] at hn
      rw [h.same n x hn j h1 h5]
      have e : ((k + 1 + (i : Int) == k + 1 + (n : Int)) : Bool) = false := by simp; omega
      simp [e]
theorem Rel.drop {c : Nat} {k : Int} {l : List Nat} {row : List (Int × Int)} (h : Rel c k l row) (d : Nat) (hd : d ≤ l.length) : Rel c (k + d) (l.drop d) row := by
  refine ⟨h.cnt, fun s hs => h.small s (List.mem_of_mem_drop hs), fun p hp => ?_, fun i s hi j h1 h5 => ?_⟩
  · rw [List.length_drop]
    have := h.top p hp
    omega
  · rw [List.getElem?_drop] at hi
    rw [h.same (d + i) s hi j h1 h5]
    congr 1
    omega
theorem has_bit (s j : Nat) (hj : j < 5) : has s ((j + 1 : Nat) : Int) = s.testBit j := by
  unfold has
  have e : (((j + 1 : Nat) : Int) - 1).toNat = j := by omega
  rw [e]
  have h1 : (1 : Int) ≤ ((j + 1 : Nat) : Int) := by omega
  have h2 : ((j + 1 : Nat) : Int) ≤ 5 := by omega
  simp only [h1, h2, decide_true, Bool.true_and]
theorem Rel.many {c : Nat} {k : Int} {l : List Nat} {row : List (Int × Int)} (h : Rel c k l row) {i s : Nat} (hi : l[i]? = some s) : manyR row (k + 1 + i) c = size s := by
  have hb : ∀ j, j < 5 → hasR row (k + 1 + i) ((j + 1 : Nat) : Int) = s.testBit j := fun j hj => by
    rw [← h.same i s hi _ (by omega) (by omega), has_bit s j hj]
  have hz : ∀ j, j < 5 → c ≤ j → s.testBit j = false := fun j hj hc => by
    rw [← hb j hj]
    exact hasR_out h _ _ (.inr (by omega))
  rcases h.cnt with rfl | rfl
  · simp only [manyR, size, hb 0 (by decide), hb 1 (by decide), hb 2 (by decide), hz 3 (by decide) (by decide), hz 4 (by decide) (by decide), Bool.toNat_false]
    omega
  · simp only [manyR, size, hb 0 (by decide), hb 1 (by decide), hb 2 (by decide), hb 3 (by decide), hb 4 (by decide)]
    omega
theorem Rel.done : ∀ {c : Nat} {k : Int} {l : List Nat} {row : List (Int × Int)}, Rel c k l row → doneR c row k l.length = Pip.done c l
  | c, k, [], row, _ => rfl
  | c, k, s :: r, row, h => by
    have hm := h.many (i := 0) (s := s) rfl
    have ih := Rel.done (h.drop 1 (by simp))
    rw [Int.natCast_zero, Int.add_zero] at hm
    simp only [List.length_cons, doneR, Pip.done, hm]
    rw [show List.drop 1 (s :: r) = r from rfl] at ih
    rw [show k + ((1 : Nat) : Int) = k + 1 from rfl] at ih
    rw [ih]
theorem Rel.new (c : Nat) (k who : Int) (hc : c = 3 ∨ c = 5) (hw : 1 ≤ who ∧ who ≤ c) : ∀ n : Nat, Rel c k (List.replicate n (wth 0 who)) ((List.range n).map (fun (i : Nat) => (k + 1 + (i : Int), who)))
  | 0 => ⟨hc, fun s h => by simp at h, fun p h => by simp at h, fun i s h => by simp at h⟩
  | n + 1 => by
    have := (Rel.new c k who hc hw n).add hw
    rw [List.length_replicate] at this
    rw [List.replicate_succ', List.range_succ, List.map_append]
    have e : k + (n : Int) + 1 = k + 1 + (n : Int) := by omega
    rw [e] at this
    exact this
/-- Who has not kept it, of the first j. -/
def due (f : Int → Bool) : Nat → List Int
  | 0 => []
  | j + 1 => due f j ++ (if f ((j + 1 : Nat) : Int) = true then [] else [((j + 1 : Nat) : Int)])
theorem due_congr {f g : Int → Bool} : ∀ j : Nat, (∀ i : Int, 1 ≤ i → i ≤ j → f i = g i) → due f j = due g j
  | 0, _ => rfl
  | j + 1, h => by
    unfold due
    rw [due_congr j (fun i h1 h2 => h i h1 (by omega)), h _ (by omega) (by omega)]
theorem due_len (f : Int → Bool) : ∀ j, (due f j).length ≤ j
  | 0 => Nat.le_refl _
  | j + 1 => by
    have := due_len f j
    unfold due
    rw [List.length_append]
    split <;> simp <;> omega
theorem Rel.due {c : Nat} {k : Int} {l : List Nat} {row : List (Int × Int)} (h : Rel c k l row) {i s : Nat} (hi : l[i]? = some s) : Pip.due (has s) c = Pip.due (hasR row (k + 1 + i)) c := by
  have hc := h.cnt
  exact due_congr c (fun j h1 h2 => h.same i s hi j h1 (by omega))
theorem due_mem (f : Int → Bool) : ∀ (j : Nat) (x : Int), x ∈ due f j → f x = false ∧ 1 ≤ x ∧ x ≤ j
  | 0, x, h => by cases h
  | j + 1, x, h => by
    unfold due at h
    rw [List.mem_append] at h
    rcases h with h | h
    · have := due_mem f j x h
      exact ⟨this.1, by omega, by omega⟩
    · by_cases q : f ((j + 1 : Nat) : Int) = true
      · rw [if_pos q] at h; cases h
      · rw [if_neg q, List.mem_singleton] at h
        subst h
        exact ⟨by simpa using q, by omega, by omega⟩
theorem due_sorted (f : Int → Bool) : ∀ (j i : Nat) (x y : Int), (due f j)[i]? = some x → (due f j)[i + 1]? = some y → x < y
  | 0, i, x, y, h, _ => by simp [due] at h
  | j + 1, i, x, y, hx, hy => by
    have hxy := due_sorted f j i x y
    unfold due at hx hy
    by_cases q : f ((j + 1 : Nat) : Int) = true
    · rw [if_pos q, List.append_nil] at hx hy
      exact hxy hx hy
    · rw [if_neg q] at hx hy
      have hyl := (List.getElem?_eq_some_iff.1 hy).1
      rw [List.length_append, List.length_singleton] at hyl
      rw [List.getElem?_append_left (by omega)] at hx
      by_cases hl : i + 1 < (due f j).length
      · rw [List.getElem?_append_left hl] at hy
        exact hxy hx hy
      · rw [List.getElem?_append_right (by omega), show i + 1 - (due f j).length = 0 by omega] at hy
        obtain rfl := Option.some.inj hy
        have := (due_mem f j x (List.mem_of_getElem? hx)).2.2
        omega
theorem due_size {s c : Nat} (hc : c = 3 ∨ c = 5) (hs : ∀ j, j < 5 → c ≤ j → s.testBit j = false) : (due (has s) c).length + size s = c := by
  have hb : ∀ j, j < 5 → has s ((j + 1 : Nat) : Int) = s.testBit j := fun j hj => has_bit s j hj
  have hd : ∀ j, (due (has s) (j + 1)).length = (due (has s) j).length + (if has s ((j + 1 : Nat) : Int) = true then 0 else 1) := fun j => by
    rw [due, List.length_append]
    split <;> rfl
  rcases hc with rfl | rfl
  · rw [hd, hd, hd, hb 0 (by decide), hb 1 (by decide), hb 2 (by decide)]
    unfold size
    rw [hs 3 (by decide) (by decide), hs 4 (by decide) (by decide)]
    cases s.testBit 0 <;> cases s.testBit 1 <;> cases s.testBit 2 <;> rfl
  · rw [hd, hd, hd, hd, hd, hb 0 (by decide), hb 1 (by decide), hb 2 (by decide), hb 3 (by decide), hb 4 (by decide)]
    unfold size
    cases s.testBit 0 <;> cases s.testBit 1 <;> cases s.testBit 2 <;> cases s.testBit 3 <;> cases s.testBit 4 <;> rfl
end Pip
end Go.Proofs.Ytecaahcmebdglaa

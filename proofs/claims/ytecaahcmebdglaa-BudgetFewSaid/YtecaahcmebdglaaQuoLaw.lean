/- The plain law of sets of replicas. No program in sight. -/
namespace Go.Proofs.Ytecaahcmebdglaa
namespace Quo
/-- who is in a set (of 0 to 31) -/
def has (s : Nat) (who : Int) : Bool := decide (1 ≤ who) && (decide (who ≤ 5) && s.testBit (who - 1).toNat)
def wth (s : Nat) (who : Int) : Nat := if 1 ≤ who ∧ who ≤ 5 then s ||| 2 ^ (who - 1).toNat else s
def size (s : Nat) : Nat := (s.testBit 0).toNat + (s.testBit 1).toNat + (s.testBit 2).toNat + (s.testBit 3).toNat + (s.testBit 4).toNat
def may (c : Int) : Bool := c == 3 || c == 5
def enough (c : Int) : Int := if c = 3 then 2 else if c = 5 then 3 else 0
def primary (c v : Int) : Int := if (c = 3 ∨ c = 5) ∧ 0 ≤ v then v % c + 1 else 0
theorem wth_lt (s : Nat) (who : Int) (h : s < 32) : wth s who < 32 := by
  unfold wth
  split
  · rename_i hw
    have : (who - 1).toNat < 5 := by omega
    exact Nat.or_lt_two_pow (n := 5) h (Nat.pow_lt_pow_right (by decide) this)
  · exact h
theorem who_cases {who : Int} (h : 1 ≤ who ∧ who ≤ 5) : who = 1 ∨ who = 2 ∨ who = 3 ∨ who = 4 ∨ who = 5 := by omega
theorem has_wth (s : Nat) (who : Int) : has (wth s who) who = (decide (1 ≤ who) && decide (who ≤ 5)) := by
  by_cases hw : 1 ≤ who ∧ who ≤ 5
  · unfold has wth
    rw [if_pos hw]
    simp [hw.1, hw.2]
  · unfold has
    by_cases h1 : 1 ≤ who
    · have : ¬ who ≤ 5 := fun h2 => hw ⟨h1, h2⟩
      simp [this]
    · simp [h1]
/-- the reference's word for a replica's bit -/
def worth (who : Int) : Int := if who = 1 then 1 else if who = 2 then 2 else if who = 3 then 4 else if who = 4 then 8 else if who = 5 then 16 else 0
theorem has_ref (s : Nat) (who : Int) (h : s < 32) (hw : 1 ≤ who ∧ who ≤ 5) : has s who = decide (((s : Int) / worth who) % 2 = 1) := by
  have key : ∀ s : Fin 32, (s.val.testBit 0 = decide (((s.val : Int) / 1) % 2 = 1)) ∧ (s.val.testBit 1 = decide (((s.val : Int) / 2) % 2 = 1)) ∧ (s.val.testBit 2 = decide (((s.val : Int) / 4) % 2 = 1)) ∧ (s.val.testBit 3 = decide (((s.val : Int) / 8) % 2 = 1)) ∧ (s.val.testBit 4 = decide (((s.val : Int) / 16) % 2 = 1)) := by decide
  obtain ⟨k0, k1, k2, k3, k4⟩ := key ⟨s, h⟩
  simp only at k0 k1 k2 k3 k4
  rcases who_cases hw with rfl | rfl | rfl | rfl | rfl <;> unfold has worth
  · exact k0
  · exact k1
  · exact k2
  · exact k3
  · exact k4
theorem wth_ref (s : Nat) (who : Int) (h : s < 32) : (wth s who : Int) = if has s who = true then (s : Int) else s + worth who := by
  by_cases hw : 1 ≤ who ∧ who ≤ 5
  · have key : ∀ s : Fin 32, ∀ k : Fin 5, ((s.val ||| 2 ^ k.val : Nat) : Int) = if s.val.testBit k.val = true then (s.val : Int) else s.val + (2 ^ k.val : Nat) := by decide
    have e : ∀ k : Fin 5, k.val = (who - 1).toNat → (wth s who : Int) = if has s who = true then (s : Int) else s + (2 ^ k.val : Nat) := by
      intro k hk
      have := key ⟨s, h⟩ k
      simp only at this
      unfold wth has
      rw [if_pos hw, ← hk, this]
      simp [hw.1, hw.2]
    rcases who_cases hw with rfl | rfl | rfl | rfl | rfl
    · exact e 0 rfl
    · exact e 1 rfl
    · exact e 2 rfl
    · exact e 3 rfl
    · exact e 4 rfl
  · unfold wth
    rw [if_neg hw]
    have hf : has s who = false := by
      unfold has
      by_cases h1 : 1 ≤ who
      · have : ¬ who ≤ 5 := fun h2 => hw ⟨h1, h2⟩
        simp [this]
      · simp [h1]
    rw [hf]
    have : worth who = 0 := by unfold worth; rw [if_neg (by omega), if_neg (by omega), if_neg (by omega), if_neg (by omega), if_neg (by omega)]
    simp [this]
theorem meets (x y : Nat) (hx : x < 32) (hy : y < 32) (h1 : 3 ≤ size x) (h2 : 3 ≤ size y) : ∃ k : Nat, k < 5 ∧ x.testBit k = true ∧ y.testBit k = true := by
  have key : ∀ x y : Fin 32, 3 ≤ size x.val → 3 ≤ size y.val → ∃ k : Fin 5, x.val.testBit k.val = true ∧ y.val.testBit k.val = true := by decide +kernel
  obtain ⟨k, h⟩ := key ⟨x, hx⟩ ⟨y, hy⟩ h1 h2
  exact ⟨k, k.isLt, h⟩
theorem meets3 (x y : Nat) (hx : x < 8) (hy : y < 8) (h1 : 2 ≤ size x) (h2 : 2 ≤ size y) : ∃ k : Nat, k < 3 ∧ x.testBit k = true ∧ y.testBit k = true := by
  have key : ∀ x y : Fin 8, 2 ≤ size x.val → 2 ≤ size y.val → ∃ k : Fin 3, x.val.testBit k.val = true ∧ y.val.testBit k.val = true := by decide +kernel
  obtain ⟨k, h⟩ := key ⟨x, hx⟩ ⟨y, hy⟩ h1 h2
  exact ⟨k, k.isLt, h⟩
/-- the leaders of k views behind one another -/
def turns (c r : Nat) : Nat → Nat
  | 0 => 0
  | k + 1 => turns c r k ||| 2 ^ ((r + k) % c)
theorem turns_new (c r k : Nat) (hc : c = 3 ∨ c = 5) (hr : r < c) (hk : k < c) : (turns c r k).testBit ((r + k) % c) = false ∧ turns c r k < 32 := by
  have k3 : ∀ r k : Fin 3, (turns 3 r.val k.val).testBit ((r.val + k.val) % 3) = false ∧ turns 3 r.val k.val < 32 := by decide
  have k5 : ∀ r k : Fin 5, (turns 5 r.val k.val).testBit ((r.val + k.val) % 5) = false ∧ turns 5 r.val k.val < 32 := by decide
  rcases hc with rfl | rfl
  · exact k3 ⟨r, hr⟩ ⟨k, hk⟩
  · exact k5 ⟨r, hr⟩ ⟨k, hk⟩
theorem turns_all (c r : Nat) (hc : c = 3 ∨ c = 5) (hr : r < c) : size (turns c r c) = c ∧ turns c r c < 32 := by
  have k3 : ∀ r : Fin 3, size (turns 3 r.val 3) = 3 ∧ turns 3 r.val 3 < 32 := by decide
  have k5 : ∀ r : Fin 5, size (turns 5 r.val 5) = 5 ∧ turns 5 r.val 5 < 32 := by decide
  rcases hc with rfl | rfl
  · exact k3 ⟨r, hr⟩
  · exact k5 ⟨r, hr⟩
/-- the part of a set that lies below k -/
theorem low_succ (a k : Nat) : a % 2 ^ (k + 1) = if a.testBit k = true then (a % 2 ^ k) ||| 2 ^ k else a % 2 ^ k := by
  apply Nat.eq_of_testBit_eq
  intro i
  by_cases hb : a.testBit k = true
  · rw [if_pos hb, Nat.testBit_or, Nat.testBit_mod_two_pow, Nat.testBit_mod_two_pow, Nat.testBit_two_pow]
    by_cases h1 : i < k
    · simp [h1, show i < k + 1 by omega, show k ≠ i by omega]
    · by_cases h2 : i = k
      · subst h2; simp [hb]
      · simp [h1, show ¬ i < k + 1 by omega, show k ≠ i by omega]
  · rw [if_neg hb, Nat.testBit_mod_two_pow, Nat.testBit_mod_two_pow]
    by_cases h1 : i < k
    · simp [h1, show i < k + 1 by omega]
    · by_cases h2 : i = k
      · subst h2; simp at hb; simp [hb]
      · simp [h1, show ¬ i < k + 1 by omega]
end Quo
end Go.Proofs.Ytecaahcmebdglaa

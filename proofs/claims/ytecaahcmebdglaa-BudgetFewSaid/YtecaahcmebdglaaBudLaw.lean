/- The plain law of the budget: what rots, counted as sets of bits, and pair by pair. -/
import Derived.Test.YtecaahcmebdglaaProg
import Derived.Test.YtecaahcmebdglaaQuoLaw
namespace Go.Proofs.Ytecaahcmebdglaa
/-- A step. -/
structure Bst where
  k : Int
  w : Int
  p : Int
  n : Int
  a : Int
  m : Int
  o : Int
  b : ByteArray
  q : Option Addr
  u : Nat
  v : Nat
def Bst.row (x : Bst) : List Value := [.int .i64 x.k, .int .i64 x.w, .int .i64 x.p, .int .i64 x.n, .int .i64 x.a, .int .i64 x.m, .int .i64 x.o, .string x.b, .slice x.q x.u x.v]
namespace Bud
def rot (r : Int) (x : Bst) : Bool := decide (x.k = 11 ∧ (1 ≤ x.w ∧ x.w ≤ r) ∧ (0 ≤ x.n ∧ x.n ≤ 31) ∧ (0 ≤ x.a ∧ x.a ≤ 383) ∧ (1 ≤ x.m ∧ x.m ≤ 255))
def may (r c : Int) : Bool := decide ((r = 3 ∨ r = 5) ∧ 1 ≤ c ∧ c ≤ 4)
def hit (r : Int) (l : List Bst) (w n : Int) : Bool := l.any fun x => rot r x && decide (x.w = w ∧ x.n = n)
def checks (r : Int) (l : List Bst) (w : Int) : Bool := l.any fun x => rot r x && decide (x.w = w ∧ 20 ≤ x.n)
def lost (r : Int) (l : List Bst) (w s : Int) : Bool := hit r l w (4 + s) || (hit r l w (12 + s) || checks r l w)
def cnt (p : Nat → Bool) : Nat → Nat
  | 0 => 0
  | k + 1 => cnt p k + (p k).toNat
def copiesOk (r : Int) (l : List Bst) (w : Int) : Prop := cnt (fun k => hit r l w (k : Int)) 4 ≤ 2
def slotOk (r : Int) (l : List Bst) (s : Nat) : Prop := 2 * (cnt (fun i => lost r l ((i : Int) + 1) (s : Int)) r.toNat : Int) < r
def Within (r c : Int) (l : List Bst) : Prop := may r c = true ∧ (∀ i : Nat, i < r.toNat → copiesOk r l ((i : Int) + 1)) ∧ ∀ s : Nat, s < 8 → slotOk r l s
open Classical in
noncomputable def within (r c : Int) (l : List Bst) : Bool := decide (Within r c l)
def rots (r c : Int) (l : List Bst) : Bool := may r c && l.any (rot r)
def Grid (r c : Int) (l : List Bst) : Prop := may r c = true ∧ ∃ i : Nat, i < r.toNat ∧ checks r l ((i : Int) + 1) = true
open Classical in
noncomputable def grid (r c : Int) (l : List Bst) : Bool := decide (Grid r c l)
theorem within_yes {r c : Int} {l : List Bst} (h : Within r c l) : within r c l = true := by unfold within; simp [h]
theorem within_no {r c : Int} {l : List Bst} (h : ¬ Within r c l) : within r c l = false := by unfold within; simp [h]
theorem grid_yes {r c : Int} {l : List Bst} (h : Grid r c l) : grid r c l = true := by unfold grid; simp [h]
theorem grid_no {r c : Int} {l : List Bst} (h : ¬ Grid r c l) : grid r c l = false := by unfold grid; simp [h]
theorem may_iff (r c : Int) : may r c = true ↔ (r = 3 ∨ r = 5) ∧ 1 ≤ c ∧ c ≤ 4 := by unfold may; rw [decide_eq_true_iff]
theorem rot_iff (r : Int) (x : Bst) : rot r x = true ↔ (x.k = 11 ∧ (1 ≤ x.w ∧ x.w ≤ r) ∧ (0 ≤ x.n ∧ x.n ≤ 31) ∧ (0 ≤ x.a ∧ x.a ≤ 383) ∧ (1 ≤ x.m ∧ x.m ≤ 255)) := by unfold rot; rw [decide_eq_true_iff]
theorem hit_iff (r : Int) (l : List Bst) (w n : Int) : hit r l w n = true ↔ ∃ x ∈ l, rot r x = true ∧ x.w = w ∧ x.n = n := by
  unfold hit
  simp [List.any_eq_true]
theorem checks_iff (r : Int) (l : List Bst) (w : Int) : checks r l w = true ↔ ∃ x ∈ l, rot r x = true ∧ x.w = w ∧ 20 ≤ x.n := by
  unfold checks
  simp [List.any_eq_true]
theorem lost_iff (r : Int) (l : List Bst) (w s : Int) : lost r l w s = true ↔ ∃ x ∈ l, rot r x = true ∧ x.w = w ∧ (x.n = 4 + s ∨ x.n = 12 + s ∨ 20 ≤ x.n) := by
  unfold lost
  rw [Bool.or_eq_true, Bool.or_eq_true, hit_iff, hit_iff, checks_iff]
  constructor
  · rintro (⟨x, h1, h2, h3, h4⟩ | ⟨x, h1, h2, h3, h4⟩ | ⟨x, h1, h2, h3, h4⟩)
    · exact ⟨x, h1, h2, h3, .inl h4⟩
    · exact ⟨x, h1, h2, h3, .inr (.inl h4)⟩
    · exact ⟨x, h1, h2, h3, .inr (.inr h4)⟩
  · rintro ⟨x, h1, h2, h3, h4 | h4 | h4⟩
    · exact .inl ⟨x, h1, h2, h3, h4⟩
    · exact .inr (.inl ⟨x, h1, h2, h3, h4⟩)
    · exact .inr (.inr ⟨x, h1, h2, h3, h4⟩)
theorem cnt_le (p : Nat → Bool) : ∀ n, cnt p n ≤ n
  | 0 => Nat.le_refl _
  | n + 1 => by
    have := cnt_le p n
    unfold cnt
    cases p n <;> simp <;> omega
theorem cnt_mono {p q : Nat → Bool} (h : ∀ k, p k = true → q k = true) : ∀ n, cnt p n ≤ cnt q n
  | 0 => Nat.le_refl _
  | n + 1 => by
    have := cnt_mono h n
    unfold cnt
    cases hp : p n
    · simp; omega
    · rw [h n hp]; simp; omega
theorem cnt_congr {p q : Nat → Bool} : ∀ n, (∀ k, k < n → p k = q k) → cnt p n = cnt q n
  | 0, _ => rfl
  | n + 1, h => by
    unfold cnt
    rw [cnt_congr n (fun k hk => h k (by omega)), h n (by omega)]
theorem cnt_none {p : Nat → Bool} : ∀ n, (∀ k, k < n → p k = false) → cnt p n = 0
  | 0, _ => rfl
  | n + 1, h => by
    unfold cnt
    rw [cnt_none n (fun k hk => h k (by omega)), h n (by omega)]
    rfl
/-- Fewer steps, in whatever order: less is lost. -/
theorem within_sub {r c : Int} {l m : List Bst} (h : Within r c l) (hs : ∀ x ∈ m, x ∈ l) : Within r c m := by
  obtain ⟨h1, h2, h3⟩ := h
  refine ⟨h1, fun i hi => Nat.le_trans (cnt_mono (fun k hk => ?_) 4) (h2 i hi), fun s hs8 => ?_⟩
  · obtain ⟨x, hx, hr⟩ := (hit_iff _ _ _ _).1 hk
    exact (hit_iff _ _ _ _).2 ⟨x, hs x hx, hr⟩
  · have h3 := h3 s hs8
    unfold slotOk at h3 ⊢
    have := cnt_mono (p := fun i => lost r m ((i : Int) + 1) (s : Int)) (q := fun i => lost r l ((i : Int) + 1) (s : Int)) (fun k hk => by
      obtain ⟨x, hx, hr⟩ := (lost_iff _ _ _ _).1 hk
      exact (lost_iff _ _ _ _).2 ⟨x, hs x hx, hr⟩) r.toNat
    omega
/-- The sets: six of copies, eight of slots, one of checkpoints. -/
def tgt (x : Bst) : Nat := if x.n < 4 then x.w.toNat else if x.n < 20 then 6 + ((x.n - 4) % 8).toNat else 14
def bit (x : Bst) : Nat := if x.n < 4 then x.n.toNat else (x.w - 1).toNat
def stepT (r : Int) (T : Nat → Nat) (x : Bst) : Nat → Nat := if rot r x = true then (fun i => if i = tgt x then T i ||| 2 ^ bit x else T i) else T
def tal (r : Int) : List Bst → Nat → Nat := fun l => l.foldl (stepT r) (fun _ => 0)
theorem tal_add (r : Int) (l : List Bst) (x : Bst) : tal r (l ++ [x]) = stepT r (tal r l) x := by
  unfold tal
  rw [List.foldl_append]
  rfl
theorem tal_bit (r : Int) : ∀ (l : List Bst) (T : Nat → Nat) (i k : Nat), ((l.foldl (stepT r) T) i).testBit k = ((T i).testBit k || l.any fun x => rot r x && decide (tgt x = i ∧ bit x = k))
  | [], T, i, k => by simp
  | x :: l, T, i, k => by
    rw [List.foldl_cons, tal_bit r l, List.any_cons, ← Bool.or_assoc]
    congr 1
    unfold stepT
    by_cases hr : rot r x = true
    · rw [if_pos hr, hr, Bool.true_and]
      by_cases hi : i = tgt x
      · rw [if_pos hi, Nat.testBit_or, Nat.testBit_two_pow]
        subst hi
        simp
      · rw [if_neg hi]
        have : ¬ tgt x = i := fun h => hi h.symm
        simp [this]
    · rw [if_neg hr]
      have : rot r x = false := by simpa using hr
      simp [this]
theorem tal_iff (r : Int) (l : List Bst) (i k : Nat) : (tal r l i).testBit k = true ↔ ∃ x ∈ l, rot r x = true ∧ tgt x = i ∧ bit x = k := by
  unfold tal
  rw [tal_bit]
  simp [List.any_eq_true]
theorem bit_lt {r : Int} {x : Bst} (hr : r ≤ 5) (h : rot r x = true) : bit x < 5 := by
  have := (rot_iff r x).1 h
  unfold bit
  split <;> omega
theorem tal_lt {r : Int} (hr : r ≤ 5) (l : List Bst) (i : Nat) : tal r l i < 32 := by
  refine Nat.lt_pow_two_of_testBit (n := 5) _ (fun k hk => ?_)
  cases h : (tal r l i).testBit k
  · rfl
  · obtain ⟨x, _, h1, _, h2⟩ := (tal_iff r l i k).1 h
    have := bit_lt hr h1
    omega
theorem size_cnt (s : Nat) : Quo.size s = cnt s.testBit 5 := by
  simp [Quo.size, cnt]
theorem copies_bit {r : Int} (l : List Bst) (w k : Nat) (hw : w < 6) : (tal r l w).testBit k = true ↔ k < 4 ∧ hit r l (w : Int) (k : Int) = true := by
  rw [tal_iff, hit_iff]
  constructor
  · rintro ⟨x, h1, h2, h3, h4⟩
    have hb := (rot_iff r x).1 h2
    unfold tgt at h3
    unfold bit at h4
    by_cases q : x.n < 4
    · rw [if_pos q] at h3 h4
      exact ⟨by omega, x, h1, h2, by omega, by omega⟩
    · rw [if_neg q] at h3
      split at h3 <;> omega
  · rintro ⟨h0, x, h1, h2, h3, h4⟩
    have hb := (rot_iff r x).1 h2
    refine ⟨x, h1, h2, ?_, ?_⟩
    · unfold tgt; rw [if_pos (by omega)]; omega
    · unfold bit; rw [if_pos (by omega)]; omega
theorem copies_size {r : Int} (l : List Bst) (w : Nat) (hw : w < 6) : Quo.size (tal r l w) = cnt (fun k => hit r l (w : Int) (k : Int)) 4 := by
  rw [size_cnt]
  have h4 : (tal r l w).testBit 4 = false := by
    cases h : (tal r l w).testBit 4
    · rfl
    · have := ((copies_bit l w 4 hw).1 h).1
      omega
  show cnt _ 4 + ((tal r l w).testBit 4).toNat = _
  rw [h4]
  refine Eq.trans (Nat.add_zero _) (cnt_congr 4 (fun k hk => ?_))
  rw [Bool.eq_iff_iff, copies_bit l w k hw]
  exact ⟨fun h => h.2, fun h => ⟨hk, h⟩⟩
theorem slots_bit {r : Int} (hr : r ≤ 5) (l : List Bst) (s i : Nat) (hs : s < 8) : (tal r l (6 + s) ||| tal r l 14).testBit i = true ↔ lost r l ((i : Int) + 1) (s : Int) = true := by
  rw [Nat.testBit_or, Bool.or_eq_true, tal_iff, tal_iff, lost_iff]
  constructor
  · rintro (⟨x, h1, h2, h3, h4⟩ | ⟨x, h1, h2, h3, h4⟩)
    · have hb := (rot_iff r x).1 h2
      refine ⟨x, h1, h2, ?_⟩
      unfold tgt at h3
      unfold bit at h4
      by_cases q : x.n < 4
      · rw [if_pos q] at h3
        omega
      · rw [if_neg q] at h3 h4
        by_cases q2 : x.n < 20
        · rw [if_pos q2] at h3
          omega
        · rw [if_neg q2] at h3
          omega
    · have hb := (rot_iff r x).1 h2
      refine ⟨x, h1, h2, ?_⟩
      unfold tgt at h3
      unfold bit at h4
      by_cases q : x.n < 4
      · rw [if_pos q] at h3
        omega
      · rw [if_neg q] at h3 h4
        by_cases q2 : x.n < 20
        · rw [if_pos q2] at h3
          omega
        · omega
  · rintro ⟨x, h1, h2, h3, h4⟩
    have hb := (rot_iff r x).1 h2
    by_cases q2 : x.n < 20
    · refine .inl ⟨x, h1, h2, ?_, ?_⟩
      · unfold tgt
        rw [if_neg (by omega), if_pos q2]
        omega
      · unfold bit
        rw [if_neg (by omega)]
        omega
    · refine .inr ⟨x, h1, h2, ?_, ?_⟩
      · unfold tgt
        rw [if_neg (by omega), if_neg q2]
      · unfold bit
        rw [if_neg (by omega)]
        omega
theorem lost_out {r : Int} (l : List Bst) (w s : Int) (h : r < w) : lost r l w s = false := by
  cases q : lost r l w s
  · rfl
  · obtain ⟨x, _, h2, h3, _⟩ := (lost_iff r l w s).1 q
    have := (rot_iff r x).1 h2
    omega
theorem slots_size {r : Int} (hr : r = 3 ∨ r = 5) (l : List Bst) (s : Nat) (hs : s < 8) : Quo.size (tal r l (6 + s) ||| tal r l 14) = cnt (fun i => lost r l ((i : Int) + 1) (s : Int)) r.toNat := by
  have e : Quo.size (tal r l (6 + s) ||| tal r l 14) = cnt (fun i => lost r l ((i : Int) + 1) (s : Int)) 5 := by
    rw [size_cnt]
    refine cnt_congr 5 (fun k _ => ?_)
    rw [Bool.eq_iff_iff]
    exact slots_bit (by omega) l s k hs
  rw [e]
  rcases hr with rfl | rfl
  · have h3 := lost_out (r := 3) l (((3 : Nat) : Int) + 1) (s : Int) (by omega)
    have h4 := lost_out (r := 3) l (((4 : Nat) : Int) + 1) (s : Int) (by omega)
    show cnt _ 3 + (lost 3 l (((3 : Nat) : Int) + 1) (s : Int)).toNat + (lost 3 l (((4 : Nat) : Int) + 1) (s : Int)).toNat = cnt _ 3
    rw [h3, h4]
    rfl
  · rfl
/-- The program's test of a slot is the document's. -/
theorem slot_iff {r : Int} (hr : r = 3 ∨ r = 5) (l : List Bst) (s : Nat) (hs : s < 8) : slotOk r l s ↔ ¬ Quo.enough r ≤ (Quo.size (tal r l (6 + s) ||| tal r l 14) : Int) := by
  unfold slotOk
  rw [slots_size hr l s hs]
  rcases hr with rfl | rfl
  · rw [show Quo.enough 3 = 2 from rfl]; omega
  · rw [show Quo.enough 5 = 3 from rfl]; omega
theorem copies_iff {r : Int} (l : List Bst) (w : Nat) (hw : w < 6) : copiesOk r l (w : Int) ↔ ¬ (2 : Int) < (Quo.size (tal r l w) : Int) := by
  unfold copiesOk
  rw [copies_size l w hw]
  omega
theorem copies_zero (r : Int) (l : List Bst) (w : Int) (h : w < 1 ∨ r < w) : copiesOk r l w := by
  unfold copiesOk
  rw [cnt_none 4 (fun k _ => ?_)]
  · omega
  · cases q : hit r l w k
    · rfl
    · obtain ⟨x, _, h2, h3, _⟩ := (hit_iff r l w k).1 q
      have := (rot_iff r x).1 h2
      omega
/-- What the program's loops say together. -/
theorem within_iff {r c : Int} (l : List Bst) (hm : may r c = true) : Within r c l ↔ (∀ w : Nat, w < 6 → ¬ (2 : Int) < (Quo.size (tal r l w) : Int)) ∧ ∀ s : Nat, s < 8 → ¬ Quo.enough r ≤ (Quo.size (tal r l (6 + s) ||| tal r l 14) : Int) := by
  have hr := ((may_iff r c).1 hm).1
  constructor
  · rintro ⟨_, h2, h3⟩
    refine ⟨fun w hw => (copies_iff l w hw).1 ?_, fun s hs => (slot_iff hr l s hs).1 (h3 s hs)⟩
    by_cases q : 1 ≤ w ∧ (w : Int) ≤ r
    · have := h2 (w - 1) (by omega)
      rwa [show ((w - 1 : Nat) : Int) + 1 = (w : Int) by omega] at this
    · exact copies_zero r l w (by omega)
  · rintro ⟨h2, h3⟩
    refine ⟨hm, fun i hi => ?_, fun s hs => (slot_iff hr l s hs).2 (h3 s hs)⟩
    have := (copies_iff (r := r) l (i + 1) (by omega)).2 (h2 (i + 1) (by omega))
    rwa [show ((i + 1 : Nat) : Int) = (i : Int) + 1 by omega] at this
theorem grid_iff {r c : Int} (l : List Bst) (hm : may r c = true) : Grid r c l ↔ tal r l 14 ≠ 0 := by
  have hr := ((may_iff r c).1 hm).1
  constructor
  · rintro ⟨_, i, hi, hc⟩ h0
    obtain ⟨x, h1, h2, h3, h4⟩ := (checks_iff _ _ _).1 hc
    have hb := (rot_iff r x).1 h2
    have : (tal r l 14).testBit (bit x) = true := (tal_iff r l 14 _).2 ⟨x, h1, h2, by unfold tgt; rw [if_neg (by omega), if_neg (by omega)], rfl⟩
    rw [h0] at this
    simp at this
  · intro h0
    obtain ⟨k, hk⟩ : ∃ k, (tal r l 14).testBit k = true := by
      refine Classical.byContradiction (fun hn => h0 ?_)
      refine Nat.eq_of_testBit_eq (fun i => ?_)
      rw [Nat.zero_testBit]
      cases h : (tal r l 14).testBit i
      · rfl
      · exact absurd ⟨i, h⟩ hn
    obtain ⟨x, h1, h2, h3, h4⟩ := (tal_iff r l 14 k).1 hk
    have hb := (rot_iff r x).1 h2
    refine ⟨hm, (x.w - 1).toNat, by omega, (checks_iff _ _ _).2 ⟨x, h1, h2, by omega, ?_⟩⟩
    unfold tgt at h3
    by_cases q : x.n < 4
    · rw [if_pos q] at h3; omega
    · rw [if_neg q] at h3
      by_cases q2 : x.n < 20
      · rw [if_pos q2] at h3; omega
      · omega
end Bud
end Go.Proofs.Ytecaahcmebdglaa

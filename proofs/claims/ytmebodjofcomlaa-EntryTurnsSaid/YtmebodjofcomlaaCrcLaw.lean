/- The plain law of the check sum: what the register does, bit by bit, byte by byte, by the table; sums of joined texts; four turned bytes are told. No program in sight. -/
namespace Go.Proofs.Ytmebodjofcomlaa
namespace Crc
/-- one bit step -/
def bit (r : Nat) : Nat := (r / 2) ^^^ (0x82F63B78 * (r % 2))
def bits : Nat → Nat → Nat
  | 0, r => r
  | n + 1, r => bits n (bit r)
def tab (i : Nat) : Nat := bits 8 i
def byte (r b : Nat) : Nat := bits 8 (r ^^^ b)
def fold (r : Nat) (l : List Nat) : Nat := l.foldl byte r
def add (sum : Nat) (l : List Nat) : Nat := 4294967295 - fold (4294967295 - sum) l

theorem xor_div2 (a b : Nat) : (a ^^^ b) / 2 = a / 2 ^^^ b / 2 := by
  have := Nat.shiftRight_xor_distrib (a := a) (b := b) (i := 1)
  simpa [Nat.shiftRight_eq_div_pow] using this
theorem xor_mod2 (a b : Nat) : (a ^^^ b) % 2 = (a % 2) ^^^ (b % 2) := by
  have := Nat.xor_mod_two_pow (a := a) (b := b) (n := 1)
  simpa using this
theorem bit_xor (a b : Nat) : bit (a ^^^ b) = bit a ^^^ bit b := by
  unfold bit
  rw [xor_div2, xor_mod2]
  have ha : a % 2 = 0 ∨ a % 2 = 1 := by omega
  have hb : b % 2 = 0 ∨ b % 2 = 1 := by omega
  rcases ha with ha | ha <;> rcases hb with hb | hb <;> rw [ha, hb] <;> simp
  · rw [Nat.xor_assoc]
  · rw [Nat.xor_assoc, Nat.xor_assoc, Nat.xor_comm (b / 2)]
  · rw [Nat.xor_assoc, Nat.xor_comm 2197175160 (b / 2 ^^^ 2197175160), Nat.xor_assoc (b / 2), Nat.xor_self, Nat.xor_zero]
theorem bit_zero : bit 0 = 0 := by decide
theorem bit_lt (r : Nat) (h : r < 4294967296) : bit r < 4294967296 := by
  unfold bit
  have : r % 2 = 0 ∨ r % 2 = 1 := by omega
  refine Nat.xor_lt_two_pow (n := 32) (by omega) ?_
  rcases this with h | h <;> rw [h] <;> decide
theorem bit_ker (r : Nat) (h : r < 4294967296) (h0 : bit r = 0) : r = 0 := by
  unfold bit at h0
  have hr : r % 2 = 0 ∨ r % 2 = 1 := by omega
  rcases hr with hr | hr <;> rw [hr] at h0
  · simp at h0; omega
  · have h1 : r / 2 = 2197175160 := by
      have := congrArg (fun x => x ^^^ 2197175160) h0
      simpa [Nat.xor_assoc] using this
    omega
theorem bits_xor (n : Nat) : ∀ a b, bits n (a ^^^ b) = bits n a ^^^ bits n b := by
  induction n with
  | zero => intro a b; rfl
  | succ n ih => intro a b; simp only [bits, bit_xor, ih]
theorem bits_lt (n : Nat) : ∀ r, r < 4294967296 → bits n r < 4294967296 := by
  induction n with
  | zero => intro r h; exact h
  | succ n ih => intro r h; exact ih _ (bit_lt r h)
theorem bits_ker (n : Nat) : ∀ r, r < 4294967296 → bits n r = 0 → r = 0 := by
  induction n with
  | zero => intro r _ h; exact h
  | succ n ih => intro r h h0; exact bit_ker r h (ih _ (bit_lt r h) h0)
theorem bits_succ (n r : Nat) : bits (n + 1) r = bit (bits n r) := by
  induction n generalizing r with
  | zero => rfl
  | succ n ih => rw [bits, ih]; rfl
theorem bits_up (n : Nat) : ∀ q, bits n (2 ^ n * q) = q := by
  induction n with
  | zero => intro q; simp [bits]
  | succ n ih =>
    intro q
    have : bit (2 ^ (n + 1) * q) = 2 ^ n * q := by
      unfold bit
      have h : 2 ^ (n + 1) * q = 2 * (2 ^ n * q) := by rw [Nat.pow_succ]; ac_rfl
      rw [h, Nat.mul_mod_right, Nat.mul_div_cancel_left _ (by decide)]; simp
    rw [bits, this, ih]
theorem split_xor (n a : Nat) : a = (2 ^ n * (a / 2 ^ n)) ^^^ (a % 2 ^ n) := by
  have h := Nat.two_pow_add_eq_or_of_lt (Nat.mod_lt a (Nat.two_pow_pos n)) (a / 2 ^ n)
  have h2 := Nat.div_add_mod a (2 ^ n)
  have h3 : (2 ^ n * (a / 2 ^ n)) &&& (a % 2 ^ n) = 0 := by
    apply Nat.eq_of_testBit_eq
    intro i
    simp only [Nat.testBit_and, Nat.zero_testBit, Nat.testBit_two_pow_mul, Nat.testBit_mod_two_pow]
    by_cases hi : i < n
    · simp [hi]; intro h; omega
    · simp [hi]
  have h4 : (2 ^ n * (a / 2 ^ n)) ^^^ (a % 2 ^ n) = (2 ^ n * (a / 2 ^ n)) ||| (a % 2 ^ n) := by
    apply Nat.eq_of_testBit_eq
    intro i
    have := congrArg (fun x => x.testBit i) h3
    simp only [Nat.testBit_and, Nat.zero_testBit] at this
    simp only [Nat.testBit_xor, Nat.testBit_or]
    generalize (2 ^ n * (a / 2 ^ n)).testBit i = x at this ⊢
    generalize (a % 2 ^ n).testBit i = y at this ⊢
    revert this; cases x <;> cases y <;> decide
  rw [h4, ← h, h2]
/-- The table's way: eight bits at once. -/
theorem byte_tab (r b : Nat) : byte r b = (r / 256) ^^^ tab ((r % 256) ^^^ b) := by
  unfold byte tab
  have h := split_xor 8 r
  have e : r ^^^ b = (256 * (r / 256)) ^^^ ((r % 256) ^^^ b) := by
    conv => lhs; rw [h]
    rw [Nat.xor_assoc]
  rw [e, bits_xor]
  congr 1
  exact bits_up 8 (r / 256)
theorem byte_lt (r b : Nat) (h : r < 4294967296) (hb : b < 256) : byte r b < 4294967296 :=
  bits_lt 8 _ (Nat.xor_lt_two_pow (n := 32) h (by omega))
def Bytes (l : List Nat) : Prop := ∀ b ∈ l, b < 256
theorem fold_lt : ∀ (l : List Nat) (r : Nat), r < 4294967296 → Bytes l → fold r l < 4294967296
  | [], r, h, _ => h
  | b :: l, r, h, hl => fold_lt l _ (byte_lt r b h (hl b (by simp))) (fun x hx => hl x (by simp [hx]))
theorem fold_append (r : Nat) (l m : List Nat) : fold r (l ++ m) = fold (fold r l) m := List.foldl_append
theorem add_append (l m : List Nat) (hl : Bytes l) : add (add 0 l) m = add 0 (l ++ m) := by
  unfold add
  rw [fold_append]
  have h := fold_lt l (4294967295 - 0) (by decide) hl
  rw [show 4294967295 - (4294967295 - fold (4294967295 - 0) l) = fold (4294967295 - 0) l from by omega]
/-- Two registers apart stay apart. -/
theorem fold_diff : ∀ (l : List Nat) (r t : Nat), fold (r ^^^ t) l = fold r l ^^^ bits (8 * l.length) t
  | [], r, t => rfl
  | b :: l, r, t => by
    show fold (byte (r ^^^ t) b) l = _
    have e : byte (r ^^^ t) b = byte r b ^^^ bits 8 t := by
      unfold byte
      rw [← bits_xor, Nat.xor_assoc, Nat.xor_comm t b, ← Nat.xor_assoc]
    rw [e, fold_diff l]
    show fold r (b :: l) ^^^ _ = fold r (b :: l) ^^^ _
    have : ∀ m n x, bits m (bits n x) = bits (n + m) x := by
      intro m n
      induction n with
      | zero => intro x; rw [Nat.zero_add]; rfl
      | succ n ih => intro x; rw [Nat.succ_add]; exact ih _
    rw [this]
    rw [show 8 + 8 * l.length = 8 * (b :: l).length from by simp; omega]
theorem xor_cancel {a b : Nat} (h : a ^^^ b = a) : b = 0 := by
  have := congrArg (fun x => a ^^^ x) h
  simpa [← Nat.xor_assoc] using this
theorem bits8_up (x y : Nat) : bits 8 (x ^^^ 256 * y) = bits 8 x ^^^ y := by
  rw [bits_xor]; congr 1; exact bits_up 8 y
/-- Four bytes turned by the four bytes of d: the register is turned by 32 steps of d. -/
theorem four (r b0 b1 b2 b3 d : Nat) (hd : d < 4294967296) :
    fold r [b0 ^^^ (d % 256), b1 ^^^ (d / 256 % 256), b2 ^^^ (d / 65536 % 256), b3 ^^^ (d / 16777216 % 256)] = fold r [b0, b1, b2, b3] ^^^ bits 32 d := by
  have s0 : d = (d % 256) ^^^ 256 * (d / 256) := by
    conv => lhs; rw [split_xor 8 d]
    rw [Nat.xor_comm]
  have s1 : d / 256 = (d / 256 % 256) ^^^ 256 * (d / 65536) := by
    conv => lhs; rw [split_xor 8 (d / 256)]
    rw [Nat.xor_comm, Nat.div_div_eq_div_mul]
  have s2 : d / 65536 = (d / 65536 % 256) ^^^ 256 * (d / 16777216) := by
    conv => lhs; rw [split_xor 8 (d / 65536)]
    rw [Nat.xor_comm, Nat.div_div_eq_div_mul]
  have s3 : d / 16777216 = d / 16777216 % 256 := by omega
  have e32 : bits 32 d = bits 8 (bits 8 (bits 8 (bits 8 d))) := rfl
  have k : ∀ r b x, byte r (b ^^^ x) = byte r b ^^^ bits 8 x := by
    intro r b x; unfold byte; rw [← bits_xor, Nat.xor_assoc]
  have k2 : ∀ r b x, byte (r ^^^ x) b = byte r b ^^^ bits 8 x := by
    intro r b x; unfold byte; rw [← bits_xor, Nat.xor_assoc, Nat.xor_comm x b, ← Nat.xor_assoc]
  show byte (byte (byte (byte r _) _) _) _ = byte (byte (byte (byte r b0) b1) b2) b3 ^^^ _
  simp only [k, k2]
  rw [e32]
  generalize byte (byte (byte (byte r b0) b1) b2) b3 = z
  have f0 : bits 8 d = bits 8 (d % 256) ^^^ (d / 256) := by conv => lhs; rw [s0]
                                                            exact bits8_up _ _
  have f1 : bits 8 (bits 8 d) = bits 8 (bits 8 (d % 256)) ^^^ (bits 8 (d / 256 % 256) ^^^ (d / 65536)) := by
    rw [f0, bits_xor]; congr 1
    conv => lhs; rw [s1]
    exact bits8_up _ _
  have f2 : bits 8 (bits 8 (bits 8 d)) = bits 8 (bits 8 (bits 8 (d % 256))) ^^^ (bits 8 (bits 8 (d / 256 % 256)) ^^^ (bits 8 (d / 65536 % 256) ^^^ (d / 16777216))) := by
    rw [f1, bits_xor, bits_xor]; congr 2
    conv => lhs; rw [s2]
    exact bits8_up _ _
  rw [f2, bits_xor, bits_xor, bits_xor]
  rw [← s3]
  simp only [Nat.xor_assoc]
theorem tells (p q : List Nat) (b0 b1 b2 b3 d : Nat) (hd : d < 4294967296) (hp : Bytes p) (hb : Bytes [b0, b1, b2, b3]) (hq : Bytes q) (hb' : Bytes [b0 ^^^ (d % 256), b1 ^^^ (d / 256 % 256), b2 ^^^ (d / 65536 % 256), b3 ^^^ (d / 16777216 % 256)]) :
    add 0 (p ++ ([b0 ^^^ (d % 256), b1 ^^^ (d / 256 % 256), b2 ^^^ (d / 65536 % 256), b3 ^^^ (d / 16777216 % 256)] ++ q)) = add 0 (p ++ ([b0, b1, b2, b3] ++ q)) ↔ d = 0 := by
  have hap : ∀ l m, Bytes l → Bytes m → Bytes (l ++ m) := fun l m hl hm b hb => by
    rcases List.mem_append.1 hb with h | h
    · exact hl b h
    · exact hm b h
  have l1 := fold_lt _ (4294967295 - 0) (by decide) (hap _ _ hp (hap _ _ hb hq))
  have l2 := fold_lt _ (4294967295 - 0) (by decide) (hap _ _ hp (hap _ _ hb' hq))
  have hx : fold (4294967295 - 0) (p ++ ([b0 ^^^ (d % 256), b1 ^^^ (d / 256 % 256), b2 ^^^ (d / 65536 % 256), b3 ^^^ (d / 16777216 % 256)] ++ q)) = fold (4294967295 - 0) (p ++ ([b0, b1, b2, b3] ++ q)) ^^^ bits (8 * q.length) (bits 32 d) := by
    rw [fold_append, fold_append, four _ _ _ _ _ _ hd, fold_diff, fold_append _ p, fold_append _ [b0, b1, b2, b3]]
  constructor
  · intro h
    unfold add at h
    have h3 : fold (4294967295 - 0) (p ++ ([b0 ^^^ (d % 256), b1 ^^^ (d / 256 % 256), b2 ^^^ (d / 65536 % 256), b3 ^^^ (d / 16777216 % 256)] ++ q)) = fold (4294967295 - 0) (p ++ ([b0, b1, b2, b3] ++ q)) := by omega
    rw [hx] at h3
    have h4 := xor_cancel h3
    exact bits_ker 32 d hd (bits_ker _ _ (bits_lt 32 d hd) h4)
  · rintro rfl
    unfold add
    rw [hx]
    have : ∀ n, bits n 0 = 0 := by
      intro n
      induction n with
      | zero => rfl
      | succ n ih => rw [bits, bit_zero, ih]
    rw [this, this, Nat.xor_zero]
/-- The reference's steps. -/
theorem bit_ref (r : Nat) : bit r = if r % 2 = 1 then (r / 2) ^^^ 0x82F63B78 else r / 2 := by
  unfold bit
  have hr : r % 2 = 0 ∨ r % 2 = 1 := by omega
  rcases hr with h | h <;> rw [h] <;> simp
end Crc
namespace Chain
def step (h c : Nat) : Nat := (((h ^^^ c) * 1099511628211) % 18446744073709551616) ^^^ ((((h ^^^ c) * 1099511628211) % 18446744073709551616) / 536870912)
def lens : Nat → Nat → List Nat
  | 0, _ => []
  | k + 1, n => n % 256 :: lens k (n / 256)
def start (h : Nat) : Nat := h ^^^ 14695981039346656037
def chain (h : Nat) (l : List Nat) : Nat := (l ++ lens 8 l.length).foldl step (start h)

theorem xor_right_inj {a b c : Nat} (h : a ^^^ c = b ^^^ c) : a = b := by
  have := congrArg (fun x => x ^^^ c) h
  simpa [Nat.xor_assoc] using this
theorem xor_left_inj {a b c : Nat} (h : c ^^^ a = c ^^^ b) : a = b := by
  rw [Nat.xor_comm c, Nat.xor_comm c] at h; exact xor_right_inj h
theorem xor_eq_zero {a b : Nat} (h : a ^^^ b = 0) : a = b := by
  have := congrArg (fun x => x ^^^ b) h
  simpa [Nat.xor_assoc] using this
theorem mul_inj (a b : Nat) (ha : a < 18446744073709551616) (hb : b < 18446744073709551616) (h : (a * 1099511628211) % 18446744073709551616 = (b * 1099511628211) % 18446744073709551616) : a = b := by
  have h2 := congrArg (fun x => (x * 14886173955864302971) % 18446744073709551616) h
  simp only [Nat.mod_mul_mod, Nat.mul_assoc] at h2
  have e : ∀ x : Nat, x < 18446744073709551616 → (x * (1099511628211 * 14886173955864302971)) % 18446744073709551616 = x := by
    intro x hx
    rw [Nat.mul_mod, show (1099511628211 * 14886173955864302971) % 18446744073709551616 = 1 from by decide, Nat.mul_one, Nat.mod_mod, Nat.mod_eq_of_lt hx]
  rw [e a ha, e b hb] at h2
  exact h2
theorem shift_inj (x y : Nat) (_hx : x < 18446744073709551616) (_hy : y < 18446744073709551616) (h : x ^^^ (x / 536870912) = y ^^^ (y / 536870912)) : x = y := by
  have hd : (x ^^^ y) / 536870912 = x / 536870912 ^^^ y / 536870912 := by
    have := Nat.shiftRight_xor_distrib (a := x) (b := y) (i := 29)
    simpa [Nat.shiftRight_eq_div_pow] using this
  have he : (x ^^^ y) = (x ^^^ y) / 536870912 := by
    rw [hd]
    have := congrArg (fun z => z ^^^ ((x / 536870912) ^^^ y)) h
    have l1 : x ^^^ x / 536870912 ^^^ (x / 536870912 ^^^ y) = x ^^^ y := by
      rw [Nat.xor_assoc, ← Nat.xor_assoc (x / 536870912), Nat.xor_self, Nat.zero_xor]
    have l2 : y ^^^ y / 536870912 ^^^ (x / 536870912 ^^^ y) = x / 536870912 ^^^ y / 536870912 := by
      rw [Nat.xor_comm (x / 536870912) y, Nat.xor_comm y (y / 536870912), Nat.xor_assoc, ← Nat.xor_assoc y, Nat.xor_self, Nat.zero_xor, Nat.xor_comm]
    rw [l1, l2] at this
    exact this
  have hz : x ^^^ y = 0 := by omega
  exact xor_eq_zero hz
theorem xor_lt {a b : Nat} (ha : a < 18446744073709551616) (hb : b < 18446744073709551616) : a ^^^ b < 18446744073709551616 := Nat.xor_lt_two_pow (n := 64) ha hb
theorem step_lt (h c : Nat) : step h c < 18446744073709551616 := by
  unfold step
  have := Nat.mod_lt ((h ^^^ c) * 1099511628211) (y := 18446744073709551616) (by decide)
  exact xor_lt this (by omega)
theorem step_inj {h g c d : Nat} (hh : h < 18446744073709551616) (hg : g < 18446744073709551616) (hc : c < 256) (hd : d < 256) (e : step h c = step g d) : h ^^^ c = g ^^^ d := by
  unfold step at e
  have := shift_inj _ _ (Nat.mod_lt _ (by decide)) (Nat.mod_lt _ (by decide)) e
  exact mul_inj _ _ (xor_lt hh (by omega)) (xor_lt hg (by omega)) this
theorem start_lt {h : Nat} (hh : h < 18446744073709551616) : start h < 18446744073709551616 := xor_lt hh (by decide)
theorem fold_inj (l : List Nat) : ∀ {h g : Nat}, h < 18446744073709551616 → g < 18446744073709551616 → (∀ b ∈ l, b < 256) → l.foldl step h = l.foldl step g → h = g := by
  induction l with
  | nil => intro h g _ _ _ e; exact e
  | cons b l ih =>
    intro h g hh hg hl e
    have := ih (step_lt h b) (step_lt g b) (fun x hx => hl x (by simp [hx])) e
    exact xor_right_inj (step_inj hh hg (hl b (by simp)) (hl b (by simp)) this)
theorem lens_lt : ∀ k n, ∀ b ∈ lens k n, b < 256
  | 0, _, b, hb => by simp [lens] at hb
  | k + 1, n, b, hb => by
    simp only [lens, List.mem_cons] at hb
    rcases hb with rfl | hb
    · exact Nat.mod_lt _ (by decide)
    · exact lens_lt k _ b hb
theorem link_heads (h g c : Nat) (hh : h < 18446744073709551616) (hg : g < 18446744073709551616) (hc : c < 256) : chain h [c] = chain g [c] ↔ h = g := by
  constructor
  · intro e
    have := fold_inj _ (start_lt hh) (start_lt hg) (fun b hb => by
      rcases List.mem_append.1 hb with h1 | h1
      · simp at h1; omega
      · exact lens_lt _ _ b h1) e
    exact xor_right_inj this
  · rintro rfl; rfl
theorem chain_one (h c : Nat) : chain h [c] = (lens 8 1).foldl step (step (start h) c) := by
  unfold chain
  rw [List.length_singleton, List.foldl_append, List.foldl_cons, List.foldl_nil]
theorem link_bytes (h c d : Nat) (hh : h < 18446744073709551616) (hc : c < 256) (hd : d < 256) : chain h [c] = chain h [d] ↔ c = d := by
  constructor
  · intro e
    rw [chain_one, chain_one] at e
    have hl := lens_lt 8 1
    generalize lens 8 1 = L at e hl
    have := fold_inj L (step_lt _ _) (step_lt _ _) hl e
    exact xor_left_inj (step_inj (start_lt hh) (start_lt hh) hc hd this)
  · rintro rfl; rfl
theorem fold_lt : ∀ (l : List Nat) (h : Nat), h < 18446744073709551616 → l.foldl step h < 18446744073709551616
  | [], _, hh => hh
  | b :: l, h, _ => fold_lt l _ (step_lt h b)
theorem chain_lt (h : Nat) (l : List Nat) (hh : h < 18446744073709551616) : chain h l < 18446744073709551616 := fold_lt _ _ (start_lt hh)
end Chain
end Go.Proofs.Ytmebodjofcomlaa

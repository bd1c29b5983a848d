/- Same; what the laws of mail ask first; a box that is not there. -/
import Derived.Test.YtnldjddmchfcoaaMailF
namespace Go.Proofs.Ytnldjddmchfcoaa
open Go.RowKit Go.Conc
set_option linter.unusedVariables false
/-- A slice of letters that can be read. -/
def ReadL (w : World) (v : Value) (L : List Ltr) : Prop := ∃ x cap, v = .slice x L.length cap ∧ ∀ (j : Nat) (a : Ltr), L[j]? = some a → ∃ b off, x = some ⟨b, off, none⟩ ∧ w.cell? ⟨b, off + j * 3, none⟩ = some (.int .i64 a.f) ∧ w.cell? ⟨b, off + j * 3 + 1, none⟩ = some (.int .i64 a.t) ∧ w.cell? ⟨b, off + j * 3 + 2, none⟩ = some (.string a.d)
theorem ReadL.of_own {Y : Nat → Prop} {w : World} {x : Option Addr} {n cap : Nat} {L : List Ltr} (h : OwnC Y w (.slice x n cap) n 3 (lcells L)) (hn : n = L.length) : ReadL w (.slice x n cap) L := by
  subst hn
  refine ⟨x, cap, rfl, fun j a ha => ?_⟩
  have hg := lcells_get L j a ha
  rcases h.2 with ⟨hv, hn⟩ | ⟨b, off, cap', hv, _, _, _, h3, _⟩
  · rw [List.eq_nil_of_length_eq_zero hn] at ha
    simp at ha
  · injection hv with h1 h2 h4
    exact ⟨b, off, h1, h3 _ _ hg.1, by rw [Nat.add_assoc]; exact h3 _ _ hg.2.1, by rw [Nat.add_assoc]; exact h3 _ _ hg.2.2⟩
theorem cell_lt {w : World} {p : Addr} {v : Value} (h : w.cell? p = some v) : p.block < w.heap.size := by
  refine Nat.lt_of_not_le fun q => ?_
  have : w.heap[p.block]? = none := Array.getElem?_eq_none q
  unfold World.cell? at h
  simp [this] at h
theorem ReadL.turned {X : Nat → Prop} {w w' : World} {v : Value} {L : List Ltr} (h : ReadL w v L) (hb : Below w.heap.size w w') : ReadL w' v L := by
  obtain ⟨x, cap, hv, hc⟩ := h
  refine ⟨x, cap, hv, fun j a ha => ?_⟩
  obtain ⟨b, off, hx, h1, h2, h3⟩ := hc j a ha
  exact ⟨b, off, hx, (hb.cell (cell_lt h1)).trans h1, (hb.cell (cell_lt h2)).trans h2, (hb.cell (cell_lt h3)).trans h3⟩
theorem same_l {a b : Value} {L : List Ltr} {w : World} (ha : ReadL w a L) (hb : ReadL w b L) (hL : L.length ≤ 1000000) : Calls Try.prog 23 #[a, b] w fun e w' => e = .returned (.bool true) ∧ ∃ m, w' = w.drewN m := by
  obtain ⟨x, cap, rfl, hx⟩ := ha
  obtain ⟨y, cap2, rfl, hy⟩ := hb
  obtain ⟨n, hn⟩ : ∃ n, n = L.length := ⟨_, rfl⟩
  rw [← hn] at hL ⊢
  have HN := Lib.hid hn
  clear hn
  go_enter Try.func23, Try.ntmps23
  go_wp2_with fail
  go_loopw [5] (fun iv wr => ∃ i : Nat, i ≤ n ∧ iv = .int .i64 i ∧ ∃ m, wr = w.drewN m) (fun iv _ => n - (intOf iv).toNat)
  case atStart => exact ⟨0, by omega, rfl, 0, rfl⟩
  case round =>
    obtain ⟨i, hi, rfl, m, rfl⟩ := hrel
    by_cases hlt : i < n
    · obtain ⟨p, hp⟩ : ∃ p, L[i]? = some p := ⟨L[i]'(by rw [← HN.out]; exact hlt), List.getElem?_eq_getElem _⟩
      obtain ⟨b1, o1, hx1, a0, a1, a2⟩ := hx i p hp
      obtain ⟨b2, o2, hy1, d0, d1, d2⟩ := hy i p hp
      subst hx1 hy1
      obtain ⟨f, t, d⟩ := p
      dsimp only at a0 a1 a2 d0 d1 d2
      clear hx hy hp
      go_wp2_with fail
      go_quiet (fail)
      go_wp2_with fail
      go_roundw
      case rel => exact ⟨i + 1, by omega, by go_num, _, rfl⟩
      case measure => simp [intOf]; omega
    · obtain rfl : i = n := by omega
      go_wp2_with fail
      go_ret
      exact ⟨rfl, _, rfl⟩
theorem awake20_any (w : World) : Calls Try.prog 16 #[] w fun e w' => e = .returned (.bool true) ∧ Below w.heap.size w w' := by
  go_enter Try.func16, Try.ntmps16
  go_wp2_with fail
  refine (new_bx 1 _ (by decide)).mono ?_
  rintro e w1 ⟨rfl, hB, hb⟩
  have H1 := Lib.hid (And.intro hB hb)
  have hg1 : w.heap.size ≤ w.heap.size + 1 := Nat.le_succ _
  clear hB hb hg1
  obtain ⟨c, hc⟩ : ∃ c, c = w.heap.size := ⟨_, rfl⟩
  obtain ⟨g, hg⟩ : ∃ g, g = w.heap.size + 1 := ⟨_, rfl⟩
  rw [← hg, show w.heap.size = w.heap.size from rfl] at H1
  have HG := Lib.hid (And.intro hc hg)
  rw [← hg]
  have H1 : Hid (Bx w1 g c 1 [] ∧ Below w.heap.size w w1) := Lib.hid (by rw [hc]; exact H1.out)
  clear hc hg
  have hcl : Hid (w.heap.size ≤ c ∧ w.heap.size ≤ g) := Lib.hid (by have := HG.out; omega)
  go_wp2_with fail
  refine (show Calls Try.prog 19 #[.pointer (some ⟨g, 0, none⟩), .agg #[.int .i64 0, .int .i64 0, .string ⟨#[97]⟩]] w1 _ from put_yes H1.out.1 ⟨0, 0, ⟨#[97]⟩⟩ (by decide) (by decide)).mono ?_
  rintro e w2 ⟨rfl, hB, hT⟩
  have H2 := Lib.hid (And.intro hB (H1.out.2.trans (hT.below (fun q h => by have := hcl.out; have := H1.out.2.size; omega) H1.out.2.size)))
  clear hB hT H1
  go_wp2_with fail
  refine (show Calls Try.prog 19 #[.pointer (some ⟨g, 0, none⟩), .agg #[.int .i64 0, .int .i64 0, .string ⟨#[98]⟩]] w2 _ from put_full H2.out.1 ⟨0, 0, ⟨#[98]⟩⟩ (by decide) trivial).mono ?_
  rintro e w3 ⟨rfl, hB, hT⟩
  have H3 := Lib.hid (And.intro hB (H2.out.2.trans (hT.below (fun q h => by have := hcl.out; have := H2.out.2.size; omega) H2.out.2.size)))
  clear hB hT H2
  go_wp2_with fail
  refine (take_some H3.out.1).mono ?_
  rintro e w4 ⟨rfl, hB, hT⟩
  have H4 := Lib.hid (And.intro hB (H3.out.2.trans (hT.below (fun q h => by have := hcl.out; have := H3.out.2.size; omega) H3.out.2.size)))
  clear hB hT H3
  unfold Ltr.v
  dsimp only
  have HR := Lib.hid (Row.new w4 #[.int .i64 0, .int .i64 0, .string ⟨#[97]⟩] 40 w4.heap.size rfl)
  have HBL := Lib.hid (H4.out.1.later ((Below.refl _ _).alloc (Nat.le_refl _) (.cells #[.int .i64 0, .int .i64 0, .string ⟨#[97]⟩] 40)))
  have hB4 := H4.out.2.alloc H4.out.2.size (.cells #[.int .i64 0, .int .i64 0, .string ⟨#[97]⟩] 40)
  have HB4 := Lib.hid hB4
  clear hB4
  go_wp2_with fail
  generalize w4.alloc (.cells #[.int .i64 0, .int .i64 0, .string ⟨#[97]⟩] 40) = w5 at *
  refine (take_none HBL.out).mono ?_
  rintro e w6 ⟨rfl, hB, hb6⟩
  have HR6 := HR.out.below hb6 HR.out.1
  have r2 : w6.cell? ⟨w4.heap.size, 2, none⟩ = some (.string ⟨#[97]⟩) := HR6.2 2 _ rfl
  have r2' : (w6.alloc (.cells #[.int .i64 0, .int .i64 0, .string ⟨#[]⟩] 40)).cell? ⟨w4.heap.size, 2, none⟩ = some (.string ⟨#[97]⟩) := (HR6.alloc _).2 2 _ rfl
  have H6 := Lib.hid (HB4.out.trans (hb6.mono HB4.out.size))
  clear hB hb6
  go_wp2_with fail
  go_ret
  exact ⟨rfl, H6.out.alloc H6.out.size _⟩
end Go.Proofs.Ytnldjddmchfcoaa

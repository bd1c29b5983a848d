/- Both pipes, in step: what each reader answers. -/
import Derived.Test.YtecaahcmebdglaaPipW
namespace Go.Proofs.Ytecaahcmebdglaa
open Go.RowKit
set_option linter.unusedVariables false
/-- Both pipes, in step, behind w0. -/
def JS (w0 w : World) (gp gr cN : Nat) (who k : Int) (l : List Nat) (n : Nat) (row : List (Int × Int)) : Prop := n = l.length ∧ JM w0 w gp gr (cN : Int) who k l k (k + (n : Int)) row
section
variable {w0 : World} {gp gr cN n N : Nat} {who k : Int} {l : List Nat} {row : List (Int × Int)}
theorem JS.later {W W' : World} (h : JS w0 W gp gr cN who k l n row) (hb : Below W.heap.size W W') : JS w0 W' gp gr cN who k l n row := ⟨h.1, h.2.later hb⟩
theorem JS.below {W : World} (h : JS w0 W gp gr cN who k l n row) : Below w0.heap.size w0 W := h.2.below
theorem JS.cells {W : World} (h : JS w0 W gp gr cN who k l n row) : W.cell? ⟨gr, 2, none⟩ = some (.int .i64 k) ∧ W.cell? ⟨gr, 3, none⟩ = some (.int .i64 (k + (n : Int))) := by
  obtain ⟨_, Z1, Z2, _, h2, _⟩ := h
  obtain ⟨x, cap, hB, _⟩ := h2.parts
  exact ⟨(hB.2 2 _ rfl).1, (hB.2 3 _ rfl).1⟩
theorem JS.cell {W : World} (h : JS w0 W gp gr cN who k l n row) {p : Addr} {v : Value} (hc : w0.cell? p = some v) : W.cell? p = some v := (h.below.cell (cell_lt hc)).trans hc
theorem js_commit (W : World) (h : JS w0 W gp gr cN who k l n row) : Calls Try.prog 38 #[.pointer (some ⟨gp, 0, none⟩)] W fun e w' => e = .returned (.int .i64 k) ∧ JS w0 w' gp gr cN who k l n row := by
  obtain ⟨hn, Z1, Z2, h1, hr⟩ := id h
  refine h1.commit.mono ?_
  rintro e w' ⟨rfl, m, rfl⟩
  exact ⟨rfl, h.1, h.2.drewN m⟩
theorem js_head (hS : SR cN who k l row N) (W : World) (h : JS w0 W gp gr cN who k l n row) : Calls Try.prog 39 #[.pointer (some ⟨gp, 0, none⟩)] W fun e w' => e = .returned (.int .i64 (k + (n : Int))) ∧ JS w0 w' gp gr cN who k l n row := by
  obtain ⟨hn, Z1, Z2, h1, hr⟩ := id h
  refine (h1.head hS.k0 hS.k1).mono ?_
  rintro e w' ⟨rfl, m, rfl⟩
  exact ⟨by rw [hn], h.1, h.2.drewN m⟩
theorem js_room (W : World) (h : JS w0 W gp gr cN who k l n row) : Calls Try.prog 44 #[.pointer (some ⟨gp, 0, none⟩)] W fun e w' => e = .returned (.bool (decide ((n : Int) < 2))) ∧ JS w0 w' gp gr cN who k l n row := by
  obtain ⟨hn, Z1, Z2, h1, hr⟩ := id h
  refine h1.room.mono ?_
  rintro e w' ⟨rfl, m, rfl⟩
  exact ⟨by rw [hn], h.1, h.2.drewN m⟩
theorem SR.five (hS : SR cN who k l row N) : cN ≤ 5 := by
  have := hS.rel.cnt
  omega
theorem js_due (hS : SR cN who k l row N) (W : World) (op : Int) (h : JS w0 W gp gr cN who k l n row) : Calls Try.prog 40 #[.pointer (some ⟨gp, 0, none⟩), .int .i64 op] W fun e w' => ∃ v, e = .returned v ∧ Read1 w' v (dueL cN k l op) ∧ JS w0 w' gp gr cN who k l n row := by
  obtain ⟨hn, Z1, Z2, h1, hr⟩ := id h
  refine (due_any h1 rfl hS.five hS.k0 hS.k1 hS.rel.small op).mono ?_
  rintro e w' ⟨v, rfl, hR, hb⟩
  exact ⟨v, rfl, hR, h.later hb⟩
theorem js_refdue (hS : SR cN who k l row N) (hN : N ≤ 100000) (W : World) (op : Int) (v : Value) (h : JS w0 W gp gr cN who k l n row) (hv : Read1 W v (dueL cN k l op)) : Calls Try.prog 46 #[.pointer (some ⟨gr, 0, none⟩), .int .i64 op] W fun e w' => ∃ v2, e = .returned v2 ∧ Read1 w' v (dueL cN k l op) ∧ Read1 w' v2 (dueL cN k l op) ∧ JS w0 w' gp gr cN who k l n row := by
  obtain ⟨hn, Z1, Z2, _, h2, hr⟩ := id h
  have := hS.n
  rw [hn] at h2
  refine (refdue_any h2 rfl hS.rel (by omega) op).mono ?_
  rintro e w' ⟨v2, rfl, hR, hb⟩
  exact ⟨v2, rfl, hv.later hb, hR, h.later hb⟩
theorem js_same (W : World) (op : Int) (v v2 : Value) (hc5 : cN ≤ 5) (h : JS w0 W gp gr cN who k l n row) (h1 : Read1 W v (dueL cN k l op)) (h2 : Read1 W v2 (dueL cN k l op)) : Calls Try.prog 45 #[v, v2] W fun e w' => e = .returned (.bool true) ∧ JS w0 w' gp gr cN who k l n row := by
  have := dueL_len cN k l op
  refine (same_yes h1 h2 (by omega)).mono ?_
  rintro e w' ⟨rfl, m, rfl⟩
  exact ⟨rfl, h.1, h.2.drewN m⟩
/-- One step of both. -/
theorem js_add (hS : SR cN who k l row N) (hN : N ≤ 100000) {W : World} (h : JS w0 W gp gr cN who k l n row) : ∃ (l2 : List Nat) (n2 : Nat) (row2 : List (Int × Int)) (nv ev : Int) (M : World → Prop), SR cN who k l2 row2 (N + 1) ∧ n2 = l2.length ∧
    (Calls Try.prog 36 #[.pointer (some ⟨gp, 0, none⟩)] W fun e w' => e = .returned (.tuple #[.int .i64 nv, .int .i64 ev]) ∧ M w') ∧
    (∀ W', M W' → Calls Try.prog 42 #[.pointer (some ⟨gr, 0, none⟩)] W' fun e w' => e = .returned (.tuple #[.int .i64 nv, .int .i64 ev]) ∧ JS w0 w' gp gr cN who k l2 n2 row2) := by
  have h5 := hS.five
  have hw := hS.w
  have hn := hS.n
  have hA := hS.add
  refine ⟨_, _, _, _, _, fun w' => JM w0 w' gp gr cN who k _ k (k + (n : Int)) row, hA.1, rfl, h.2.pipe (fun Z hP => add_any hP (by omega) hS.k0 hS.k1), fun W' hM => ?_⟩
  rw [h.1] at hM
  refine (hM.ref (fun Z hP => refadd_any hP hS.k0 hS.k1 (by omega))).mono ?_
  rintro e w' ⟨rfl, hJ⟩
  exact ⟨rfl, rfl, hA.2 ▸ hJ⟩
theorem js_keep (hS : SR cN who k l row N) (hN : N ≤ 100000) {W : World} (h : JS w0 W gp gr cN who k l n row) (op f : Int) : ∃ (k2 : Int) (l2 : List Nat) (n2 : Nat) (row2 : List (Int × Int)) (ev : Int) (M : World → Prop), SR cN who k2 l2 row2 (N + 1) ∧ n2 = l2.length ∧ (∀ W W', M W → Below W.heap.size W W' → M W') ∧ (∀ W, M W → Below w0.heap.size w0 W) ∧
    (∀ W', Below W.heap.size W W' → Calls Try.prog 37 #[.pointer (some ⟨gp, 0, none⟩), .int .i64 op, .int .i64 f] W' fun e w' => e = .returned (.int .i64 ev) ∧ M w') ∧
    (∀ W', M W' → Calls Try.prog 43 #[.pointer (some ⟨gr, 0, none⟩), .int .i64 op, .int .i64 f] W' fun e w' => e = .returned (.int .i64 ev) ∧ JS w0 w' gp gr cN who k2 l2 n2 row2) := by
  have h5 := hS.five
  have hn := hS.n
  have hc := hS.rel.cnt
  have hA := hS.keep op f
  refine ⟨_, _, _, _, kErr cN k l op f, fun w' => JM w0 w' gp gr cN who (k + (kDone cN k l op f : Nat)) ((kSet cN k l op f).drop (kDone cN k l op f)) k (k + (n : Int)) row, hA.1, rfl, fun _ _ h hb => h.later hb, fun _ h => h.below, fun W' hb => (h.2.later hb).pipe (fun Z hP => kept_any hP (by omega) hS.k0 hS.k1 hS.rel.small op f), fun W' hM => ?_⟩
  rw [h.1] at hM
  refine (hM.ref (fun Z hP => refkept_any hP rfl h5 hS.k0 hS.k1 (by omega) op f hA.2.2)).mono ?_
  rintro e w' ⟨rfl, hJ⟩
  exact ⟨rfl, rfl, hA.2.1 ▸ hJ⟩
end
end Go.Proofs.Ytecaahcmebdglaa

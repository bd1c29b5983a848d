/- Both boxes in one memory. -/
import Derived.Test.YtnldjddmchfcoaaMailG
import Derived.Test.YtnldjddmchfcoaaActS
namespace Go.Proofs.Ytnldjddmchfcoaa
open Go.RowKit Go.Conc
set_option linter.unusedVariables false
/-- Both boxes, behind w0. -/
def MM (w0 W : World) (g c gr cap : Nat) (L L2 : List Ltr) : Prop :=
  Bx W g c cap L ∧ (w0.heap.size ≤ g ∧ w0.heap.size ≤ c) ∧ Below w0.heap.size w0 W ∧ ∃ Z : Nat → Prop, Rx Z W gr (cap : Int) L2 ∧ ∀ q, Z q → q ≠ g ∧ q ≠ c ∧ w0.heap.size ≤ q ∧ q < W.heap.size
section
variable {w0 W W' : World} {g c gr cap : Nat} {L L2 : List Ltr}
theorem MM.later (h : MM w0 W g c gr cap L L2) (hb : Below W.heap.size W W') : MM w0 W' g c gr cap L L2 := by
  obtain ⟨h1, h2, h3, Z, h4, h5⟩ := h
  exact ⟨h1.later hb, h2, h3.trans (hb.mono h3.size), Z, h4.later hb, fun q hq => ⟨(h5 q hq).1, (h5 q hq).2.1, (h5 q hq).2.2.1, Nat.lt_of_lt_of_le (h5 q hq).2.2.2 hb.size⟩⟩
theorem MM.drewN (h : MM w0 W g c gr cap L L2) (n : Nat) : MM w0 (W.drewN n) g c gr cap L L2 := h.later ⟨rfl, rfl, rfl, Nat.le_refl _, fun _ _ => rfl⟩
theorem MM.below (h : MM w0 W g c gr cap L L2) : Below w0.heap.size w0 W := h.2.2.1
theorem MM.cell (h : MM w0 W g c gr cap L L2) {p : Addr} {v : Value} (hc : w0.cell? p = some v) : W.cell? p = some v := (h.below.cell (cell_lt hc)).trans hc
/-- A step of the box. -/
theorem MM.box {L' : List Ltr} (h : MM w0 W g c gr cap L L2) (hB : Bx W' g c cap L') (hT : Turned (fun q => q = c ∨ W.heap.size ≤ q) W W') : MM w0 W' g c gr cap L' L2 := by
  obtain ⟨h1, h2, h3, Z, h4, h5⟩ := h
  refine ⟨hB, h2, h3.trans (hT.below (fun q h => ?_) h3.size), Z, h4.turned hT (fun q hq => ?_), fun q hq => ⟨(h5 q hq).1, (h5 q hq).2.1, (h5 q hq).2.2.1, Nat.lt_of_lt_of_le (h5 q hq).2.2.2 hT.size⟩⟩
  · rcases h with rfl | h
    · exact h2.2
    · exact Nat.le_trans h3.size h
  · have := h5 q hq
    rintro (e | e)
    · exact this.2.1 e
    · omega
/-- A step of the reference's. -/
theorem MM.ref {f : FuncId} {args : Array Value} {E : Ending} {L2' : List Ltr} (h : MM w0 W g c gr cap L L2) (hf : ∀ Z, Rx Z W gr (cap : Int) L2 → (∀ q, Z q → q < W.heap.size) → Calls Try.prog f args W fun e w' => e = E ∧ Rx (fun q => Z q ∨ W.heap.size ≤ q) w' gr (cap : Int) L2' ∧ Turned Z W w') : Calls Try.prog f args W fun e w' => e = E ∧ MM w0 w' g c gr cap L L2' := by
  obtain ⟨h1, h2, h3, Z, h4, h5⟩ := h
  refine (hf Z h4 (fun q hq => (h5 q hq).2.2.2)).mono ?_
  rintro e w' ⟨rfl, hR, hT⟩
  have hgc := h1.2.1.1
  have hcc := h1.2.2.1
  refine ⟨rfl, h1.turned hT (fun e => (h5 g e).1 rfl) (fun e => (h5 c e).2.1 rfl), h2, h3.trans (hT.below (fun q h => (h5 q h).2.2.1) h3.size), _, hR.lt, fun q hq => ?_⟩
  have hw := h3.size
  rcases hq.1 with hz | hz
  · exact ⟨(h5 q hz).1, (h5 q hz).2.1, (h5 q hz).2.2.1, hq.2⟩
  · exact ⟨fun e => by omega, fun e => by omega, by omega, hq.2⟩
theorem MM.ref2 {f : FuncId} {args : Array Value} {E : Ending} {L2' : List Ltr} (o : Obj) (h : MM w0 W g c gr cap L L2) (hf : ∀ Z, Rx Z (W.alloc o) gr (cap : Int) L2 → (∀ q, Z q → q < (W.alloc o).heap.size) → Calls Try.prog f args (W.alloc o) fun e w' => e = E ∧ Rx (fun q => Z q ∨ (W.alloc o).heap.size ≤ q) w' gr (cap : Int) L2' ∧ Turned Z (W.alloc o) w') : Calls Try.prog f args (W.alloc o) fun e w' => e = E ∧ MM w0 w' g c gr cap L L2' ∧ (∀ i, w'.cell? ⟨W.heap.size, i, none⟩ = (W.alloc o).cell? ⟨W.heap.size, i, none⟩) ∧ W.heap.size < w'.heap.size := by
  obtain ⟨h1, h2, h3, Z, h4, h5⟩ := h
  have hb : Below W.heap.size W (W.alloc o) := (Below.refl _ _).alloc (Nat.le_refl _) o
  have h1 := h1.later hb
  have hs : (W.alloc o).heap.size = W.heap.size + 1 := by simp
  refine (hf Z (h4.later hb) (fun q hq => by have := (h5 q hq).2.2.2; omega)).mono ?_
  rintro e w' ⟨rfl, hR, hT⟩
  have hgc := h1.2.1.1
  have hcc := h1.2.2.1
  have h3 := h3.trans (hb.mono h3.size)
  have hts := hT.size
  refine ⟨rfl, ⟨h1.turned hT (fun e => (h5 g e).1 rfl) (fun e => (h5 c e).2.1 rfl), h2, h3.trans (hT.below (fun q h => (h5 q h).2.2.1) h3.size), _, hR.lt, fun q hq => ?_⟩, fun i => hT.cell (p := ⟨W.heap.size, i, none⟩) (by rw [hs]; exact Nat.lt_succ_self _) (fun hz => by have := (h5 _ hz).2.2.2; exact Nat.lt_irrefl _ this), by omega⟩
  have hw := h3.size
  rcases hq.1 with hz | hz
  · exact ⟨(h5 q hz).1, (h5 q hz).2.1, (h5 q hz).2.2.1, hq.2⟩
  · exact ⟨fun e => by omega, fun e => by omega, by omega, hq.2⟩
theorem MM.cells (h : MM w0 W g c gr cap L L2) : ∃ x cp, W.cell? ⟨gr, 1, none⟩ = some (.slice x L2.length cp) ∧ W.frozen? ⟨gr, 1, none⟩ = false ∧ ReadL W (.slice x L2.length cp) L2 := by
  obtain ⟨_, _, _, Z, h4, _⟩ := h
  obtain ⟨_, v, hB, hO⟩ := h4
  obtain ⟨x, cp, rfl⟩ := hO.shape
  exact ⟨x, cp, (hB.2 1 _ rfl).1, (hB.2 1 _ rfl).2, ReadL.of_own hO rfl⟩
/-- The reference forgets its letters. -/
theorem MM.clear (h : MM w0 W g c gr cap L L2) : MM w0 (W.setCell ⟨gr, 1, none⟩ (.slice none 0 0)) g c gr cap L [] := by
  obtain ⟨h1, h2, h3, Z, h4, h5⟩ := h
  obtain ⟨hz, v, hB, hO⟩ := h4
  have ht : Turned Z W (W.setCell ⟨gr, 1, none⟩ (.slice none 0 0)) := Turned.setCell (X := Z) ⟨gr, 1, none⟩ _ hz
  exact ⟨h1.turned ht (fun e => (h5 g e).1 rfl) (fun e => (h5 c e).2.1 rfl), h2, h3.trans (ht.below (fun q h => (h5 q h).2.2.1) h3.size), Z, ⟨hz, _, hB.set_ 1 _, OwnC.nil _ _ _⟩, fun q hq => ⟨(h5 q hq).1, (h5 q hq).2.1, (h5 q hq).2.2.1, by simpa using (h5 q hq).2.2.2⟩⟩
end
def pErr (cap : Nat) (L : List Ltr) (x : Ltr) : Int := if L.length < cap then (if 4096 < x.d.size then 5 else 0) else 9
def pL (cap : Nat) (L : List Ltr) (x : Ltr) : List Ltr := if L.length < cap ∧ ¬ 4096 < x.d.size then L ++ [x] else L
theorem pL_len (cap : Nat) (L : List Ltr) (x : Ltr) : (pL cap L x).length ≤ L.length + 1 := by
  unfold pL
  split <;> simp
section
variable {w0 W : World} {g c gr cap : Nat} {L L2 : List Ltr}
theorem mm_put (h : MM w0 W g c gr cap L L2) (x : Ltr) : Calls Try.prog 19 #[.pointer (some ⟨g, 0, none⟩), .agg #[.int .i64 x.f, .int .i64 x.t, .string x.d]] W fun e w' => e = .returned (.int .i64 (pErr cap L x)) ∧ MM w0 w' g c gr cap (pL cap L x) L2 := by
  show Calls Try.prog 19 #[.pointer (some ⟨g, 0, none⟩), x.v] W _
  unfold pErr pL
  by_cases q : L.length < cap
  · by_cases q2 : 4096 < x.d.size
    · refine (put_long h.1 x (by omega) (by omega)).mono ?_
      rintro e w' ⟨rfl, hB, hT⟩
      rw [if_pos q, if_pos q2, if_neg (fun h => h.2 q2)]
      exact ⟨rfl, h.box hB hT⟩
    · refine (put_yes h.1 x (by omega) (by omega)).mono ?_
      rintro e w' ⟨rfl, hB, hT⟩
      rw [if_pos q, if_neg q2, if_pos ⟨q, q2⟩]
      exact ⟨rfl, h.box hB hT⟩
  · refine (put_full h.1 x (by simp; omega) trivial).mono ?_
    rintro e w' ⟨rfl, hB, hT⟩
    rw [if_neg q, if_neg (fun h => q h.1)]
    exact ⟨rfl, h.box hB hT⟩
theorem mm_refput (h : MM w0 W g c gr cap L L2) (hL : L2.length ≤ 100000) (x : Ltr) : Calls Try.prog 20 #[.pointer (some ⟨gr, 0, none⟩), .agg #[.int .i64 x.f, .int .i64 x.t, .string x.d]] W fun e w' => e = .returned (.int .i64 (pErr cap L2 x)) ∧ MM w0 w' g c gr cap L (pL cap L2 x) := by
  show Calls Try.prog 20 #[.pointer (some ⟨gr, 0, none⟩), x.v] W _
  refine h.ref (fun Z hR hz => ?_)
  unfold pErr pL
  by_cases q : L2.length < cap
  · by_cases q2 : 4096 < x.d.size
    · rw [if_pos q, if_pos q2, if_neg (fun h => h.2 q2)]
      exact refput_long hR x (by omega) (by omega) hL
    · rw [if_pos q, if_neg q2, if_pos ⟨q, q2⟩]
      exact refput_yes hR hz x (by omega) (by omega) hL
  · rw [if_neg q, if_neg (fun h => q h.1)]
    exact refput_full hR x (by omega) trivial hL
theorem mm_len (h : MM w0 W g c gr cap L L2) : Calls Try.prog 25 #[.pointer (some ⟨g, 0, none⟩)] W fun e w' => e = .returned (.int .i64 L.length) ∧ MM w0 w' g c gr cap L L2 := by
  refine (len_bx h.1).mono ?_
  rintro e w' ⟨rfl, rfl⟩
  exact ⟨rfl, h⟩
theorem mm_all (h : MM w0 W g c gr cap L L2) (hL : L.length ≤ 100000) : Calls Try.prog 24 #[.pointer (some ⟨g, 0, none⟩)] W fun e w' => ∃ v, e = .returned v ∧ ReadL w' v L ∧ MM w0 w' g c gr cap [] L2 := by
  refine (all_bx h.1 hL).mono ?_
  rintro e w' ⟨⟨x, cp, rfl, hO⟩, hB, hT⟩
  exact ⟨_, rfl, ReadL.of_own hO rfl, h.box hB hT⟩
theorem mm_same (h : MM w0 W g c gr cap L L2) {v v2 : Value} {D : List Ltr} (hD : D.length ≤ 1000000) (h1 : ReadL W v D) (h2 : ReadL W v2 D) : Calls Try.prog 23 #[v, v2] W fun e w' => e = .returned (.bool true) ∧ MM w0 w' g c gr cap L L2 := by
  refine (same_l h1 h2 hD).mono ?_
  rintro e w' ⟨rfl, m, rfl⟩
  exact ⟨rfl, h.drewN m⟩
theorem mm_same2 {v v2 : Value} {D : List Ltr} (hD : D.length ≤ 1000000) (h1 : ReadL W v D) (h2 : ReadL W v2 D) : Calls Try.prog 23 #[v, v2] W fun e w' => e = .returned (.bool true) ∧ ∃ m, w' = W.drewN m := same_l h1 h2 hD
theorem mm_len2 (h : MM w0 W g c gr cap L L2) : Calls Try.prog 25 #[.pointer (some ⟨g, 0, none⟩)] W fun e w' => e = .returned (.int .i64 L.length) ∧ W = w' := len_bx h.1
theorem mm_all2 (h : MM w0 W g c gr cap L L2) (hL : L.length ≤ 100000) {V : Value} (hV : W.cell? ⟨gr, 1, none⟩ = some V) : Calls Try.prog 24 #[.pointer (some ⟨g, 0, none⟩)] W fun e w' => ∃ v, e = .returned v ∧ ReadL w' v L ∧ ReadL w' V L2 ∧ w'.cell? ⟨gr, 1, none⟩ = some V ∧ MM w0 w' g c gr cap [] L2 := by
  refine (all_bx h.1 hL).mono ?_
  rintro e w' ⟨⟨x, cp, rfl, hO⟩, hB, hT⟩
  have hM := h.box hB hT
  obtain ⟨_, _, _, Z, h4, h5⟩ := h
  have hgr := h5 gr h4.1
  have hV' : w'.cell? ⟨gr, 1, none⟩ = some V := (hT.cell (p := ⟨gr, 1, none⟩) hgr.2.2.2 (fun h => by
    rcases h with h | h
    · exact hgr.2.1 h
    · have h : W.heap.size ≤ gr := h
      omega)).trans hV
  obtain ⟨x2, cp2, q1, _, q3⟩ := hM.cells
  have hVV : V = .slice x2 L2.length cp2 := Option.some.inj (hV'.symm.trans q1)
  exact ⟨_, rfl, ReadL.of_own hO rfl, by rw [hVV]; exact q3, hV', hM⟩
theorem mm_take (h : MM w0 W g c gr cap L L2) : ∃ (x : Ltr) (ok : Bool), (∀ y L', L = y :: L' → x = y ∧ ok = true) ∧ (L = [] → x = zl ∧ ok = false) ∧ Calls Try.prog 21 #[.pointer (some ⟨g, 0, none⟩)] W fun e w' => e = .returned (.tuple #[.agg #[.int .i64 x.f, .int .i64 x.t, .string x.d], .bool ok]) ∧ MM w0 w' g c gr cap L.tail L2 := by
  cases L with
  | nil =>
    refine ⟨zl, false, fun y L' e => (by cases e), fun _ => ⟨rfl, rfl⟩, (take_none h.1).mono ?_⟩
    rintro e w' ⟨rfl, hB, hb⟩
    exact ⟨rfl, h.later hb⟩
  | cons x L' =>
    refine ⟨x, true, fun y L'' e => (by injection e with e1 e2; exact ⟨e1, rfl⟩), fun e => (by cases e), (take_some h.1).mono ?_⟩
    rintro e w' ⟨rfl, hB, hT⟩
    exact ⟨rfl, h.box hB hT⟩
theorem mm_reftake (h : MM w0 W g c gr cap L L2) (o : Obj) (hL : L2.length ≤ 100000) : ∃ (x : Ltr) (ok : Bool), (∀ y L', L2 = y :: L' → x = y ∧ ok = true) ∧ (L2 = [] → x = zl ∧ ok = false) ∧ Calls Try.prog 22 #[.pointer (some ⟨gr, 0, none⟩)] (W.alloc o) fun e w' => e = .returned (.tuple #[.agg #[.int .i64 x.f, .int .i64 x.t, .string x.d], .bool ok]) ∧ MM w0 w' g c gr cap L L2.tail ∧ (∀ i, w'.cell? ⟨W.heap.size, i, none⟩ = (W.alloc o).cell? ⟨W.heap.size, i, none⟩) ∧ W.heap.size < w'.heap.size := by
  cases L2 with
  | nil => exact ⟨zl, false, fun y L' e => (by cases e), fun _ => ⟨rfl, rfl⟩, h.ref2 o (fun Z hR hz => reftake_none hR)⟩
  | cons x L' => exact ⟨x, true, fun y L'' e => (by injection e with e1 e2; exact ⟨e1, rfl⟩), fun e => (by cases e), h.ref2 o (fun Z hR hz => reftake_some (L := L') hR (by rw [List.length_cons] at hL; omega))⟩
end
/-- The numbers of one act. -/
theorem row4 {w : World} {ad : Option Addr} {L : List (List Value)} (h : RowsAt w ad 4 L) (ht : ∀ r ∈ L, ∃ (c0 c1 c2 : Int) (c3 : ByteArray), r = [.int .i64 c0, .int .i64 c1, .int .i64 c2, .string c3] ∧ (-9223372036854775808 ≤ c0 ∧ c0 ≤ 9223372036854775807) ∧ (-9223372036854775808 ≤ c1 ∧ c1 ≤ 9223372036854775807) ∧ (-9223372036854775808 ≤ c2 ∧ c2 ≤ 9223372036854775807)) (i : Nat) (hi : i < L.length) :
    ∃ (b off : Nat) (k : Int) (x : Ltr), ad = some ⟨b, off, none⟩ ∧ w.cell? ⟨b, off + i * 4, none⟩ = some (.int .i64 k) ∧ w.cell? ⟨b, off + i * 4 + 1, none⟩ = some (.int .i64 x.f) ∧ w.cell? ⟨b, off + i * 4 + 2, none⟩ = some (.int .i64 x.t) ∧ w.cell? ⟨b, off + i * 4 + 3, none⟩ = some (.string x.d) := by
  obtain ⟨k, x, y, z, hr, _, _, _⟩ := ht L[i] (List.getElem_mem hi)
  have hg : L[i]? = some [.int .i64 k, .int .i64 x, .int .i64 y, .string z] := by rw [List.getElem?_eq_getElem hi, hr]
  cases ad with
  | none => rw [h.1 rfl] at hi; exact absurd hi (by simp)
  | some a =>
    obtain ⟨b, off, spot⟩ := a
    have hsp : spot = none := by
      obtain ⟨x0, y0, z0, u0, hr0, _⟩ := ht L[0] (List.getElem_mem (by omega))
      have hg0 : L[0]? = some [.int .i64 x0, .int .i64 y0, .int .i64 z0, .string u0] := by rw [List.getElem?_eq_getElem (by omega), hr0]
      have h0 := h.2 _ rfl 0 _ hg0 0 _ rfl
      cases spot with
      | none => rfl
      | some q =>
        simp [Addr.add, World.cell?] at h0
        split at h0 <;> simp at h0
    subst hsp
    have hadd : ∀ j, (⟨b, off, none⟩ : Addr).add j = ⟨b, off + j, none⟩ := by intro j; unfold Addr.add; split <;> simp_all
    have h0 := h.2 _ rfl i _ hg 0 _ rfl
    have h1 := h.2 _ rfl i _ hg 1 _ rfl
    have h2 := h.2 _ rfl i _ hg 2 _ rfl
    have h3 := h.2 _ rfl i _ hg 3 _ rfl
    rw [hadd] at h0 h1 h2 h3
    exact ⟨b, off, k, ⟨x, y, z⟩, rfl, h0, h1, h2, h3⟩
end Go.Proofs.Ytnldjddmchfcoaa

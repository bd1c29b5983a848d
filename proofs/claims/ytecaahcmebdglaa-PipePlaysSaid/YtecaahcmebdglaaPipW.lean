/- Both pipes in one memory; each call on either of them. -/
import Derived.Test.YtecaahcmebdglaaPipV
namespace Go.Proofs.Ytecaahcmebdglaa
open Go.RowKit
set_option linter.unusedVariables false
theorem cell_lt {w : World} {p : Addr} {v : Value} (h : w.cell? p = some v) : p.block < w.heap.size := by
  refine Nat.lt_of_not_le fun q => ?_
  have : w.heap[p.block]? = none := Array.getElem?_eq_none q
  unfold World.cell? at h
  simp [this] at h
theorem Read1.later {w w' : World} {v : Value} {L : List Int} (h : Read1 w v L) (hb : Below w.heap.size w w') : Read1 w' v L := by
  obtain ⟨x, cap, hv, hc⟩ := h
  refine ⟨x, cap, hv, fun j a ha => ?_⟩
  obtain ⟨b, off, hx, hcell⟩ := hc j a ha
  exact ⟨b, off, hx, (hb.cell (p := ⟨b, off + j, none⟩) (cell_lt hcell)).trans hcell⟩
theorem Pp.lt {Z : Nat → Prop} {w : World} {g : Nat} {c who k : Int} {l : List Nat} (h : Pp Z w g c who k l) : Pp (fun q => Z q ∧ q < w.heap.size) w g c who k l := by
  obtain ⟨hg, v, hB, h1, h2⟩ := h
  refine ⟨⟨hg, hB.1⟩, v, hB, h1, ?_⟩
  rcases h2 with h | ⟨b, off, cap, hv, hb, hlt, r⟩
  · exact .inl h
  · exact .inr ⟨b, off, cap, hv, ⟨⟨hb.1, hlt⟩, hb.2⟩, hlt, r⟩
theorem Rp.lt {Z : Nat → Prop} {w : World} {g : Nat} {c who k h : Int} {l : List (Int × Int)} (hP : Rp Z w g c who k h l) : Rp (fun q => Z q ∧ q < w.heap.size) w g c who k h l := by
  obtain ⟨hg, v, hB, h1, h2⟩ := hP
  refine ⟨⟨hg, hB.1⟩, v, hB, h1, ?_⟩
  rcases h2 with h | ⟨b, off, cap, hv, hb, hlt, r⟩
  · exact .inl h
  · exact .inr ⟨b, off, cap, hv, ⟨⟨hb.1, hlt⟩, hb.2⟩, hlt, r⟩
/-- Both pipes, behind a world w0. -/
def JM (w0 w : World) (gp gr : Nat) (c who k : Int) (l : List Nat) (kr h : Int) (row : List (Int × Int)) : Prop :=
  ∃ Z1 Z2 : Nat → Prop, Pp Z1 w gp c who k l ∧ Rp Z2 w gr c who kr h row ∧ (∀ q, Z1 q → ¬ Z2 q) ∧ (∀ q, Z1 q → w0.heap.size ≤ q ∧ q < w.heap.size) ∧ (∀ q, Z2 q → w0.heap.size ≤ q ∧ q < w.heap.size) ∧ Below w0.heap.size w0 w
section
variable {w0 w w' : World} {gp gr : Nat} {c who k kr h : Int} {l : List Nat} {row : List (Int × Int)}
theorem JM.later (hJ : JM w0 w gp gr c who k l kr h row) (hb : Below w.heap.size w w') : JM w0 w' gp gr c who k l kr h row := by
  obtain ⟨Z1, Z2, h1, h2, hd, hz1, hz2, hw⟩ := hJ
  exact ⟨Z1, Z2, h1.later hb, h2.later hb, hd, fun q hq => ⟨(hz1 q hq).1, Nat.lt_of_lt_of_le (hz1 q hq).2 hb.size⟩, fun q hq => ⟨(hz2 q hq).1, Nat.lt_of_lt_of_le (hz2 q hq).2 hb.size⟩, hw.trans (hb.mono hw.size)⟩
theorem JM.drewN (hJ : JM w0 w gp gr c who k l kr h row) (n : Nat) : JM w0 (w.drewN n) gp gr c who k l kr h row := hJ.later ⟨rfl, rfl, rfl, Nat.le_refl _, fun _ _ => rfl⟩
theorem JM.below (hJ : JM w0 w gp gr c who k l kr h row) : Below w0.heap.size w0 w := by
  obtain ⟨_, _, _, _, _, _, _, hw⟩ := hJ
  exact hw
theorem JM.pipe {f : FuncId} {args : Array Value} {E : Ending} {k' : Int} {l' : List Nat} (hJ : JM w0 w gp gr c who k l kr h row)
    (hf : ∀ Z, Pp Z w gp c who k l → Calls Try.prog f args w fun e w' => e = E ∧ Pp (fun q => Z q ∨ w.heap.size ≤ q) w' gp c who k' l' ∧ Turned Z w w') : Calls Try.prog f args w fun e w' => e = E ∧ JM w0 w' gp gr c who k' l' kr h row := by
  obtain ⟨Z1, Z2, h1, h2, hd, hz1, hz2, hw⟩ := hJ
  refine (hf Z1 h1).mono ?_
  rintro e w' ⟨rfl, hP, hT⟩
  refine ⟨rfl, _, Z2, hP.lt, h2.turned hT (fun q q2 q1 => hd q q1 q2), fun q q1 q2 => ?_, fun q q1 => ⟨?_, q1.2⟩, fun q q2 => ⟨(hz2 q q2).1, Nat.lt_of_lt_of_le (hz2 q q2).2 hT.size⟩, hw.trans (hT.below (fun q h => (hz1 q h).1) hw.size)⟩
  · rcases q1.1 with q1 | q1
    · exact hd q q1 q2
    · have := (hz2 q q2).2; omega
  · rcases q1.1 with q1 | q1
    · exact (hz1 q q1).1
    · have := hw.size; omega
theorem JM.ref {f : FuncId} {args : Array Value} {E : Ending} {kr' h' : Int} {row' : List (Int × Int)} (hJ : JM w0 w gp gr c who k l kr h row)
    (hf : ∀ Z, Rp Z w gr c who kr h row → Calls Try.prog f args w fun e w' => e = E ∧ Rp (fun q => Z q ∨ w.heap.size ≤ q) w' gr c who kr' h' row' ∧ Turned Z w w') : Calls Try.prog f args w fun e w' => e = E ∧ JM w0 w' gp gr c who k l kr' h' row' := by
  obtain ⟨Z1, Z2, h1, h2, hd, hz1, hz2, hw⟩ := hJ
  refine (hf Z2 h2).mono ?_
  rintro e w' ⟨rfl, hP, hT⟩
  refine ⟨rfl, Z1, _, h1.turned hT (fun q q1 q2 => hd q q1 q2), hP.lt, fun q q1 q2 => ?_, fun q q1 => ⟨(hz1 q q1).1, Nat.lt_of_lt_of_le (hz1 q q1).2 hT.size⟩, fun q q2 => ⟨?_, q2.2⟩, hw.trans (hT.below (fun q h => (hz2 q h).1) hw.size)⟩
  · rcases q2.1 with q2 | q2
    · exact hd q q1 q2
    · have := (hz1 q q1).2; omega
  · rcases q2.1 with q2 | q2
    · exact (hz2 q q2).1
    · have := hw.size; omega
end
theorem Turned.drewN {X : Nat → Prop} {w : World} (n : Nat) : Turned X w (w.drewN n) := ⟨rfl, rfl, rfl, Nat.le_refl _, fun _ _ _ => rfl⟩
/-- Is no room for one more? -/
def full (k : Int) (l : List Nat) : Prop := k + l.length = 72057594037927935 ∨ 16 ≤ l.length
instance (k : Int) (l : List Nat) : Decidable (full k l) := by unfold full; exact inferInstance
section
variable {w : World} {Z : Nat → Prop} {g : Nat} {c who k h : Int} {l : List Nat} {row : List (Int × Int)}
theorem add_any (hP : Pp Z w g c who k l) (hw : 1 ≤ who ∧ who ≤ 5) (h0 : 0 ≤ k) (h1 : k + l.length ≤ 72057594037927935) : Calls Try.prog 36 #[.pointer (some ⟨g, 0, none⟩)] w fun e w' =>
    e = .returned (.tuple #[.int .i64 (if full k l then 0 else k + l.length + 1), .int .i64 (if full k l then 9 else 0)]) ∧ Pp (fun q => Z q ∨ w.heap.size ≤ q) w' g c who k (if full k l then l else l ++ [Quo.wth 0 who]) ∧ Turned Z w w' := by
  by_cases hf : full k l
  · obtain ⟨x, cap, hB, -⟩ := hP.pc
    refine (add_full hB h0 h1 (by unfold full at hf; omega)).mono ?_
    rintro e w' ⟨rfl, m, rfl⟩
    simp only [if_pos hf]
    exact ⟨trivial, (hP.drewN m).mono (fun q h => .inl h), Turned.drewN m⟩
  · have hf' := hf
    unfold full at hf'
    refine (add_ok hP hw h0 (by omega) (by omega)).mono ?_
    rintro e w' ⟨rfl, h2, h3⟩
    simp only [if_neg hf]
    exact ⟨trivial, h2, h3⟩
theorem refadd_any (hP : Rp Z w g c who k (k + l.length) row) (h0 : 0 ≤ k) (h1 : k + l.length ≤ 72057594037927935) (hn : row.length ≤ 100000) : Calls Try.prog 42 #[.pointer (some ⟨g, 0, none⟩)] w fun e w' =>
    e = .returned (.tuple #[.int .i64 (if full k l then 0 else k + l.length + 1), .int .i64 (if full k l then 9 else 0)]) ∧ Rp (fun q => Z q ∨ w.heap.size ≤ q) w' g c who k (if full k l then k + l.length else k + l.length + 1) (if full k l then row else row ++ [(k + l.length + 1, who)]) ∧ Turned Z w w' := by
  by_cases hf : full k l
  · refine (refadd_full hP h0 (by omega) h1 (by unfold full at hf; omega)).mono ?_
    rintro e w' ⟨rfl, m, rfl⟩
    simp only [if_pos hf]
    exact ⟨trivial, (hP.later (w' := w.drewN m) ⟨rfl, rfl, rfl, Nat.le_refl _, fun _ _ => rfl⟩).mono (fun q h => .inl h), Turned.drewN m⟩
  · have hf' := hf
    unfold full at hf'
    refine (refadd_ok hP h0 (by omega) (by omega) (by omega) hn).mono ?_
    rintro e w' ⟨rfl, h2, h3⟩
    simp only [if_neg hf]
    exact ⟨trivial, h2, h3⟩
end
/-- What Kept gives: the number of the fault; how many are committed by it; the sets before that; the rows. -/
def kErr (c k : Int) (l : List Nat) (op f : Int) : Int := if 1 ≤ f ∧ f ≤ c then (if k < op ∧ op ≤ k + l.length then 0 else 8) else 1
def kSet (c k : Int) (l : List Nat) (op f : Int) : List Nat := if (1 ≤ f ∧ f ≤ c) ∧ (k < op ∧ op ≤ k + l.length) then l.set (op - k - 1).toNat (Quo.wth (l.getD (op - k - 1).toNat 0) f) else l
def kDone (c k : Int) (l : List Nat) (op f : Int) : Nat := if (1 ≤ f ∧ f ≤ c) ∧ (k < op ∧ op ≤ k + l.length) then Pip.done c (kSet c k l op f) else 0
def kRow (c k : Int) (l : List Nat) (op f : Int) (row : List (Int × Int)) : List (Int × Int) := if (1 ≤ f ∧ f ≤ c) ∧ (k < op ∧ op ≤ k + l.length) then row ++ [(op, f)] else row
section
variable {w : World} {Z : Nat → Prop} {g : Nat} {c who k h : Int} {l : List Nat} {row : List (Int × Int)}
theorem kept_any (hP : Pp Z w g c who k l) (hc : c = 3 ∨ c = 5) (h0 : 0 ≤ k) (h1 : k + l.length ≤ 72057594037927935) (hs : ∀ s ∈ l, s < 32) (op f : Int) : Calls Try.prog 37 #[.pointer (some ⟨g, 0, none⟩), .int .i64 op, .int .i64 f] w fun e w' =>
    e = .returned (.int .i64 (kErr c k l op f)) ∧ Pp (fun q => Z q ∨ w.heap.size ≤ q) w' g c who (k + (kDone c k l op f : Nat)) ((kSet c k l op f).drop (kDone c k l op f)) ∧ Turned Z w w' := by
  by_cases hf : 1 ≤ f ∧ f ≤ c
  · by_cases ho : k < op ∧ op ≤ k + l.length
    · obtain ⟨i, hi⟩ : ∃ i : Nat, op = k + 1 + i := ⟨(op - k - 1).toNat, by omega⟩
      have hil : i < l.length := by omega
      have hg : l[i]? = some l[i] := List.getElem?_eq_getElem hil
      have e1 : (op - k - 1).toNat = i := by omega
      have e2 : l.getD i 0 = l[i] := by rw [List.getD_eq_getElem?_getD, hg]; rfl
      refine (kept_ok hP hc h0 h1 hs i _ hg op f hi hf).mono ?_
      rintro e w' ⟨rfl, h2, h3⟩
      have HY : (1 ≤ f ∧ f ≤ c) ∧ (k < op ∧ op ≤ k + l.length) := ⟨hf, ho⟩
      simp only [kDone, kSet, kErr, if_pos HY, if_pos hf, if_pos ho, e1, e2]
      exact ⟨trivial, h2, h3⟩
    · obtain ⟨x, cap, hB, -⟩ := hP.pc
      refine (kept_none hB h0 h1 op f hf ho).mono ?_
      rintro e w' ⟨rfl, m, rfl⟩
      have HY : ¬ ((1 ≤ f ∧ f ≤ c) ∧ (k < op ∧ op ≤ k + l.length)) := fun q => ho q.2
      simp only [kDone, kSet, kErr, if_neg HY, if_pos hf, if_neg ho]
      refine ⟨trivial, ?_, Turned.drewN m⟩
      simpa using (hP.drewN m).mono (Z' := fun q => Z q ∨ w.heap.size ≤ q) (fun q h => .inl h)
  · obtain ⟨x, cap, hB, -⟩ := hP.pc
    refine (kept_arg hB h0 h1 op f (by omega)).mono ?_
    rintro e w' ⟨rfl, m, rfl⟩
    have HY : ¬ ((1 ≤ f ∧ f ≤ c) ∧ (k < op ∧ op ≤ k + l.length)) := fun q => hf q.1
    simp only [kDone, kSet, kErr, if_neg HY, if_neg hf]
    refine ⟨trivial, ?_, Turned.drewN m⟩
    simpa using (hP.drewN m).mono (Z' := fun q => Z q ∨ w.heap.size ≤ q) (fun q h => .inl h)
theorem refkept_any {cN : Nat} (hP : Rp Z w g c who k (k + l.length) row) (hcN : c = (cN : Int)) (hc5 : cN ≤ 5) (h0 : 0 ≤ k) (h1 : k + l.length ≤ 72057594037927935) (hn : row.length ≤ 100000) (op f : Int) (hd : (1 ≤ f ∧ f ≤ c) ∧ (k < op ∧ op ≤ k + l.length) → Pip.doneR cN (row ++ [(op, f)]) k l.length = kDone c k l op f) :
    Calls Try.prog 43 #[.pointer (some ⟨g, 0, none⟩), .int .i64 op, .int .i64 f] w fun e w' =>
    e = .returned (.int .i64 (kErr c k l op f)) ∧ Rp (fun q => Z q ∨ w.heap.size ≤ q) w' g c who (k + (kDone c k l op f : Nat)) (k + l.length) (kRow c k l op f row) ∧ Turned Z w w' := by
  by_cases hf : 1 ≤ f ∧ f ≤ c
  · by_cases ho : k < op ∧ op ≤ k + l.length
    · refine (refkept_ok hP cN hcN hc5 h0 (by omega) h1 hn op f hf ho).mono ?_
      rintro e w' ⟨rfl, h2, h3⟩
      rw [show (k + (l.length : Int) - k).toNat = l.length by omega, hd ⟨hf, ho⟩] at h2
      have HY : (1 ≤ f ∧ f ≤ c) ∧ (k < op ∧ op ≤ k + l.length) := ⟨hf, ho⟩
      simp only [kRow, kErr, if_pos HY, if_pos hf, if_pos ho]
      exact ⟨trivial, h2, h3⟩
    · refine (refkept_none hP op f hf ho).mono ?_
      rintro e w' ⟨rfl, m, rfl⟩
      have HY : ¬ ((1 ≤ f ∧ f ≤ c) ∧ (k < op ∧ op ≤ k + l.length)) := fun q => ho q.2
      simp only [kDone, kRow, kErr, if_neg HY, if_pos hf, if_neg ho]
      refine ⟨trivial, ?_, Turned.drewN m⟩
      simpa using (hP.later (w' := w.drewN m) ⟨rfl, rfl, rfl, Nat.le_refl _, fun _ _ => rfl⟩).mono (Z' := fun q => Z q ∨ w.heap.size ≤ q) (fun q h => .inl h)
  · refine (refkept_arg hP op f (by omega)).mono ?_
    rintro e w' ⟨rfl, m, rfl⟩
    have HY : ¬ ((1 ≤ f ∧ f ≤ c) ∧ (k < op ∧ op ≤ k + l.length)) := fun q => hf q.1
    simp only [kDone, kRow, kErr, if_neg HY, if_neg hf]
    refine ⟨trivial, ?_, Turned.drewN m⟩
    simpa using (hP.later (w' := w.drewN m) ⟨rfl, rfl, rfl, Nat.le_refl _, fun _ _ => rfl⟩).mono (Z' := fun q => Z q ∨ w.heap.size ≤ q) (fun q h => .inl h)
end
/-- Who is due. -/
def dueL (cN : Nat) (k : Int) (l : List Nat) (op : Int) : List Int := if k < op ∧ op ≤ k + l.length then Pip.due (Quo.has (l.getD (op - k - 1).toNat 0)) cN else []
theorem dueL_len (cN : Nat) (k : Int) (l : List Nat) (op : Int) : (dueL cN k l op).length ≤ cN := by
  unfold dueL
  split
  · exact Pip.due_len _ _
  · simp
section
variable {w : World} {Z : Nat → Prop} {g : Nat} {c who k h : Int} {l : List Nat} {row : List (Int × Int)} {cN : Nat}
theorem due_any (hP : Pp Z w g c who k l) (hcN : c = (cN : Int)) (hc5 : cN ≤ 5) (h0 : 0 ≤ k) (h1 : k + l.length ≤ 72057594037927935) (hs : ∀ s ∈ l, s < 32) (op : Int) : Calls Try.prog 40 #[.pointer (some ⟨g, 0, none⟩), .int .i64 op] w fun e w' =>
    ∃ v, e = .returned v ∧ Read1 w' v (dueL cN k l op) ∧ Below w.heap.size w w' := by
  by_cases ho : k < op ∧ op ≤ k + l.length
  · obtain ⟨i, hi⟩ : ∃ i : Nat, op = k + 1 + i := ⟨(op - k - 1).toNat, by omega⟩
    have hil : i < l.length := by omega
    have hg : l[i]? = some l[i] := List.getElem?_eq_getElem hil
    have e1 : (op - k - 1).toNat = i := by omega
    have e2 : l.getD i 0 = l[i] := by rw [List.getD_eq_getElem?_getD, hg]; rfl
    refine (due_ok hP hcN hc5 h0 h1 hs i _ hg op hi).mono ?_
    rintro e w' ⟨x, cap, rfl, hO, hb⟩
    unfold dueL
    rw [if_pos ho, e1, e2]
    exact ⟨_, rfl, Read1.of_own hO rfl, hb⟩
  · obtain ⟨x, cap, hB, -⟩ := hP.pc
    refine (due_none hB h0 h1 op ho).mono ?_
    rintro e w' ⟨rfl, m, rfl⟩
    unfold dueL
    rw [if_neg ho]
    exact ⟨_, rfl, Read1.nil _ _ _, rfl, rfl, rfl, Nat.le_refl _, fun _ _ => rfl⟩
theorem refdue_any (hP : Rp Z w g c who k (k + l.length) row) (hcN : c = (cN : Int)) (hR : Pip.Rel cN k l row) (hn : row.length ≤ 100000) (op : Int) : Calls Try.prog 46 #[.pointer (some ⟨g, 0, none⟩), .int .i64 op] w fun e w' =>
    ∃ v, e = .returned v ∧ Read1 w' v (dueL cN k l op) ∧ Below w.heap.size w w' := by
  have hc := hR.cnt
  by_cases ho : k < op ∧ op ≤ k + l.length
  · obtain ⟨i, hi⟩ : ∃ i : Nat, op = k + 1 + i := ⟨(op - k - 1).toNat, by omega⟩
    have hil : i < l.length := by omega
    have hg : l[i]? = some l[i] := List.getElem?_eq_getElem hil
    have e1 : (op - k - 1).toNat = i := by omega
    have e2 : l.getD i 0 = l[i] := by rw [List.getD_eq_getElem?_getD, hg]; rfl
    refine (refdue_ok hP cN hcN (by omega) (by omega) op ho).mono ?_
    rintro e w' ⟨x, cap, rfl, hO, hb⟩
    unfold dueL
    rw [if_pos ho, e1, e2, hR.due hg, ← hi]
    exact ⟨_, rfl, Read1.of_own hO rfl, hb⟩
  · refine (refdue_none hP cN hcN (by omega) (by omega) op ho).mono ?_
    rintro e w' ⟨x, cap, rfl, hO, hb⟩
    unfold dueL
    rw [if_neg ho]
    exact ⟨_, rfl, Read1.of_own hO rfl, hb⟩
end
/-- Both pipes are in step. -/
structure SR (cN : Nat) (who k : Int) (l : List Nat) (row : List (Int × Int)) (N : Nat) : Prop where
  rel : Pip.Rel cN k l row
  w : 1 ≤ who ∧ who ≤ cN
  k0 : 0 ≤ k
  k1 : k + l.length ≤ 72057594037927935
  l16 : l.length ≤ 16
  n : row.length ≤ N
section
variable {cN : Nat} {who k : Int} {l : List Nat} {row : List (Int × Int)} {N : Nat}
theorem SR.add (h : SR cN who k l row N) : SR cN who k (if full k l then l else l ++ [Quo.wth 0 who]) (if full k l then row else row ++ [(k + l.length + 1, who)]) (N + 1) ∧ (if full k l then k + (l.length : Int) else k + l.length + 1) = k + (if full k l then l else l ++ [Quo.wth 0 who]).length := by
  obtain ⟨h1, h2, h3, h4, h5, h6⟩ := h
  by_cases hf : full k l
  · simp only [if_pos hf]
    exact ⟨⟨h1, h2, h3, h4, h5, by omega⟩, trivial⟩
  · simp only [if_neg hf]
    unfold full at hf
    refine ⟨⟨h1.add h2, h2, h3, ?_, ?_, ?_⟩, ?_⟩ <;> rw [List.length_append, List.length_singleton] <;> omega
theorem SR.keep (h : SR cN who k l row N) (op f : Int) : SR cN who (k + (kDone cN k l op f : Nat)) ((kSet cN k l op f).drop (kDone cN k l op f)) (kRow cN k l op f row) (N + 1) ∧ k + (l.length : Int) = k + (kDone cN k l op f : Nat) + ((kSet cN k l op f).drop (kDone cN k l op f)).length ∧ ((1 ≤ f ∧ f ≤ (cN : Int)) ∧ (k < op ∧ op ≤ k + l.length) → Pip.doneR cN (row ++ [(op, f)]) k l.length = kDone cN k l op f) := by
  obtain ⟨h1, h2, h3, h4, h5, h6⟩ := h
  by_cases ho : (1 ≤ f ∧ f ≤ (cN : Int)) ∧ (k < op ∧ op ≤ k + l.length)
  · obtain ⟨i, hi⟩ : ∃ i : Nat, op = k + 1 + i := ⟨(op - k - 1).toNat, by omega⟩
    have hil : i < l.length := by omega
    have hg : l[i]? = some l[i] := List.getElem?_eq_getElem hil
    have e1 : (op - k - 1).toNat = i := by omega
    have e2 : l.getD i 0 = l[i] := by rw [List.getD_eq_getElem?_getD, hg]; rfl
    have hk := h1.keep hg ho.1
    rw [← hi] at hk
    have hdl := Pip.done_le cN (l.set i (Quo.wth l[i] f))
    rw [List.length_set] at hdl
    have hdd := hk.done
    rw [List.length_set] at hdd
    simp only [kDone, kSet, kRow, if_pos ho, e1, e2]
    refine ⟨⟨hk.drop _ (by rw [List.length_set]; exact hdl), h2, by omega, ?_, ?_, ?_⟩, ?_, fun _ => hdd⟩
    · rw [List.length_drop, List.length_set]; omega
    · rw [List.length_drop, List.length_set]; omega
    · rw [List.length_append, List.length_singleton]; omega
    · rw [List.length_drop, List.length_set]; omega
  · simp only [kDone, kSet, kRow, if_neg ho]
    refine ⟨by simpa using (⟨h1, h2, h3, h4, h5, by omega⟩ : SR cN who k l row (N + 1)), by simp, fun q => absurd q ho⟩
end
end Go.Proofs.Ytecaahcmebdglaa

/- The reference's pipe: Kept, Due. -/
import Derived.Test.YtecaahcmebdglaaPipR
namespace Go.Proofs.Ytecaahcmebdglaa
open Go.RowKit
set_option linter.unusedVariables false
theorem refkept_arg {Z : Nat → Prop} {w : World} {g : Nat} {c who k h : Int} {row : List (Int × Int)} (hP : Rp Z w g c who k h row) (op from_ : Int) (hf : from_ < 1 ∨ c < from_) : Calls Try.prog 43 #[.pointer (some ⟨g, 0, none⟩), .int .i64 op, .int .i64 from_] w fun e w' => e = .returned (.int .i64 1) ∧ ∃ m, w' = w.drewN m := by
  obtain ⟨x, cap, hB, hO⟩ := hP.parts
  have r0 := (hB.2 0 _ rfl).1
  clear hB hO hP
  by_cases q : from_ < 1
  · clear hf
    go_enter Try.func43, Try.ntmps43
    go_wp2_with fail
    go_ret
    exact ⟨rfl, 0, rfl⟩
  · have q2 : c < from_ := by omega
    clear hf
    go_enter Try.func43, Try.ntmps43
    go_wp2_with fail
    go_ret
    exact ⟨rfl, 0, rfl⟩
theorem refkept_none {Z : Nat → Prop} {w : World} {g : Nat} {c who k h : Int} {row : List (Int × Int)} (hP : Rp Z w g c who k h row) (op from_ : Int) (hf : 1 ≤ from_ ∧ from_ ≤ c) (ho : ¬ (k < op ∧ op ≤ h)) : Calls Try.prog 43 #[.pointer (some ⟨g, 0, none⟩), .int .i64 op, .int .i64 from_] w fun e w' => e = .returned (.int .i64 8) ∧ ∃ m, w' = w.drewN m := by
  obtain ⟨x, cap, hB, hO⟩ := hP.parts
  have r0 := (hB.2 0 _ rfl).1
  have r2 := (hB.2 2 _ rfl).1
  have r3 := (hB.2 3 _ rfl).1
  clear hB hO hP
  have q1 : ¬ from_ < 1 := by omega
  have q2 : ¬ c < from_ := by omega
  by_cases q : op ≤ k
  · clear ho hf
    go_enter Try.func43, Try.ntmps43
    go_wp2_with fail
    go_ret
    exact ⟨rfl, 0, rfl⟩
  · have q3 : h < op := by omega
    clear ho hf
    go_enter Try.func43, Try.ntmps43
    go_wp2_with fail
    go_ret
    exact ⟨rfl, 0, rfl⟩
/-- How far the commit is behind the head. -/
def gapAt (g : Nat) (w : World) : Nat := match w.cell? ⟨g, 2, none⟩, w.cell? ⟨g, 3, none⟩ with
  | some (.int _ a), some (.int _ b) => (b - a).toNat
  | _, _ => 0
def RKeptPost (Z : Nat → Prop) (w : World) (g : Nat) (c who k h : Int) (cN : Nat) (row : List (Int × Int)) (e : Ending) (w' : World) : Prop :=
  e = .returned (.int .i64 0) ∧ Rp (fun q => Z q ∨ w.heap.size ≤ q) w' g c who (k + Pip.doneR cN row k (h - k).toNat) h row ∧ Turned Z w w'
set_option maxHeartbeats 4000000 in
theorem refkept_ok {Z : Nat → Prop} {w : World} {g : Nat} {c who k h : Int} {row : List (Int × Int)} (hP : Rp Z w g c who k h row) (cN : Nat) (hc : c = (cN : Int)) (hc5 : cN ≤ 5) (h0 : 0 ≤ k) (hk : k ≤ h) (hh : h ≤ 72057594037927935) (hn : row.length ≤ 100000) (op from_ : Int) (hf : 1 ≤ from_ ∧ from_ ≤ c) (ho : k < op ∧ op ≤ h) :
    Calls Try.prog 43 #[.pointer (some ⟨g, 0, none⟩), .int .i64 op, .int .i64 from_] w (RKeptPost Z w g c who k h cN (row ++ [(op, from_)])) := by
  have hZ := Lib.hid hP.1
  obtain ⟨x, cap, hB, hO⟩ := hP.parts
  obtain ⟨n, hnn⟩ : ∃ n, n = row.length := ⟨_, rfl⟩
  have HN := Lib.hid hnn
  rw [← hnn] at hB hO hn
  have r0 := (hB.2 0 _ rfl).1
  have r2 := (hB.2 2 _ rfl).1
  have r3 := (hB.2 3 _ rfl).1
  have r4 := (hB.2 4 _ rfl).1
  have HB := Lib.hid hB
  have hgw := hB.1
  have q1 : ¬ from_ < 1 := by omega
  have q2 : ¬ c < from_ := by omega
  have q3 : ¬ op ≤ k := by omega
  have q4 : ¬ h < op := by omega
  clear hB hP hnn hf ho
  go_enter Try.func43, Try.ntmps43
  go_wp2_with (with_reducible refine app_p rfl _ _ rfl rfl _ _ _ _ rfl hO _ _ rfl ?hc ?_)
  case hc => omega
  intro x' cap' w2 hO2 hT2
  have hB2 := HB.out.turned hT2 (fun q => q.2 rfl)
  obtain ⟨r4', f4'⟩ := hB2.2 4 _ rfl
  clear r0 r2 r3 r4 hO
  go_wp2_with fail
  have hPG := Rp.grow (Z := Z) (w := w) (l' := row ++ [(op, from_)]) hZ.out hgw hB2 hO2 (hT2.mono (fun q h => .inl h.1)) (by rw [List.length_append, HN.out]; rfl) (by rw [prs_append]; rfl)
  have hrl : (row ++ [(op, from_)]).length ≤ 1000000 := by rw [List.length_append, ← HN.out]; simp; omega
  clear hB2 hO2 hT2 r4' f4' HB HN
  generalize w2.setCell ⟨g, 4, none⟩ (.slice x' (n + 1) cap') = w3 at *
  generalize row ++ [(op, from_)] = row' at *
  obtain ⟨m, rfl⟩ : ∃ m : Nat, h = k + m := ⟨(h - k).toNat, by omega⟩
  have HPO : Hid (∀ d w', d = Pip.doneR cN row' k m → Rp (fun q => Z q ∨ w.heap.size ≤ q) w' g c who (k + d) (k + m) row' → Turned Z w w' → RKeptPost Z w g c who k (k + m) cN row' (.returned (.int .i64 0)) w') := Lib.hid (fun d w' hd h1 h2 => ⟨rfl, by rw [show (k + (m : Int) - k).toNat = m by omega, ← hd]; exact h1, h2⟩)
  subst hc
  go_loopw [] (fun wr => ∃ d : Nat, d ≤ m ∧ d + Pip.doneR cN row' (k + d) (m - d) = Pip.doneR cN row' k m ∧ Rp (fun q => Z q ∨ w.heap.size ≤ q) wr g cN who (k + d) (k + m) row' ∧ Turned Z w wr) (fun wr => gapAt g wr)
  case atStart => exact ⟨0, by omega, by simp, by simpa using hPG.1, hPG.2⟩
  case round =>
    clear hPG
    obtain ⟨d, hd, hdone, hP, hT⟩ := hrel
    obtain ⟨x3, cap3, hB, hO⟩ := hP.parts
    have r0 := (hB.2 0 _ rfl).1
    obtain ⟨r2, f2⟩ := hB.2 2 _ rfl
    have r3 := (hB.2 3 _ rfl).1
    have HB := Lib.hid hB
    have HO := Lib.hid hO
    obtain ⟨C, hC⟩ : ∃ C, C = k + (d : Int) := ⟨_, rfl⟩
    have HC := Lib.hid hC
    have r2' : wr.cell? ⟨g, 2, none⟩ = some (.int .i64 C) := by rw [hC]; exact r2
    have hC0 : 0 ≤ C ∧ C ≤ 72057594037927935 := by omega
    have r3' : wr.cell? ⟨g, 3, none⟩ = some (.int .i64 (k + (m : Int))) := r3
    by_cases hlt : d < m
    · have HM : Hid (Calls Try.prog 56 #[.pointer (some ⟨g, 0, none⟩), .int .i64 (C + 1)] wr fun e w' => e = .returned (.int .i64 ((Pip.manyR row' (C + 1) cN : Nat) : Int)) ∧ wr = w') := Lib.hid (refmany_p hP cN rfl hc5 (C + 1) hrl)
      have HMN : Hid (∀ n, Calls Try.prog 56 #[.pointer (some ⟨g, 0, none⟩), .int .i64 (C + 1)] (wr.drewN n) fun e w' => e = .returned (.int .i64 ((Pip.manyR row' (C + 1) cN : Nat) : Int)) ∧ wr.drewN n = w') := Lib.hid (fun n => refmany_p (hP.later (w' := wr.drewN n) ⟨rfl, rfl, rfl, Nat.le_refl _, fun _ _ => rfl⟩) cN rfl hc5 (C + 1) hrl)
      have HEN : Hid (∀ w, Calls Try.prog 17 #[.int .i64 (cN : Int)] w fun e w' => e = .returned (.int .i64 (Quo.enough cN)) ∧ w = w') := Lib.hid (fun w => refenough_any cN w)
      have hml := Pip.manyR_le row' (C + 1) cN
      have HDS : Hid (Pip.doneR cN row' C (m - d) = if Quo.enough cN ≤ Pip.manyR row' (C + 1) cN then Pip.doneR cN row' (C + 1) (m - (d + 1)) + 1 else 0) := Lib.hid (by
        rw [show m - d = m - (d + 1) + 1 by omega]
        rfl)
      obtain ⟨z, hz⟩ : ∃ z, z = Pip.manyR row' (C + 1) cN := ⟨_, rfl⟩
      obtain ⟨en, hen⟩ : ∃ en, en = Quo.enough cN := ⟨_, rfl⟩
      rw [← hz] at HMN hml HDS
      rw [← hen] at HEN HDS
      have hlt2 : C < k + (m : Int) := by omega
      rw [← hC] at hdone
      have HD := Lib.hid hdone
      have HPX := Lib.hid hP
      clear hz hen hB hO hP hdone hC r2 r3 HM
      by_cases hge : en ≤ (z : Int)
      · go_wp2_with fail
        go_quiet (first | (go_at_call 56; refine (HMN.out _).mono ?_; rintro e w' ⟨rfl, rfl⟩; exact ⟨rfl, _, rfl⟩) | (go_at_call 17; refine (HEN.out _).mono ?_; rintro e w' ⟨rfl, rfl⟩; exact ⟨rfl, _, rfl⟩))
        go_wp2_with fail
        have hds := HDS.out
        rw [if_pos (by omega)] at hds
        have hB2 := (show Blk (wr.drewN nq) g _ from HB.out).set_ 2 (.int .i64 (C + 1))
        have hP2 : Rp (fun q => Z q ∨ w.heap.size ≤ q) ((wr.drewN nq).setCell ⟨g, 2, none⟩ (.int .i64 (C + 1))) g cN who (k + ((d + 1 : Nat) : Int)) (k + m) row' := by
          rw [show k + ((d + 1 : Nat) : Int) = C + 1 by rw [HC.out]; omega]
          exact ⟨.inl hZ.out, _, hB2, (HO.out.later (w' := wr.drewN nq) ⟨rfl, rfl, rfl, Nat.le_refl _, fun _ _ => rfl⟩).set_other (fun q => q.2 rfl) 2 _⟩
        have hT2 : Turned Z w ((wr.drewN nq).setCell ⟨g, 2, none⟩ (.int .i64 (C + 1))) := Turned.trans (a := w) (b := wr.drewN nq) ⟨hT.os, hT.tape, hT.output, hT.size, hT.block⟩ (Turned.setCell (X := Z) ⟨g, 2, none⟩ _ hZ.out) (fun q h => .inl h)
        refine ⟨⟨d + 1, by omega, ?_, hP2, hT2⟩, ?_⟩
        · have := HD.out
          rw [hds] at this
          rw [show k + ((d + 1 : Nat) : Int) = C + 1 by rw [HC.out]; omega]
          omega
        · have e1 : gapAt g ((wr.drewN nq).setCell ⟨g, 2, none⟩ (.int .i64 (C + 1))) = (k + (m : Int) - (C + 1)).toNat := by
            unfold gapAt
            rw [(hB2.2 2 _ rfl).1, (hB2.2 3 _ rfl).1]
            rfl
          have e2 : gapAt g wr = (k + (m : Int) - C).toNat := by
            unfold gapAt
            rw [r2', r3']
          rw [e1, e2]
          omega
      · go_wp2_with fail
        go_quiet (first | (go_at_call 56; refine (HMN.out _).mono ?_; rintro e w' ⟨rfl, rfl⟩; exact ⟨rfl, _, rfl⟩) | (go_at_call 17; refine (HEN.out _).mono ?_; rintro e w' ⟨rfl, rfl⟩; exact ⟨rfl, _, rfl⟩))
        go_wp2_with fail
        go_ret
        have hds := HDS.out
        rw [if_neg (by omega)] at hds
        refine HPO.out d _ (by have := HD.out; omega) ?_ ⟨hT.os, hT.tape, hT.output, hT.size, hT.block⟩
        exact HPX.out.later (w' := wr.drewN _) ⟨rfl, rfl, rfl, Nat.le_refl _, fun _ _ => rfl⟩
    · obtain rfl : d = m := by omega
      have HPX := Lib.hid hP
      have HD := Lib.hid hdone
      have r2'' : wr.cell? ⟨g, 2, none⟩ = some (.int .i64 (k + (d : Int))) := r2
      clear hB hO hP hdone hC r2 r3 r2' hC0
      go_wp2_with fail
      go_quiet (fail)
      go_wp2_with fail
      go_ret
      refine HPO.out d _ (by have := HD.out; rw [Nat.sub_self] at this; exact this) ?_ ⟨hT.os, hT.tape, hT.output, hT.size, hT.block⟩
      exact HPX.out.later (w' := wr.drewN _) ⟨rfl, rfl, rfl, Nat.le_refl _, fun _ _ => rfl⟩
end Go.Proofs.Ytecaahcmebdglaa

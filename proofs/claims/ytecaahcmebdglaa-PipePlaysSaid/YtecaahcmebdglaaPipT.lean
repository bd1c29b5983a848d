/- The reference's pipe: Due. -/
import Derived.Test.YtecaahcmebdglaaPipS
namespace Go.Proofs.Ytecaahcmebdglaa
open Go.RowKit
set_option linter.unusedVariables false
set_option maxHeartbeats 2000000 in
theorem refdue_none {Z : Nat → Prop} {w : World} {g : Nat} {c who k h : Int} {row : List (Int × Int)} (hP : Rp Z w g c who k h row) (cN : Nat) (hc : c = (cN : Int)) (hc1 : 1 ≤ cN) (hn : row.length ≤ 1000000) (op : Int) (ho : ¬ (k < op ∧ op ≤ h)) : Calls Try.prog 46 #[.pointer (some ⟨g, 0, none⟩), .int .i64 op] w (Own1 w []) := by
  subst hc
  obtain ⟨x, cap, hB, hO⟩ := hP.parts
  have r0 := (hB.2 0 _ rfl).1
  have r2 := (hB.2 2 _ rfl).1
  have r3 := (hB.2 3 _ rfl).1
  have hgw := hB.1
  clear hP hB hO
  go_enter Try.func46, Try.ntmps46
  go_wp2_with fail
  go_loopw [5, 6] (fun v iv wr => iv = .int .i64 1 ∧ (∃ x cap, v = .slice x 0 cap ∧ OwnC (fun q => w.heap.size ≤ q) wr (.slice x 0 cap) 0 1 (ints [])) ∧ Below w.heap.size w wr) (fun _ iv _ => 6 - (intOf iv).toNat)
  case atStart => exact ⟨rfl, ⟨_, _, rfl, ⟨rfl, .inr ⟨_, _, _, rfl, Nat.le_refl _, by simp, Nat.le_refl _, fun j u hu => by simp [ints] at hu, fun j hj => by omega⟩⟩⟩, (Below.refl _ _).alloc (Nat.le_refl _) _⟩
  case round =>
    obtain ⟨rfl, ⟨x, cap3, rfl, hO⟩, hb1⟩ := hrel
    have r0' : wr.cell? ⟨g, 0, none⟩ = some (.int .i64 (cN : Int)) := (hb1.cell (p := ⟨g, 0, none⟩) hgw).trans r0
    have r2' : wr.cell? ⟨g, 2, none⟩ = some (.int .i64 k) := (hb1.cell (p := ⟨g, 2, none⟩) hgw).trans r2
    have r3' : wr.cell? ⟨g, 3, none⟩ = some (.int .i64 h) := (hb1.cell (p := ⟨g, 3, none⟩) hgw).trans r3
    clear r0 r2 r3
    have q0 : (1 : Int) ≤ cN := by omega
    by_cases q : k < op
    · have q2 : ¬ op ≤ h := fun e => ho ⟨q, e⟩
      clear ho
      go_wp2_with fail
      go_ret
      exact ⟨x, cap3, rfl, hO, hb1⟩
    · clear ho
      go_wp2_with fail
      go_ret
      exact ⟨x, cap3, rfl, hO, hb1⟩
set_option maxHeartbeats 2000000 in
theorem refdue_ok {Z : Nat → Prop} {w : World} {g : Nat} {c who k h : Int} {row : List (Int × Int)} (hP : Rp Z w g c who k h row) (cN : Nat) (hc : c = (cN : Int)) (hc5 : cN ≤ 5) (hn : row.length ≤ 1000000) (op : Int) (ho : k < op ∧ op ≤ h) : Calls Try.prog 46 #[.pointer (some ⟨g, 0, none⟩), .int .i64 op] w (Own1 w (Pip.due (Pip.hasR row op) cN)) := by
  subst hc
  obtain ⟨q, q2⟩ := ho
  have HHS : Hid (∀ (w' : World) (j : Int), Below w.heap.size w w' → Calls Try.prog 57 #[.pointer (some ⟨g, 0, none⟩), .int .i64 op, .int .i64 j] w' fun e w'' => e = .returned (.bool (Pip.hasR row op j)) ∧ w' = w'') := Lib.hid (fun w' j hb => refhas_p (hP.later hb) op j hn)
  obtain ⟨x, cap, hB, hO⟩ := hP.parts
  have r0 := (hB.2 0 _ rfl).1
  have r2 := (hB.2 2 _ rfl).1
  have r3 := (hB.2 3 _ rfl).1
  have hgw := hB.1
  clear hP hB hO
  obtain ⟨f, hf⟩ : ∃ f, f = Pip.hasR row op := ⟨_, rfl⟩
  have HHS2 : Hid (∀ (w' : World) (j : Int), Below w.heap.size w w' → Calls Try.prog 57 #[.pointer (some ⟨g, 0, none⟩), .int .i64 op, .int .i64 j] w' fun e w'' => e = .returned (.bool (f j)) ∧ w' = w'') := Lib.hid (by rw [hf]; exact HHS.out)
  rw [← hf]
  clear HHS hf
  go_enter Try.func46, Try.ntmps46
  go_wp2_with fail
  go_loopw [5, 6] (fun v iv wr => ∃ j : Nat, j ≤ cN ∧ iv = .int .i64 ((j + 1 : Nat) : Int) ∧ (∃ x cap, v = .slice x (Pip.due f j).length cap ∧ OwnC (fun q => w.heap.size ≤ q) wr (.slice x (Pip.due f j).length cap) (Pip.due f j).length 1 (ints (Pip.due f j))) ∧ Below w.heap.size w wr) (fun _ iv _ => 6 - (intOf iv).toNat)
  case atStart => exact ⟨0, by omega, rfl, ⟨_, _, rfl, ⟨rfl, .inr ⟨_, _, _, rfl, Nat.le_refl _, by simp, Nat.le_refl _, fun j u hu => by simp [ints, Pip.due] at hu, fun j hj => by omega⟩⟩⟩, (Below.refl _ _).alloc (Nat.le_refl _) _⟩
  case round =>
    obtain ⟨j, hj, rfl, ⟨x, cap3, rfl, hO⟩, hb1⟩ := hrel
    have r0' : wr.cell? ⟨g, 0, none⟩ = some (.int .i64 (cN : Int)) := (hb1.cell (p := ⟨g, 0, none⟩) hgw).trans r0
    have r2' : wr.cell? ⟨g, 2, none⟩ = some (.int .i64 k) := (hb1.cell (p := ⟨g, 2, none⟩) hgw).trans r2
    have r3' : wr.cell? ⟨g, 3, none⟩ = some (.int .i64 h) := (hb1.cell (p := ⟨g, 3, none⟩) hgw).trans r3
    clear r0 r2 r3
    by_cases hlt2 : j < cN
    · have hl := Pip.due_len f j
      have hD : Pip.due f (j + 1) = Pip.due f j ++ (if f ((j + 1 : Nat) : Int) = true then [] else [((j + 1 : Nat) : Int)]) := rfl
      have HH : Hid (Calls Try.prog 57 #[.pointer (some ⟨g, 0, none⟩), .int .i64 op, .int .i64 ((j + 1 : Nat) : Int)] wr fun e w'' => e = .returned (.bool (f ((j + 1 : Nat) : Int))) ∧ wr = w'') := Lib.hid (HHS2.out wr _ hb1)
      clear HHS2
      obtain ⟨n3, hn3⟩ : ∃ n3, n3 = (Pip.due f j).length := ⟨_, rfl⟩
      obtain ⟨L3, hL3⟩ : ∃ L3, L3 = ints (Pip.due f j) := ⟨_, rfl⟩
      rw [← hn3, ← hL3] at hO
      have HN3 := Lib.hid hn3
      have HL3 := Lib.hid hL3
      have hn35 : n3 ≤ 5 := by omega
      obtain ⟨J, hJ⟩ : ∃ J : Int, J = ((j + 1 : Nat) : Int) := ⟨_, rfl⟩
      have HJ := Lib.hid hJ
      have hJ1 : 1 ≤ J ∧ J ≤ 5 := by omega
      have hJc : J ≤ cN := by omega
      rw [← hJ] at HH hD ⊢
      rw [← hn3]
      cases hh : f J with
      | true =>
        rw [hh] at HH hD
        rw [if_pos rfl, List.append_nil] at hD
        have HE := Lib.hid hD
        clear hn3 hL3 hJ hh hl hD
        go_wp2_with (go_at_call 57; refine (HH.out).mono ?_; rintro e w' ⟨rfl, rfl⟩)
        go_roundw
        case rel => exact ⟨j + 1, by omega, by rw [HJ.out]; go_num, ⟨x, cap3, by rw [HE.out, ← HN3.out], by rw [HE.out, ← HN3.out, ← HL3.out]; exact hO⟩, hb1⟩
        case measure => simp [intOf]; omega
      | false =>
        rw [hh] at HH hD
        rw [if_neg (by decide)] at hD
        have HE := Lib.hid hD
        clear hn3 hL3 hJ hh hl hD
        go_wp2_with (first | (go_at_call 57; refine (HH.out).mono ?_; rintro e w' ⟨rfl, rfl⟩) | (with_reducible refine app_i rfl _ _ rfl rfl _ _ _ _ rfl hO _ rfl ?hc ?_))
        case hc => omega
        intro x' cap' w' hO' hT'
        have hb2 : Below w.heap.size w w' := hb1.trans (hT'.below (fun q h => h) hb1.size)
        have hO2 := hO'.mono (Y' := fun q => w.heap.size ≤ q) (fun q h => by have := hb1.size; omega)
        clear hO' hT'
        go_wp2_with fail
        go_roundw
        case rel => exact ⟨j + 1, by omega, by rw [HJ.out]; go_num, ⟨x', cap', by rw [HE.out, HN3.out, List.length_append]; rfl, by rw [HE.out, List.length_append, ← HN3.out, show ints (Pip.due f j ++ [J]) = L3 ++ [.int .i64 J] by rw [HL3.out]; simp [ints]]; exact hO2⟩, hb2⟩
        case measure => simp [intOf]; omega
    · obtain rfl : j = cN := by omega
      go_wp2_with fail
      go_ret
      exact ⟨x, cap3, rfl, hO, hb1⟩
end Go.Proofs.Ytecaahcmebdglaa

/- What the pipe's laws ask first; a pipe that is not there. -/
import Derived.Test.YtecaahcmebdglaaPipU
namespace Go.Proofs.Ytecaahcmebdglaa
open Go.RowKit
set_option linter.unusedVariables false
theorem Pp.head {Z : Nat → Prop} {w : World} {g : Nat} {c who k : Int} {l : List Nat} (h : Pp Z w g c who k l) (h0 : 0 ≤ k) (h1 : k + l.length ≤ 72057594037927935) : Calls Try.prog 39 #[.pointer (some ⟨g, 0, none⟩)] w fun e w' => e = .returned (.int .i64 (k + l.length)) ∧ ∃ m, w' = w.drewN m := by
  obtain ⟨x, cap, hB, -⟩ := h.pc
  exact head_pc hB h0 (by omega)
theorem Pp.commit {Z : Nat → Prop} {w : World} {g : Nat} {c who k : Int} {l : List Nat} (h : Pp Z w g c who k l) : Calls Try.prog 38 #[.pointer (some ⟨g, 0, none⟩)] w fun e w' => e = .returned (.int .i64 k) ∧ ∃ m, w' = w.drewN m := by
  obtain ⟨x, cap, hB, -⟩ := h.pc
  exact commit_pc hB
theorem Pp.room {Z : Nat → Prop} {w : World} {g : Nat} {c who k : Int} {l : List Nat} (h : Pp Z w g c who k l) : Calls Try.prog 44 #[.pointer (some ⟨g, 0, none⟩)] w fun e w' => e = .returned (.bool (decide ((l.length : Int) < 2))) ∧ ∃ m, w' = w.drewN m := by
  obtain ⟨x, cap, hB, -⟩ := h.pc
  exact room_pc hB
theorem Pp.drewN {Z : Nat → Prop} {w : World} {g : Nat} {c who k : Int} {l : List Nat} (h : Pp Z w g c who k l) (n : Nat) : Pp Z (w.drewN n) g c who k l := h.later ⟨rfl, rfl, rfl, Nat.le_refl _, fun _ _ => rfl⟩
theorem Below.drewN' {B : Nat} {w w' : World} (h : Below B w w') (n : Nat) : Below B w (w'.drewN n) := ⟨h.os, h.tape, h.output, h.size, h.block⟩
theorem awake19_any (w : World) : Calls Try.prog 34 #[] w fun e w' => e = .returned (.bool true) ∧ Below w.heap.size w w' := by
  go_enter Try.func34, Try.ntmps34
  go_wp2_with fail
  refine (new_ok 3 1 4 4 _ (by decide) (by decide) (by decide) (by decide) (by decide) (by decide)).mono ?_
  rintro e w1 ⟨rfl, hP, hb⟩
  have H1 := Lib.hid (And.intro hP hb)
  clear hP hb
  go_wp2_with fail
  refine (add_ok H1.out.1 (by decide) (by decide) (by decide) (by decide)).mono ?_
  rintro e w2 ⟨rfl, hP, hT⟩
  have H2 := Lib.hid (And.intro (hP.mono (Z' := fun q => w.heap.size ≤ q) (fun q h => by have := H1.out.2.size; omega)) (H1.out.2.trans (hT.below (fun q h => h) H1.out.2.size)))
  clear hP hT H1
  go_wp2_with fail
  refine (kept_ok H2.out.1 (by decide) (by decide) (by decide) (by decide) 0 1 (by decide) 5 2 (by decide) (by decide)).mono ?_
  rintro e w3 ⟨rfl, hP, hT⟩
  have hb := H2.out.2.trans (hT.below (fun q h => h) H2.out.2.size)
  have HC := Lib.hid (hP.commit)
  clear hP hT H2
  go_wp2_with (go_at_call 38; refine (HC.out).mono ?_; rintro e w' ⟨rfl, m, rfl⟩)
  go_ret
  exact ⟨ret_bool (by decide), Below.drewN' hb _⟩
end Go.Proofs.Ytecaahcmebdglaa

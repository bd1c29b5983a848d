/- A pipe's cells; what its readers answer. -/
import Derived.Test.YtecaahcmebdglaaQuoB
import Derived.Test.YtecaahcmebdglaaBlk
import Derived.Test.YtecaahcmebdglaaOwnC
import Derived.WalkSmall
import Derived.Deep.QuietTactic
import Derived.BigQuiet
namespace Go.Proofs.Ytecaahcmebdglaa
open Go.RowKit
theorem head_nil (w : World) : Calls Try.prog 39 #[.pointer none] w fun e w' => e = .returned (.int .i64 0) ∧ w = w' := by
  go_enter Try.func39, Try.ntmps39
  go_wp2
  go_ret
  exact ⟨rfl, rfl⟩
theorem commit_nil (w : World) : Calls Try.prog 38 #[.pointer none] w fun e w' => e = .returned (.int .i64 0) ∧ w = w' := by
  go_enter Try.func38, Try.ntmps38
  go_wp2
  go_ret
  exact ⟨rfl, rfl⟩
theorem room_nil (w : World) : Calls Try.prog 44 #[.pointer none] w fun e w' => e = .returned (.bool false) ∧ w = w' := by
  go_enter Try.func44, Try.ntmps44
  go_wp2
  go_ret
  exact ⟨rfl, rfl⟩
theorem in_nil (w : World) (op : Int) : Calls Try.prog 55 #[.pointer none, .int .i64 op] w fun e w' => e = .returned (.int .i64 (-1)) ∧ w = w' := by
  go_enter Try.func55, Try.ntmps55
  go_wp2
  go_ret
  exact ⟨rfl, rfl⟩
theorem add_nil (w : World) : Calls Try.prog 36 #[.pointer none] w fun e w' => e = .returned (.tuple #[.int .i64 0, .int .i64 2]) ∧ w = w' := by
  go_enter Try.func36, Try.ntmps36
  go_wp2
  go_ret2
  exact ⟨rfl, rfl⟩
theorem kept_nil (w : World) (op from_ : Int) : Calls Try.prog 37 #[.pointer none, .int .i64 op, .int .i64 from_] w fun e w' => e = .returned (.int .i64 2) ∧ w = w' := by
  go_enter Try.func37, Try.ntmps37
  go_wp2_with (go_at_call 55; refine (in_nil _ _).mono ?_; rintro e w' ⟨rfl, rfl⟩)
  go_ret
  exact ⟨rfl, rfl⟩
theorem due_nil (w : World) (op : Int) : Calls Try.prog 40 #[.pointer none, .int .i64 op] w fun e w' => e = .returned (.slice none 0 0) ∧ w = w' := by
  go_enter Try.func40, Try.ntmps40
  go_wp2_with (go_at_call 55; refine (in_nil _ _).mono ?_; rintro e w' ⟨rfl, rfl⟩)
  go_ret
  exact ⟨rfl, rfl⟩
/-- Where an operation's set stands. -/
def pin (k n op : Int) : Int := if k < op ∧ op ≤ k + n then op - k - 1 else -1
/-- The cells of a pipe: three numbers and a slice. -/
def PC (w : World) (g : Nat) (c who k : Int) (x : Option Addr) (n cap : Nat) : Prop := Blk w g #[.int .i64 c, .int .i64 who, .int .i64 k, .slice x n cap]
section
variable {w : World} {g n cap : Nat} {c who k : Int} {x : Option Addr}
theorem head_pc (h : PC w g c who k x n cap) (h0 : 0 ≤ k) (h1 : k + n ≤ 4611686018427387904) : Calls Try.prog 39 #[.pointer (some ⟨g, 0, none⟩)] w fun e w' => e = .returned (.int .i64 (k + n)) ∧ ∃ m, w' = w.drewN m := by
  obtain ⟨r0, f0⟩ := h.2 0 _ rfl
  obtain ⟨r1, f1⟩ := h.2 1 _ rfl
  obtain ⟨r2, f2⟩ := h.2 2 _ rfl
  obtain ⟨r3, f3⟩ := h.2 3 _ rfl
  have hw : IntKind.i64.wrap (k + n) = k + n := IntWalk.i64_in _ (by omega)
  go_enter Try.func39, Try.ntmps39
  go_wp2
  go_quiet (fail)
  go_wp2
  go_ret
  exact ⟨by first | rfl | rw [hw], _, rfl⟩
theorem commit_pc (h : PC w g c who k x n cap) : Calls Try.prog 38 #[.pointer (some ⟨g, 0, none⟩)] w fun e w' => e = .returned (.int .i64 k) ∧ ∃ m, w' = w.drewN m := by
  obtain ⟨r2, f2⟩ := h.2 2 _ rfl
  go_enter Try.func38, Try.ntmps38
  go_wp2
  go_ret
  exact ⟨rfl, 0, rfl⟩
theorem room_pc (h : PC w g c who k x n cap) : Calls Try.prog 44 #[.pointer (some ⟨g, 0, none⟩)] w fun e w' => e = .returned (.bool (decide ((n : Int) < 2))) ∧ ∃ m, w' = w.drewN m := by
  obtain ⟨r3, f3⟩ := h.2 3 _ rfl
  go_enter Try.func44, Try.ntmps44
  go_wp2
  go_ret
  exact ⟨rfl, 0, rfl⟩
theorem in_pc (h : PC w g c who k x n cap) (h0 : 0 ≤ k) (h1 : k + n ≤ 4611686018427387904) (op : Int) : Calls Try.prog 55 #[.pointer (some ⟨g, 0, none⟩), .int .i64 op] w fun e w' => e = .returned (.int .i64 (pin k n op)) ∧ ∃ m, w' = w.drewN m := by
  obtain ⟨r2, f2⟩ := h.2 2 _ rfl
  by_cases hk : op ≤ k
  · have HF := Lib.hid (show (-1 : Int) = pin k n op from by unfold pin; rw [if_neg (by omega)])
    go_enter Try.func55, Try.ntmps55
    go_wp2
    go_ret
    exact ⟨ret_int HF.out, 0, rfl⟩
  · by_cases hn : k + n < op
    · have HF := Lib.hid (show (-1 : Int) = pin k n op from by unfold pin; rw [if_neg (by omega)])
      go_enter Try.func55, Try.ntmps55
      go_wp2_with (go_at_call 39; refine (head_pc h h0 h1).mono ?_; rintro e w' ⟨rfl, m, rfl⟩)
      go_ret
      exact ⟨ret_int HF.out, _, rfl⟩
    · have hw : IntKind.i64.wrap (op - k) = op - k := IntWalk.i64_in _ (by omega)
      have hw2 : IntKind.i64.wrap (op - k - 1) = op - k - 1 := IntWalk.i64_in _ (by omega)
      have HF := Lib.hid (show op - k - 1 = pin k n op from by unfold pin; rw [if_pos (by omega)])
      go_enter Try.func55, Try.ntmps55
      go_wp2_with (go_at_call 39; refine (head_pc h h0 h1).mono ?_; rintro e w' ⟨rfl, m, rfl⟩)
      go_ret
      exact ⟨ret_int HF.out, _, rfl⟩
end
end Go.Proofs.Ytecaahcmebdglaa

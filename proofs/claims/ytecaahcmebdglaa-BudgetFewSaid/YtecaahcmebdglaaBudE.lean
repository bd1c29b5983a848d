/- All rots, counted. -/
import Derived.Test.YtecaahcmebdglaaBudC
import Derived.Test.YtecaahcmebdglaaBlk
import Derived.StillTailTactics
import Derived.Deep.MidRow
namespace Go.Proofs.Ytecaahcmebdglaa
open Go.RowKit
set_option linter.unusedVariables false
/-- The cells of a tally. -/
def cellsT (T : Nat → Nat) (any : Bool) : Array Value := #[.int .i64 (T 0), .int .i64 (T 1), .int .i64 (T 2), .int .i64 (T 3), .int .i64 (T 4), .int .i64 (T 5), .int .i64 (T 6), .int .i64 (T 7), .int .i64 (T 8), .int .i64 (T 9), .int .i64 (T 10), .int .i64 (T 11), .int .i64 (T 12), .int .i64 (T 13), .int .i64 (T 14), .bool any]
theorem lt15 {i : Nat} (hi : i < 15) : i = 0 ∨ i = 1 ∨ i = 2 ∨ i = 3 ∨ i = 4 ∨ i = 5 ∨ i = 6 ∨ i = 7 ∨ i = 8 ∨ i = 9 ∨ i = 10 ∨ i = 11 ∨ i = 12 ∨ i = 13 ∨ i = 14 := by omega
theorem cellsT_get (T : Nat → Nat) (any : Bool) (i : Nat) (hi : i < 15) : (cellsT T any)[i]? = some (.int .i64 (T i)) := by
  rcases lt15 hi with rfl | rfl | rfl | rfl | rfl | rfl | rfl | rfl | rfl | rfl | rfl | rfl | rfl | rfl | rfl <;> rfl
theorem cellsT_set (T : Nat → Nat) (any : Bool) (i : Nat) (hi : i < 15) (v : Nat) : (cellsT T any).setIfInBounds i (.int .i64 (v : Int)) = cellsT (fun k => if k = i then v else T k) any := by
  rcases lt15 hi with rfl | rfl | rfl | rfl | rfl | rfl | rfl | rfl | rfl | rfl | rfl | rfl | rfl | rfl | rfl <;> rfl
theorem cellsT_any (T : Nat → Nat) (any v : Bool) : (cellsT T any).setIfInBounds 15 (.bool v) = cellsT T v := rfl
theorem or_small (a b : Nat) (ha : a < 32) (hb : b < 32) : bits BinOp.or IntKind.i64 (a : Int) (b : Int) = ((a ||| b : Nat) : Int) := by
  have hlt : a ||| b < 32 := Nat.or_lt_two_pow (n := 5) ha hb
  show IntKind.i64.wrap ((BitVec.ofInt 64 (a : Int) ||| BitVec.ofInt 64 (b : Int)).toNat : Int) = _
  rw [BitVec.toNat_or, ofInt64, ofInt64, show ((a : Int) % 18446744073709551616).toNat = a by omega, show ((b : Int) % 18446744073709551616).toNat = b by omega]
  exact IntWalk.i64_in _ (by omega)
theorem results_tally {tmps : Array Value} {w : World} {g : Nat} {T : Nat → Nat} {any : Bool} (hp : tmps[4]?.getD undef = .pointer (some ⟨g, 0, none⟩)) (hB : Blk w g (cellsT T any)) :
    (results Try.f50 tmps).run Try.prog w = .ok (.agg (cellsT T any)) w := by
  have hl := run_loadVar_mid (P := Try.prog) w g 0 66 (cellsT T any).toList _ (fun j v hv => by rw [Nat.zero_add]; exact (hB.2 j v (by simpa using hv)).1) Try.underlying66 rfl (by kernel_rfl)
  rw [show results Try.f50 tmps = (do loadVar 66 (← asAddr (tmps[4]?.getD undef))) from by simp [results], hp]
  simp [asAddr, hl]
/-- The empty tally. -/
def zerosT : Array Value := #[.int .i64 0, .int .i64 0, .int .i64 0, .int .i64 0, .int .i64 0, .int .i64 0, .int .i64 0, .int .i64 0, .int .i64 0, .int .i64 0, .int .i64 0, .int .i64 0, .int .i64 0, .int .i64 0, .int .i64 0, .bool false]
theorem zerosT_eq : zerosT = cellsT (fun _ => 0) false := rfl
theorem ball (w : World) (r c : Int) : Blk (((w.alloc (.cells #[.int .i64 r, .int .i64 c] 29)).alloc (.cells #[.int .i64 0, .int .i64 0, .int .i64 0, .int .i64 0, .int .i64 0, .int .i64 0, .int .i64 0, .int .i64 0, .int .i64 0, .int .i64 0, .int .i64 0, .int .i64 0, .int .i64 0, .int .i64 0, .int .i64 0, .bool false] 66)).alloc (.cells #[.int .i64 0, .int .i64 0, .int .i64 0, .int .i64 0, .int .i64 0, .int .i64 0, .int .i64 0, .int .i64 0, .int .i64 0, .int .i64 0, .int .i64 0, .int .i64 0, .int .i64 0, .int .i64 0, .int .i64 0, .bool false] 66)) (w.heap.size + 1) (cellsT (fun _ => 0) false) := by
  rw [← zerosT_eq]
  exact Blk.alloc (Blk.new _ _ _ _ (by simp)) _
theorem ball_below (w : World) (a b c : Obj) : Below w.heap.size w (((w.alloc a).alloc b).alloc c) := (((Below.refl _ _).alloc (Nat.le_refl _) _).alloc (by simp) _).alloc (by simp; omega) _
set_option maxRecDepth 100000 in
set_option maxHeartbeats 20000000 in
theorem count_no1 (r c : Int) (sl : Value) (w : World) (hr : r = 3 ∨ r = 5) (h1 : c < 1) :
    Calls Try.prog 50 #[.agg #[.int .i64 r, .int .i64 c], sl] w fun e w' => e = .returned (.agg (cellsT (fun _ => 0) false)) ∧ Below w.heap.size w w' := by
  have HM : Hid (∀ w, Calls Try.prog 15 #[.int .i64 r] w fun e w' => e = .returned (.bool true) ∧ w = w') := Lib.hid (fun w => may_yes r w hr)
  clear hr
  go_enter Try.func50, Try.ntmps50
  go_wp2_with (go_at_call 15; refine (HM.out _).mono ?_; rintro e w' ⟨rfl, rfl⟩)
  refine bodyPost_ret (results_tally rfl (ball w _ _)) rfl ?_
  exact ⟨rfl, ball_below w _ _ _⟩
set_option maxRecDepth 100000 in
set_option maxHeartbeats 20000000 in
theorem count_no2 (r c : Int) (sl : Value) (w : World) (hr : r = 3 ∨ r = 5) (h1 : 1 ≤ c) (h4 : 4 < c) :
    Calls Try.prog 50 #[.agg #[.int .i64 r, .int .i64 c], sl] w fun e w' => e = .returned (.agg (cellsT (fun _ => 0) false)) ∧ Below w.heap.size w w' := by
  have HM : Hid (∀ w, Calls Try.prog 15 #[.int .i64 r] w fun e w' => e = .returned (.bool true) ∧ w = w') := Lib.hid (fun w => may_yes r w hr)
  clear hr
  go_enter Try.func50, Try.ntmps50
  go_wp2_with (go_at_call 15; refine (HM.out _).mono ?_; rintro e w' ⟨rfl, rfl⟩)
  refine bodyPost_ret (results_tally rfl (ball w _ _)) rfl ?_
  exact ⟨rfl, ball_below w _ _ _⟩
set_option maxRecDepth 100000 in
set_option maxHeartbeats 20000000 in
theorem count_no3 (r c : Int) (sl : Value) (w : World) (h3 : (r == 3) = false) (h5 : (r == 5) = false) :
    Calls Try.prog 50 #[.agg #[.int .i64 r, .int .i64 c], sl] w fun e w' => e = .returned (.agg (cellsT (fun _ => 0) false)) ∧ Below w.heap.size w w' := by
  go_enter Try.func50, Try.ntmps50
  go_wp2_with (go_at_call 15; refine (may_no _ _ h3 h5).mono ?_; rintro e w' ⟨rfl, rfl⟩)
  refine bodyPost_ret (results_tally rfl (ball w _ _)) rfl ?_
  exact ⟨rfl, ball_below w _ _ _⟩
theorem count_no (r c : Int) (sl : Value) (w : World) (hm : ¬ Bud.may r c = true) :
    Calls Try.prog 50 #[.agg #[.int .i64 r, .int .i64 c], sl] w fun e w' => e = .returned (.agg (cellsT (fun _ => 0) false)) ∧ Below w.heap.size w w' := by
  by_cases hr : r = 3 ∨ r = 5
  · by_cases h1 : c < 1
    · exact count_no1 r c sl w hr h1
    · exact count_no2 r c sl w hr (by omega) (Int.lt_of_not_ge (fun h => hm ((Bud.may_iff _ _).2 ⟨hr, by omega, h⟩)))
  · exact count_no3 r c sl w (by simp; omega) (by simp; omega)
end Go.Proofs.Ytecaahcmebdglaa

import Derived.Test.YtmebodjofcomlaaNumB
namespace Go.Proofs.Ytmebodjofcomlaa
open Go.RowKit
theorem put_out (v : Value) (n size : Int) (w : World) (hs : size < 1 ∨ 8 < size) :
    Calls Try.prog 32 #[v, .int .u64 n, .int .i64 size] w fun e w' => e = .returned (.tuple #[.slice none 0 0, .int .i64 1]) ∧ w = w' := by
  rcases hs with h | h
  all_goals
    go_enter Try.func32, Try.ntmps32
    go_wp2_with fail
    go_ret2
    exact ⟨rfl, rfl⟩
theorem put_big (v : Value) (n size : Nat) (w : World) (hs : 1 ≤ size) (hs8 : size < 8) (hbig : n / 256 ^ size ≠ 0) :
    Calls Try.prog 32 #[v, .int .u64 n, .int .i64 size] w fun e w' => e = .returned (.tuple #[.slice none 0 0, .int .i64 1]) ∧ w = w' := by
  have hsh : ((n : Int) / 2 ^ (8 * size) != 0) = true := by rw [shr_none, decide_eq_false hbig]; rfl
  clear hbig
  go_enter Try.func32, Try.ntmps32
  go_wp2_with fail
  go_ret2
  exact ⟨rfl, rfl⟩
end Go.Proofs.Ytmebodjofcomlaa

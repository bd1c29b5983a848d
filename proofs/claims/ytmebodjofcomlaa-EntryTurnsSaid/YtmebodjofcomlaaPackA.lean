import Derived.Test.YtmebodjofcomlaaStr
import Derived.Test.YtmebodjofcomlaaRow
import Derived.Test.YtmebodjofcomlaaCrcC
import Derived.Test.YtmebodjofcomlaaHeadB
namespace Go.Proofs.Ytmebodjofcomlaa
open Go.RowKit
def packIn (k f o : Nat) (ns : List Nat) (par : Nat) (body : List Nat) : List Nat :=
  leN (Crc.add 0 body) 4 ++ [k, f, o, 0] ++ leN body.length 4 ++ leN par 8 ++ ns.flatMap (leN · 8) ++ List.replicate 40 0
def packL (k f o : Nat) (ns : List Nat) (par : Nat) (body : List Nat) : List Nat := leN (Crc.add 0 (packIn k f o ns par body)) 4 ++ packIn k f o ns par body ++ body
set_option maxHeartbeats 2000000 in
theorem pack_form (k f o v p c cl se rq a b : Int) (par : Int) (body : ByteArray) (w : World) (h : headB k f o v p c cl se rq a b = false) :
    Calls Try.prog 18 #[.agg #[.int .i64 k, .int .i64 f, .int .i64 o, .int .i64 v, .int .i64 p, .int .i64 c, .int .i64 cl, .int .i64 se, .int .i64 rq, .int .i64 a, .int .i64 b, .int .u64 par], .string body] w fun e w' => e = .returned (.tuple #[.string ⟨#[]⟩, .int .i64 4]) ∧ Below w.heap.size w w' := by
  have hr := fun w => right_any k f o v p c cl se rq a b par w
  rw [h] at hr
  have HR := Lib.hid hr
  clear hr h
  have HB0 := Lib.hid ((Below.refl w.heap.size w).alloc (Nat.le_refl _) (.cells #[.int .i64 k, .int .i64 f, .int .i64 o, .int .i64 v, .int .i64 p, .int .i64 c, .int .i64 cl, .int .i64 se, .int .i64 rq, .int .i64 a, .int .i64 b, .int .u64 par] 34))
  go_enter Try.func18, Try.ntmps18
  go_wp2_with fail
  refine (HR.out _).mono ?_
  rintro e w1 ⟨rfl, hb1⟩
  go_wp2_with fail
  go_ret2
  exact ⟨rfl, HB0.out.trans (hb1.mono (by simp))⟩
set_option maxHeartbeats 2000000 in
theorem pack_long (k f o v p c cl se rq a b : Int) (par : Int) (body : ByteArray) (w : World) (h : headB k f o v p c cl se rq a b = true) (hl : 3968 < body.size) :
    Calls Try.prog 18 #[.agg #[.int .i64 k, .int .i64 f, .int .i64 o, .int .i64 v, .int .i64 p, .int .i64 c, .int .i64 cl, .int .i64 se, .int .i64 rq, .int .i64 a, .int .i64 b, .int .u64 par], .string body] w fun e w' => e = .returned (.tuple #[.string ⟨#[]⟩, .int .i64 5]) ∧ Below w.heap.size w w' := by
  have hr := fun w => right_any k f o v p c cl se rq a b par w
  rw [h] at hr
  have HR := Lib.hid hr
  clear hr h
  have HB0 := Lib.hid ((Below.refl w.heap.size w).alloc (Nat.le_refl _) (.cells #[.int .i64 k, .int .i64 f, .int .i64 o, .int .i64 v, .int .i64 p, .int .i64 c, .int .i64 cl, .int .i64 se, .int .i64 rq, .int .i64 a, .int .i64 b, .int .u64 par] 34))
  have hl' : (3968 : Int) < body.size := by omega
  go_enter Try.func18, Try.ntmps18
  go_wp2_with fail
  refine (HR.out _).mono ?_
  rintro e w1 ⟨rfl, hb1⟩
  go_wp2_with fail
  go_ret2
  exact ⟨rfl, HB0.out.trans (hb1.mono (by simp))⟩
end Go.Proofs.Ytmebodjofcomlaa

/- The marks, and what follows one: the program's and the reference's. -/
import Derived.Test.YtpbjjmenkoigjaaDoorMgLawChooseTurnsAD
import Derived.Deep.RegionWith
namespace Go.Proofs.YtpbjjmenkoigjaaDoor
open Go.RowKit
def mkO (view op under client sess req oper : Int) (body : ByteArray) : Int := if entB view op under client sess req oper body = true then op else 0
def mkV (view op under client sess req oper : Int) (body : ByteArray) : Int := if entB view op under client sess req oper body = true then view else 0
def mkS (view op under par client sess req oper : Int) (body : ByteArray) : Int := if entB view op under client sess req oper body = true then ((Chain.chain par.toNat (nats (entS view op under par client sess req oper body)) : Nat) : Int) else 0
theorem entS_size (view op under par client sess req oper : Int) (body : ByteArray) : (entS view op under par client sess req oper body).size ≤ 128 + 200 := by
  unfold entS
  split
  · next h =>
    obtain ⟨h1, _, _, _, _, h2⟩ := entB_parts h
    unfold packS
    rw [if_pos ⟨h1, by omega⟩, text_size, packL_length, nats_length]
    omega
  · decide
set_option maxHeartbeats 4000000 in
theorem markof_any (view op under client sess req oper par : Int) (body : ByteArray) (hpar : 0 ≤ par ∧ par ≤ 18446744073709551615) (w : World) :
    Calls Tryd.prog 13 #[.agg #[.int .i64 view, .int .i64 op, .int .i64 under, .int .u64 par, .int .i64 client, .int .i64 sess, .int .i64 req, .int .i64 oper, .string body]] w fun e w' => e = .returned (.agg #[.int .i64 (mkO view op under client sess req oper body), .int .i64 (mkV view op under client sess req oper body), .int .u64 (mkS view op under par client sess req oper body)]) ∧ Below w.heap.size w w' := by
  have HP := Lib.hid (fun W => epack_any view op under client sess req oper par body hpar W)
  have hsz := entS_size view op under par client sess req oper body
  have H0 := Lib.hid (HS.new w #[.int .i64 view, .int .i64 op, .int .i64 under, .int .u64 par, .int .i64 client, .int .i64 sess, .int .i64 req, .int .i64 oper, .string body] 35)
  obtain ⟨par, rfl⟩ : ∃ n : Nat, par = n := ⟨par.toNat, by omega⟩
  have HC := Lib.hid (fun W => chain_any par (entS view op under par client sess req oper body) W (by omega) (by unfold maxLen; omega))
  cases hx : entB view op under client sess req oper body
  · have e0 : entE view op under client sess req oper body = 4 := if_neg (by rw [hx]; simp)
    have e1 : mkO view op under client sess req oper body = 0 := if_neg (by rw [hx]; simp)
    have e2 : mkV view op under client sess req oper body = 0 := if_neg (by rw [hx]; simp)
    have e3 : mkS view op under par client sess req oper body = 0 := if_neg (by rw [hx]; simp)
    rw [e0] at HP
    rw [e1, e2, e3]
    clear hx e0 e1 e2 e3 HC hpar
    generalize entS view op under par client sess req oper body = S at *
    go_enter Tryd.func13, Tryd.ntmps13
    go_wp2_with fail
    have HR := Lib.hid (Blk.new (w.alloc (.cells #[.int .i64 view, .int .i64 op, .int .i64 under, .int .u64 par, .int .i64 client, .int .i64 sess, .int .i64 req, .int .i64 oper, .string body] 35)) #[.int .i64 0, .int .i64 0, .int .u64 0] 27 (w.heap.size + 1) (by simp))
    have H0' := Lib.hid (H0.out.next ((Below.refl _ _).alloc (Nat.le_refl _) (.cells #[.int .i64 0, .int .i64 0, .int .u64 0] 27)))
    refine (HP.out _).mono ?_
    rintro e w1 ⟨rfl, hb1⟩
    have H1 := Lib.hid (H0'.out.next hb1)
    obtain ⟨r0, f0⟩ := (HR.out.later hb1).2 0 _ rfl
    obtain ⟨r1, f1⟩ := (HR.out.later hb1).2 1 _ rfl
    obtain ⟨r2, f2⟩ := (HR.out.later hb1).2 2 _ rfl
    clear hb1 H0 H0' HR
    go_wp2_with fail
    exact bodyPost_ret (v := .agg #[.int .i64 0, .int .i64 0, .int .u64 0]) (by simp [results, Tryd.results13, go_sem, r0, r1, r2]) rfl ⟨rfl, ((H1.out.2.setCell (p := ⟨w.heap.size + 1, 0, none⟩) (Nat.le_succ _) _).setCell (p := ⟨w.heap.size + 1, 1, none⟩) (Nat.le_succ _) _).setCell (p := ⟨w.heap.size + 1, 2, none⟩) (Nat.le_succ _) _⟩
  · have e0 : entE view op under client sess req oper body = 0 := if_pos hx
    have e1 : mkO view op under client sess req oper body = op := if_pos hx
    have e2 : mkV view op under client sess req oper body = view := if_pos hx
    have e3 : mkS view op under par client sess req oper body = ((Chain.chain par (nats (entS view op under par client sess req oper body)) : Nat) : Int) := by
      unfold mkS; rw [if_pos hx, Int.toNat_natCast]
    rw [e0] at HP
    rw [e1, e2, e3]
    clear hx e0 e1 e2 e3 hpar
    generalize entS view op under par client sess req oper body = S at *
    obtain ⟨X, hX⟩ : ∃ X : Nat, X = Chain.chain par (nats S) := ⟨_, rfl⟩
    rw [← hX] at HC ⊢
    clear hX
    go_enter Tryd.func13, Tryd.ntmps13
    go_wp2_with fail
    have HR := Lib.hid (Blk.new (w.alloc (.cells #[.int .i64 view, .int .i64 op, .int .i64 under, .int .u64 par, .int .i64 client, .int .i64 sess, .int .i64 req, .int .i64 oper, .string body] 35)) #[.int .i64 0, .int .i64 0, .int .u64 0] 27 (w.heap.size + 1) (by simp))
    have H0' := Lib.hid (H0.out.next ((Below.refl _ _).alloc (Nat.le_refl _) (.cells #[.int .i64 0, .int .i64 0, .int .u64 0] 27)))
    refine (HP.out _).mono ?_
    rintro e w1 ⟨rfl, hb1⟩
    have H1 := Lib.hid (H0'.out.next hb1)
    obtain ⟨r0, f0⟩ := (HR.out.later hb1).2 0 _ rfl
    obtain ⟨r1, f1⟩ := (HR.out.later hb1).2 1 _ rfl
    obtain ⟨r2, f2⟩ := (HR.out.later hb1).2 2 _ rfl
    clear hb1 H0 H0' HR
    have c0 := H1.out.1.2 0 _ rfl
    have c1 := H1.out.1.2 1 _ rfl
    have c2 := H1.out.1.2 2 _ rfl
    have c3 := H1.out.1.2 3 _ rfl
    have c4 := H1.out.1.2 4 _ rfl
    have c5 := H1.out.1.2 5 _ rfl
    have c6 := H1.out.1.2 6 _ rfl
    have c7 := H1.out.1.2 7 _ rfl
    have c8 := H1.out.1.2 8 _ rfl
    go_wp2_with fail
    go_region_with (go_at_call 34; refine (HC.out _).mono ?_; rintro e wx ⟨rfl, rfl⟩)
    all_goals
      go_wp2_with fail
      exact bodyPost_ret (v := .agg #[.int .i64 op, .int .i64 view, .int .u64 X]) (by simp [results, Tryd.results13, go_sem, r0, r1, r2]) rfl ⟨rfl, (((H1.out.2.setCell (p := ⟨w.heap.size + 1, 0, none⟩) (Nat.le_succ _) _).setCell (p := ⟨w.heap.size + 1, 1, none⟩) (Nat.le_succ _) _).setCell (p := ⟨w.heap.size + 1, 2, none⟩) (Nat.le_succ _) _).drew⟩
set_option maxHeartbeats 4000000 in
theorem rmarkof_any (view op under client sess req oper par : Int) (body : ByteArray) (hpar : 0 ≤ par ∧ par ≤ 18446744073709551615) (w : World) :
    Calls Tryd.prog 65 #[.agg #[.int .i64 view, .int .i64 op, .int .i64 under, .int .u64 par, .int .i64 client, .int .i64 sess, .int .i64 req, .int .i64 oper, .string body]] w fun e w' => e = .returned (.agg #[.int .i64 (mkO view op under client sess req oper body), .int .i64 (mkV view op under client sess req oper body), .int .u64 (mkS view op under par client sess req oper body)]) ∧ Below w.heap.size w w' := by
  have HP := Lib.hid (fun W => repack_any view op under client sess req oper par body hpar W)
  have hsz := entS_size view op under par client sess req oper body
  have H0 := Lib.hid (HS.new w #[.int .i64 view, .int .i64 op, .int .i64 under, .int .u64 par, .int .i64 client, .int .i64 sess, .int .i64 req, .int .i64 oper, .string body] 35)
  obtain ⟨par, rfl⟩ : ∃ n : Nat, par = n := ⟨par.toNat, by omega⟩
  have HC := Lib.hid (fun W => refchain_any par (entS view op under par client sess req oper body) W (by omega) (by omega))
  cases hx : entB view op under client sess req oper body
  · have e0 : entE view op under client sess req oper body = 4 := if_neg (by rw [hx]; simp)
    have e1 : mkO view op under client sess req oper body = 0 := if_neg (by rw [hx]; simp)
    have e2 : mkV view op under client sess req oper body = 0 := if_neg (by rw [hx]; simp)
    have e3 : mkS view op under par client sess req oper body = 0 := if_neg (by rw [hx]; simp)
    rw [e0] at HP
    rw [e1, e2, e3]
    clear hx e0 e1 e2 e3 HC hpar
    generalize entS view op under par client sess req oper body = S at *
    go_enter Tryd.func65, Tryd.ntmps65
    go_wp2_with fail
    have HR := Lib.hid (Blk.new (w.alloc (.cells #[.int .i64 view, .int .i64 op, .int .i64 under, .int .u64 par, .int .i64 client, .int .i64 sess, .int .i64 req, .int .i64 oper, .string body] 35)) #[.int .i64 0, .int .i64 0, .int .u64 0] 27 (w.heap.size + 1) (by simp))
    have H0' := Lib.hid (H0.out.next ((Below.refl _ _).alloc (Nat.le_refl _) (.cells #[.int .i64 0, .int .i64 0, .int .u64 0] 27)))
    refine (HP.out _).mono ?_
    rintro e w1 ⟨rfl, hb1⟩
    have H1 := Lib.hid (H0'.out.next hb1)
    obtain ⟨r0, f0⟩ := (HR.out.later hb1).2 0 _ rfl
    obtain ⟨r1, f1⟩ := (HR.out.later hb1).2 1 _ rfl
    obtain ⟨r2, f2⟩ := (HR.out.later hb1).2 2 _ rfl
    clear hb1 H0 H0' HR
    go_wp2_with fail
    exact bodyPost_ret (v := .agg #[.int .i64 0, .int .i64 0, .int .u64 0]) (by simp [results, Tryd.results65, go_sem, r0, r1, r2]) rfl ⟨rfl, ((H1.out.2.setCell (p := ⟨w.heap.size + 1, 0, none⟩) (Nat.le_succ _) _).setCell (p := ⟨w.heap.size + 1, 1, none⟩) (Nat.le_succ _) _).setCell (p := ⟨w.heap.size + 1, 2, none⟩) (Nat.le_succ _) _⟩
  · have e0 : entE view op under client sess req oper body = 0 := if_pos hx
    have e1 : mkO view op under client sess req oper body = op := if_pos hx
    have e2 : mkV view op under client sess req oper body = view := if_pos hx
    have e3 : mkS view op under par client sess req oper body = ((Chain.chain par (nats (entS view op under par client sess req oper body)) : Nat) : Int) := by
      unfold mkS; rw [if_pos hx, Int.toNat_natCast]
    rw [e0] at HP
    rw [e1, e2, e3]
    clear hx e0 e1 e2 e3 hpar
    generalize entS view op under par client sess req oper body = S at *
    obtain ⟨X, hX⟩ : ∃ X : Nat, X = Chain.chain par (nats S) := ⟨_, rfl⟩
    rw [← hX] at HC ⊢
    clear hX
    go_enter Tryd.func65, Tryd.ntmps65
    go_wp2_with fail
    have HR := Lib.hid (Blk.new (w.alloc (.cells #[.int .i64 view, .int .i64 op, .int .i64 under, .int .u64 par, .int .i64 client, .int .i64 sess, .int .i64 req, .int .i64 oper, .string body] 35)) #[.int .i64 0, .int .i64 0, .int .u64 0] 27 (w.heap.size + 1) (by simp))
    have H0' := Lib.hid (H0.out.next ((Below.refl _ _).alloc (Nat.le_refl _) (.cells #[.int .i64 0, .int .i64 0, .int .u64 0] 27)))
    refine (HP.out _).mono ?_
    rintro e w1 ⟨rfl, hb1⟩
    have H1 := Lib.hid (H0'.out.next hb1)
    obtain ⟨r0, f0⟩ := (HR.out.later hb1).2 0 _ rfl
    obtain ⟨r1, f1⟩ := (HR.out.later hb1).2 1 _ rfl
    obtain ⟨r2, f2⟩ := (HR.out.later hb1).2 2 _ rfl
    clear hb1 H0 H0' HR
    have c0 := H1.out.1.2 0 _ rfl
    have c1 := H1.out.1.2 1 _ rfl
    have c2 := H1.out.1.2 2 _ rfl
    have c3 := H1.out.1.2 3 _ rfl
    have c4 := H1.out.1.2 4 _ rfl
    have c5 := H1.out.1.2 5 _ rfl
    have c6 := H1.out.1.2 6 _ rfl
    have c7 := H1.out.1.2 7 _ rfl
    have c8 := H1.out.1.2 8 _ rfl
    go_wp2_with fail
    go_region_with (go_at_call 76; refine (HC.out _).mono ?_; rintro e wx ⟨rfl, rfl⟩)
    all_goals
      go_wp2_with fail
      exact bodyPost_ret (v := .agg #[.int .i64 op, .int .i64 view, .int .u64 X]) (by simp [results, Tryd.results65, go_sem, r0, r1, r2]) rfl ⟨rfl, (((H1.out.2.setCell (p := ⟨w.heap.size + 1, 0, none⟩) (Nat.le_succ _) _).setCell (p := ⟨w.heap.size + 1, 1, none⟩) (Nat.le_succ _) _).setCell (p := ⟨w.heap.size + 1, 2, none⟩) (Nat.le_succ _) _).drew⟩
end Go.Proofs.YtpbjjmenkoigjaaDoor

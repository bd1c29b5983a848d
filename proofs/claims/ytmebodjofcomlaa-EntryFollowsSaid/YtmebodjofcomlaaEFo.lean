/- What follows a mark: the reference's; the walk of EntryFollows. -/
import Derived.Test.YtmebodjofcomlaaEMk
import Derived.Test.YtmebodjofcomlaaEntC
namespace Go.Proofs.Ytmebodjofcomlaa
open Go.RowKit
/-- A mark and an entry that the call keeps, and nothing older turned. -/
def MS (w : World) (cm ce : Array Value) (W : World) : Prop := Row W w.heap.size cm ∧ Row W (w.heap.size + 1) ce ∧ Below w.heap.size w W
theorem MS.next {w W W' : World} {cm ce : Array Value} (h : MS w cm ce W) (hb : Below W.heap.size W W') : MS w cm ce W' := ⟨h.1.below hb h.1.1, h.2.1.below hb h.2.1.1, h.2.2.trans (hb.mono h.2.2.size)⟩
theorem MS.drew {w W : World} {cm ce : Array Value} (h : MS w cm ce W) : MS w cm ce W.drew := ⟨h.1, h.2.1, h.2.2.drew⟩
theorem MS.new (w : World) (cm ce : Array Value) (t u : TypeId) : MS w cm ce ((w.alloc (.cells cm t)).alloc (.cells ce u)) := ⟨(Row.new w _ _ _ rfl).alloc _, Row.new _ _ _ _ (by simp), ((Below.refl _ _).alloc (Nat.le_refl _) _).alloc (by simp) _⟩
set_option maxHeartbeats 4000000 in
theorem rfollows_any (mo mv ms view op under client sess req oper par : Int) (body : ByteArray) (hop : -9223372036854775808 ≤ op ∧ op ≤ 9223372036854775807) (w : World) :
    Calls Try.prog 25 #[.agg #[.int .i64 mo, .int .i64 mv, .int .u64 ms], .agg #[.int .i64 view, .int .i64 op, .int .i64 under, .int .u64 par, .int .i64 client, .int .i64 sess, .int .i64 req, .int .i64 oper, .string body]] w fun e w' => e = .returned (.bool (folB mo mv ms view op under par client sess req oper body)) ∧ Below w.heap.size w w' := by
  have hr := fun w => rright9_any view op under client sess req oper par body w
  have H0 := Lib.hid (MS.new w #[.int .i64 mo, .int .i64 mv, .int .u64 ms] #[.int .i64 view, .int .i64 op, .int .i64 under, .int .u64 par, .int .i64 client, .int .i64 sess, .int .i64 req, .int .i64 oper, .string body] 24 26)
  have HNO := Lib.hid (folB_no mo mv ms view op under par client sess req oper body)
  have HYES := Lib.hid (folB_yes mo mv ms view op under par client sess req oper body)
  have HH := Lib.hid (folB_ent mo mv ms view op under par client sess req oper body)
  have HOP := Lib.hid (entB_op view op under client sess req oper body)
  cases hx : entB view op under client sess req oper body
  · rw [hx] at hr
    have HR := Lib.hid hr
    have HF := Lib.hid (HH.out hx)
    clear hr hx
    go_enter Try.func25, Try.ntmps25
    go_wp2_with fail
    refine (HR.out _).mono ?_
    rintro e w1 ⟨rfl, hb1⟩
    have H1 := Lib.hid (H0.out.next hb1)
    clear hb1 H0
    go_wp2_with fail
    go_ret
    exact ⟨ret_bool (by rw [HF.out]), H1.out.2.2⟩
  · rw [hx] at hr
    have HR := Lib.hid hr
    have HX := Lib.hid hx
    have h1 := HOP.out hx
    clear hr hx
    by_cases k0 : mo = op - 1
    rotate_left
    · have kb : (mo == (op - 1)) = false := by simp; omega
      have HK := Lib.hid k0
      clear k0
      have HF := Lib.hid (HNO.out (by have := HK.out; omega))
      go_enter Try.func25, Try.ntmps25
      go_wp2_with fail
      refine (HR.out _).mono ?_
      rintro e w1 ⟨rfl, hb1⟩
      have H1 := Lib.hid (H0.out.next hb1)
      clear hb1 H0
      have c0 := H1.out.2.1.2 0 _ rfl
      have c1 := H1.out.2.1.2 1 _ rfl
      have c2 := H1.out.2.1.2 2 _ rfl
      have c3 := H1.out.2.1.2 3 _ rfl
      have c4 := H1.out.2.1.2 4 _ rfl
      have c5 := H1.out.2.1.2 5 _ rfl
      have c6 := H1.out.2.1.2 6 _ rfl
      have c7 := H1.out.2.1.2 7 _ rfl
      have c8 := H1.out.2.1.2 8 _ rfl
      have m0 := H1.out.1.2 0 _ rfl
      have m1 := H1.out.1.2 1 _ rfl
      have m2 := H1.out.1.2 2 _ rfl
      go_wp2_with fail
      go_ret
      exact ⟨ret_bool (by first | (rw [HF.out]; done) | (rw [HF.out]; simp; done) | (rw [HF.out]; simp; omega)), H1.out.2.2⟩
    subst k0
    by_cases k1 : mv = under
    rotate_left
    · have kb : (mv == under) = false := by simp; omega
      have HK := Lib.hid k1
      clear k1
      have HF := Lib.hid (HNO.out (by have := HK.out; omega))
      go_enter Try.func25, Try.ntmps25
      go_wp2_with fail
      refine (HR.out _).mono ?_
      rintro e w1 ⟨rfl, hb1⟩
      have H1 := Lib.hid (H0.out.next hb1)
      clear hb1 H0
      have c0 := H1.out.2.1.2 0 _ rfl
      have c1 := H1.out.2.1.2 1 _ rfl
      have c2 := H1.out.2.1.2 2 _ rfl
      have c3 := H1.out.2.1.2 3 _ rfl
      have c4 := H1.out.2.1.2 4 _ rfl
      have c5 := H1.out.2.1.2 5 _ rfl
      have c6 := H1.out.2.1.2 6 _ rfl
      have c7 := H1.out.2.1.2 7 _ rfl
      have c8 := H1.out.2.1.2 8 _ rfl
      have m0 := H1.out.1.2 0 _ rfl
      have m1 := H1.out.1.2 1 _ rfl
      have m2 := H1.out.1.2 2 _ rfl
      go_wp2_with fail
      go_ret
      exact ⟨ret_bool (by first | (rw [HF.out]; done) | (rw [HF.out]; simp; done) | (rw [HF.out]; simp; omega)), H1.out.2.2⟩
    subst k1
    by_cases k2 : ms = par
    rotate_left
    · have kb : (ms == par) = false := by simp; omega
      have HK := Lib.hid k2
      clear k2
      have HF := Lib.hid (HNO.out (by have := HK.out; omega))
      go_enter Try.func25, Try.ntmps25
      go_wp2_with fail
      refine (HR.out _).mono ?_
      rintro e w1 ⟨rfl, hb1⟩
      have H1 := Lib.hid (H0.out.next hb1)
      clear hb1 H0
      have c0 := H1.out.2.1.2 0 _ rfl
      have c1 := H1.out.2.1.2 1 _ rfl
      have c2 := H1.out.2.1.2 2 _ rfl
      have c3 := H1.out.2.1.2 3 _ rfl
      have c4 := H1.out.2.1.2 4 _ rfl
      have c5 := H1.out.2.1.2 5 _ rfl
      have c6 := H1.out.2.1.2 6 _ rfl
      have c7 := H1.out.2.1.2 7 _ rfl
      have c8 := H1.out.2.1.2 8 _ rfl
      have m0 := H1.out.1.2 0 _ rfl
      have m1 := H1.out.1.2 1 _ rfl
      have m2 := H1.out.1.2 2 _ rfl
      go_wp2_with fail
      go_ret
      exact ⟨ret_bool (by first | (rw [HF.out]; done) | (rw [HF.out]; simp; done) | (rw [HF.out]; simp; omega)), H1.out.2.2⟩
    subst k2
    have HF0 := Lib.hid (HYES.out HX.out ⟨rfl, rfl, rfl⟩)
    have HF := Lib.hid (HF0.out)
    go_enter Try.func25, Try.ntmps25
    go_wp2_with fail
    refine (HR.out _).mono ?_
    rintro e w1 ⟨rfl, hb1⟩
    have H1 := Lib.hid (H0.out.next hb1)
    clear hb1 H0
    have c0 := H1.out.2.1.2 0 _ rfl
    have c1 := H1.out.2.1.2 1 _ rfl
    have c2 := H1.out.2.1.2 2 _ rfl
    have c3 := H1.out.2.1.2 3 _ rfl
    have c4 := H1.out.2.1.2 4 _ rfl
    have c5 := H1.out.2.1.2 5 _ rfl
    have c6 := H1.out.2.1.2 6 _ rfl
    have c7 := H1.out.2.1.2 7 _ rfl
    have c8 := H1.out.2.1.2 8 _ rfl
    have m0 := H1.out.1.2 0 _ rfl
    have m1 := H1.out.1.2 1 _ rfl
    have m2 := H1.out.1.2 2 _ rfl
    go_wp2_with fail
    go_ret
    exact ⟨ret_bool (by first | (rw [HF.out]; done) | (rw [HF.out]; simp; done) | (rw [HF.out]; simp; omega)), H1.out.2.2⟩
set_option linter.unusedVariables false in
set_option maxHeartbeats 8000000 in
theorem efollows_core (mo mv ms view op under client sess req oper par : Int) (body : ByteArray) (hop : -9223372036854775808 ≤ op ∧ op ≤ 9223372036854775807) (hpar : 0 ≤ par ∧ par ≤ 18446744073709551615) (w : World) :
    Calls Try.prog 7 #[.agg #[.int .i64 mo, .int .i64 mv, .int .u64 ms], .agg #[.int .i64 view, .int .i64 op, .int .i64 under, .int .u64 par, .int .i64 client, .int .i64 sess, .int .i64 req, .int .i64 oper, .string body]] w fun e w' => e = .returned (.bool true) ∧ Below w.heap.size w w' := by
  have H0 := Lib.hid (MS.new w #[.int .i64 mo, .int .i64 mv, .int .u64 ms] #[.int .i64 view, .int .i64 op, .int .i64 under, .int .u64 par, .int .i64 client, .int .i64 sess, .int .i64 req, .int .i64 oper, .string body] 24 26)
  have HM1 := Lib.hid (fun W => markof_any view op under client sess req oper par body hpar W)
  have HM2 := Lib.hid (fun W => rmarkof_any view op under client sess req oper par body hpar W)
  have HF1 := Lib.hid (fun W => follows_any mo mv ms view op under par client sess req oper body hop W)
  have HF2 := Lib.hid (fun W => rfollows_any mo mv ms view op under client sess req oper par body hop W)
  generalize mkO view op under client sess req oper body = KO at *
  generalize mkV view op under client sess req oper body = KV at *
  generalize mkS view op under par client sess req oper body = KS at *
  generalize folB mo mv ms view op under par client sess req oper body = FB at *
  clear hop hpar
  go_enter Try.func7, Try.ntmps7
  go_wp2_with fail
  refine (awake09_any _).mono ?_
  rintro e w1 ⟨rfl, hb1⟩
  have H1 := Lib.hid (H0.out.next hb1)
  clear hb1 H0
  have c8 := H1.out.2.1.2 8 _ rfl
  go_wp2_with fail
  by_cases hl : 5000 < body.size
  · refine (long_yes _ _ hl).mono ?_
    rintro e w2 ⟨rfl, rfl⟩
    go_wp2_with fail
    go_ret
    exact ⟨rfl, H1.out.2.2⟩
  · refine (long_no _ _ (by omega)).mono ?_
    rintro e w2 ⟨rfl, rfl⟩
    clear c8
    go_wp2_with fail
    have l0 : ∀ W, MS w #[.int .i64 mo, .int .i64 mv, .int .u64 ms] #[.int .i64 view, .int .i64 op, .int .i64 under, .int .u64 par, .int .i64 client, .int .i64 sess, .int .i64 req, .int .i64 oper, .string body] W → W.cell? ⟨w.heap.size + 1, 0, none⟩ = some (.int .i64 view) := fun W h => h.2.1.2 0 _ rfl
    have l1 : ∀ W, MS w #[.int .i64 mo, .int .i64 mv, .int .u64 ms] #[.int .i64 view, .int .i64 op, .int .i64 under, .int .u64 par, .int .i64 client, .int .i64 sess, .int .i64 req, .int .i64 oper, .string body] W → W.cell? ⟨w.heap.size + 1, 1, none⟩ = some (.int .i64 op) := fun W h => h.2.1.2 1 _ rfl
    have l2 : ∀ W, MS w #[.int .i64 mo, .int .i64 mv, .int .u64 ms] #[.int .i64 view, .int .i64 op, .int .i64 under, .int .u64 par, .int .i64 client, .int .i64 sess, .int .i64 req, .int .i64 oper, .string body] W → W.cell? ⟨w.heap.size + 1, 2, none⟩ = some (.int .i64 under) := fun W h => h.2.1.2 2 _ rfl
    have l3 : ∀ W, MS w #[.int .i64 mo, .int .i64 mv, .int .u64 ms] #[.int .i64 view, .int .i64 op, .int .i64 under, .int .u64 par, .int .i64 client, .int .i64 sess, .int .i64 req, .int .i64 oper, .string body] W → W.cell? ⟨w.heap.size + 1, 3, none⟩ = some (.int .u64 par) := fun W h => h.2.1.2 3 _ rfl
    have l4 : ∀ W, MS w #[.int .i64 mo, .int .i64 mv, .int .u64 ms] #[.int .i64 view, .int .i64 op, .int .i64 under, .int .u64 par, .int .i64 client, .int .i64 sess, .int .i64 req, .int .i64 oper, .string body] W → W.cell? ⟨w.heap.size + 1, 4, none⟩ = some (.int .i64 client) := fun W h => h.2.1.2 4 _ rfl
    have l5 : ∀ W, MS w #[.int .i64 mo, .int .i64 mv, .int .u64 ms] #[.int .i64 view, .int .i64 op, .int .i64 under, .int .u64 par, .int .i64 client, .int .i64 sess, .int .i64 req, .int .i64 oper, .string body] W → W.cell? ⟨w.heap.size + 1, 5, none⟩ = some (.int .i64 sess) := fun W h => h.2.1.2 5 _ rfl
    have l6 : ∀ W, MS w #[.int .i64 mo, .int .i64 mv, .int .u64 ms] #[.int .i64 view, .int .i64 op, .int .i64 under, .int .u64 par, .int .i64 client, .int .i64 sess, .int .i64 req, .int .i64 oper, .string body] W → W.cell? ⟨w.heap.size + 1, 6, none⟩ = some (.int .i64 req) := fun W h => h.2.1.2 6 _ rfl
    have l7 : ∀ W, MS w #[.int .i64 mo, .int .i64 mv, .int .u64 ms] #[.int .i64 view, .int .i64 op, .int .i64 under, .int .u64 par, .int .i64 client, .int .i64 sess, .int .i64 req, .int .i64 oper, .string body] W → W.cell? ⟨w.heap.size + 1, 7, none⟩ = some (.int .i64 oper) := fun W h => h.2.1.2 7 _ rfl
    have l8 : ∀ W, MS w #[.int .i64 mo, .int .i64 mv, .int .u64 ms] #[.int .i64 view, .int .i64 op, .int .i64 under, .int .u64 par, .int .i64 client, .int .i64 sess, .int .i64 req, .int .i64 oper, .string body] W → W.cell? ⟨w.heap.size + 1, 8, none⟩ = some (.string body) := fun W h => h.2.1.2 8 _ rfl
    have k0 : ∀ W, MS w #[.int .i64 mo, .int .i64 mv, .int .u64 ms] #[.int .i64 view, .int .i64 op, .int .i64 under, .int .u64 par, .int .i64 client, .int .i64 sess, .int .i64 req, .int .i64 oper, .string body] W → W.cell? ⟨w.heap.size, 0, none⟩ = some (.int .i64 mo) := fun W h => h.1.2 0 _ rfl
    have k1 : ∀ W, MS w #[.int .i64 mo, .int .i64 mv, .int .u64 ms] #[.int .i64 view, .int .i64 op, .int .i64 under, .int .u64 par, .int .i64 client, .int .i64 sess, .int .i64 req, .int .i64 oper, .string body] W → W.cell? ⟨w.heap.size, 1, none⟩ = some (.int .i64 mv) := fun W h => h.1.2 1 _ rfl
    have k2 : ∀ W, MS w #[.int .i64 mo, .int .i64 mv, .int .u64 ms] #[.int .i64 view, .int .i64 op, .int .i64 under, .int .u64 par, .int .i64 client, .int .i64 sess, .int .i64 req, .int .i64 oper, .string body] W → W.cell? ⟨w.heap.size, 2, none⟩ = some (.int .u64 ms) := fun W h => h.1.2 2 _ rfl
    go_region_held3 (MS w #[.int .i64 mo, .int .i64 mv, .int .u64 ms] #[.int .i64 view, .int .i64 op, .int .i64 under, .int .u64 par, .int .i64 client, .int .i64 sess, .int .i64 req, .int .i64 oper, .string body]) (first | exact H1.out.drew | exact MS.next (by assumption) hbx) ((first | (go_at_call 23; refine (HM1.out _).mono ?_; rintro e wx ⟨rfl, hbx⟩) | (go_at_call 24; refine (HM2.out _).mono ?_; rintro e wx ⟨rfl, hbx⟩) | (go_at_call 15; refine (HF1.out _).mono ?_; rintro e wx ⟨rfl, hbx⟩) | (go_at_call 25; refine (HF2.out _).mono ?_; rintro e wx ⟨rfl, hbx⟩)))
    all_goals
      have HX := Lib.hid (show MS w #[.int .i64 mo, .int .i64 mv, .int .u64 ms] #[.int .i64 view, .int .i64 op, .int .i64 under, .int .u64 par, .int .i64 client, .int .i64 sess, .int .i64 req, .int .i64 oper, .string body] _ by assumption)
      clear l0 l1 l2 l3 l4 l5 l6 l7 l8 k0 k1 k2
      go_wp2_with fail
      go_ret
      exact ⟨ret_bool (by simp), HX.out.2.2⟩
end Go.Proofs.Ytmebodjofcomlaa

import Derived.Test.YtmebodjofcomlaaHeadB
namespace Go.Proofs.Ytmebodjofcomlaa
open Go.RowKit
set_option maxHeartbeats 1000000 in
theorem header_any (view op under par client sess req oper : Int) (body : ByteArray) (w : World) :
    Calls Try.prog 31 #[.agg #[.int .i64 view, .int .i64 op, .int .i64 under, .int .u64 par, .int .i64 client, .int .i64 sess, .int .i64 req, .int .i64 oper, .string body]] w fun e w' => e = .returned (.agg #[.int .i64 255, .int .i64 0, .int .i64 oper, .int .i64 view, .int .i64 op, .int .i64 0, .int .i64 client, .int .i64 sess, .int .i64 req, .int .i64 under, .int .i64 0, .int .u64 par]) ∧ Below w.heap.size w w' := by
  go_enter Try.func31, Try.ntmps31
  go_wp2
  exact bodyPost_ret (v := .agg #[.int .i64 255, .int .i64 0, .int .i64 oper, .int .i64 view, .int .i64 op, .int .i64 0, .int .i64 client, .int .i64 sess, .int .i64 req, .int .i64 under, .int .i64 0, .int .u64 par]) (by simp [results, Try.results31, go_sem]) rfl ⟨rfl, ((Below.refl _ _).alloc (Nat.le_refl _) _).alloc (by simp) _⟩
/-- What an entry's own fields must be, beside its header's bounds. -/
def entOwn (view op under client oper : Int) (body : ByteArray) : Prop := (1 ≤ op) ∧ (1 ≤ client) ∧ (1 ≤ oper) ∧ (under ≤ view) ∧ ((body.size : Int) ≤ 200)
def entB (view op under client sess req oper : Int) (body : ByteArray) : Bool := headB 255 0 oper view op 0 client sess req under 0 && decide ((1 ≤ op) ∧ (1 ≤ client) ∧ (1 ≤ oper) ∧ (under ≤ view) ∧ ((body.size : Int) ≤ 200))
theorem entB_head (view op under client sess req oper : Int) (body : ByteArray) (h : headB 255 0 oper view op 0 client sess req under 0 = false) : entB view op under client sess req oper body = false := by unfold entB; rw [h]; rfl
theorem entB_no (view op under client sess req oper : Int) (body : ByteArray) (h : ¬ ((1 ≤ op) ∧ (1 ≤ client) ∧ (1 ≤ oper) ∧ (under ≤ view) ∧ ((body.size : Int) ≤ 200))) : entB view op under client sess req oper body = false := by unfold entB; rw [decide_eq_false h, Bool.and_false]
theorem entB_yes (view op under client sess req oper : Int) (body : ByteArray) (h1 : headB 255 0 oper view op 0 client sess req under 0 = true) (h : (1 ≤ op) ∧ (1 ≤ client) ∧ (1 ≤ oper) ∧ (under ≤ view) ∧ ((body.size : Int) ≤ 200)) : entB view op under client sess req oper body = true := by unfold entB; rw [h1, decide_eq_true h]; rfl
set_option maxHeartbeats 2000000 in
theorem entright_any (view op under par client sess req oper : Int) (body : ByteArray) (w : World) :
    Calls Try.prog 14 #[.agg #[.int .i64 view, .int .i64 op, .int .i64 under, .int .u64 par, .int .i64 client, .int .i64 sess, .int .i64 req, .int .i64 oper, .string body]] w fun e w' => e = .returned (.bool (entB view op under client sess req oper body)) ∧ Below w.heap.size w w' := by
  have hr := fun w => right_any 255 0 oper view op 0 client sess req under 0 par w
  have HNO := Lib.hid (entB_no view op under client sess req oper body)
  have HYES := Lib.hid (entB_yes view op under client sess req oper body)
  have HH := Lib.hid (entB_head view op under client sess req oper body)
  cases hx : headB 255 0 oper view op 0 client sess req under 0
  · rw [hx] at hr
    have HR := Lib.hid hr
    have HF := Lib.hid (HH.out hx)
    clear hr hx
    go_enter Try.func14, Try.ntmps14
    go_wp2_with fail
    refine (header_any view op under par client sess req oper body _).mono ?_
    rintro e w1 ⟨rfl, hb1⟩
    go_wp2_with fail
    refine (HR.out _).mono ?_
    rintro e w2 ⟨rfl, hb2⟩
    go_wp2_with fail
    go_ret
    exact ⟨ret_bool HF.out.symm, ((Below.refl _ _).alloc (Nat.le_refl _) _).trans ((hb1.trans (hb2.mono hb1.size)).mono (by simp))⟩
  · rw [hx] at hr
    have HR := Lib.hid hr
    have HX := Lib.hid hx
    clear hr hx
    by_cases h0 : op < 1
    · have HF := Lib.hid (HNO.out (by omega))
      go_enter Try.func14, Try.ntmps14
      go_wp2_with fail
      have hcc := fun i => cell_of_row (w.alloc (.cells #[.int .i64 view, .int .i64 op, .int .i64 under, .int .u64 par, .int .i64 client, .int .i64 sess, .int .i64 req, .int .i64 oper, .string body] 26)) w.heap.size i _ _ _ (heap_alloc_new w _)
      have hb0 : Below w.heap.size w (w.alloc (.cells #[.int .i64 view, .int .i64 op, .int .i64 under, .int .u64 par, .int .i64 client, .int .i64 sess, .int .i64 req, .int .i64 oper, .string body] 26)) := (Below.refl _ _).alloc (Nat.le_refl _) _
      have hs0 : (w.alloc (.cells #[.int .i64 view, .int .i64 op, .int .i64 under, .int .u64 par, .int .i64 client, .int .i64 sess, .int .i64 req, .int .i64 oper, .string body] 26)).heap.size = w.heap.size + 1 := by simp
      refine (header_any view op under par client sess req oper body _).mono ?_
      generalize w.alloc (.cells #[.int .i64 view, .int .i64 op, .int .i64 under, .int .u64 par, .int .i64 client, .int .i64 sess, .int .i64 req, .int .i64 oper, .string body] 26) = w0 at *
      rintro e w1 ⟨rfl, hb1⟩
      rw [hs0] at hb1
      have HS0 := Lib.hid hs0
      clear hs0
      have hz1 := hb1.size
      go_wp2_with fail
      refine (HR.out _).mono ?_
      rintro e w2 ⟨rfl, hb2⟩
      have hb12 : Below (w.heap.size + 1) w0 w2 := hb1.trans (hb2.mono (by rw [HS0.out] at hz1; exact hz1))
      have c0 : w2.cell? ⟨w.heap.size, 0, none⟩ = some (.int .i64 view) := (hb12.cell (p := ⟨w.heap.size, 0, none⟩) (by simp)).trans ((hcc 0).trans rfl)
      have c1 : w2.cell? ⟨w.heap.size, 1, none⟩ = some (.int .i64 op) := (hb12.cell (p := ⟨w.heap.size, 1, none⟩) (by simp)).trans ((hcc 1).trans rfl)
      have c2 : w2.cell? ⟨w.heap.size, 2, none⟩ = some (.int .i64 under) := (hb12.cell (p := ⟨w.heap.size, 2, none⟩) (by simp)).trans ((hcc 2).trans rfl)
      have c3 : w2.cell? ⟨w.heap.size, 3, none⟩ = some (.int .u64 par) := (hb12.cell (p := ⟨w.heap.size, 3, none⟩) (by simp)).trans ((hcc 3).trans rfl)
      have c4 : w2.cell? ⟨w.heap.size, 4, none⟩ = some (.int .i64 client) := (hb12.cell (p := ⟨w.heap.size, 4, none⟩) (by simp)).trans ((hcc 4).trans rfl)
      have c5 : w2.cell? ⟨w.heap.size, 5, none⟩ = some (.int .i64 sess) := (hb12.cell (p := ⟨w.heap.size, 5, none⟩) (by simp)).trans ((hcc 5).trans rfl)
      have c6 : w2.cell? ⟨w.heap.size, 6, none⟩ = some (.int .i64 req) := (hb12.cell (p := ⟨w.heap.size, 6, none⟩) (by simp)).trans ((hcc 6).trans rfl)
      have c7 : w2.cell? ⟨w.heap.size, 7, none⟩ = some (.int .i64 oper) := (hb12.cell (p := ⟨w.heap.size, 7, none⟩) (by simp)).trans ((hcc 7).trans rfl)
      have c8 : w2.cell? ⟨w.heap.size, 8, none⟩ = some (.string body) := (hb12.cell (p := ⟨w.heap.size, 8, none⟩) (by simp)).trans ((hcc 8).trans rfl)
      have HB := Lib.hid (hb0.trans (hb12.mono (by omega)))
      clear hcc hb1 hb2 hb12 hb0
      go_wp2_with fail
      go_ret
      first | exact ⟨ret_bool HF.out.symm, HB.out⟩ | exact ⟨ret_bool (by rw [HF.out]; simp; omega), HB.out⟩
    · have h0n : 1 ≤ op := by omega
      clear h0
      by_cases h1 : client < 1
      · have HF := Lib.hid (HNO.out (by omega))
        go_enter Try.func14, Try.ntmps14
        go_wp2_with fail
        have hcc := fun i => cell_of_row (w.alloc (.cells #[.int .i64 view, .int .i64 op, .int .i64 under, .int .u64 par, .int .i64 client, .int .i64 sess, .int .i64 req, .int .i64 oper, .string body] 26)) w.heap.size i _ _ _ (heap_alloc_new w _)
        have hb0 : Below w.heap.size w (w.alloc (.cells #[.int .i64 view, .int .i64 op, .int .i64 under, .int .u64 par, .int .i64 client, .int .i64 sess, .int .i64 req, .int .i64 oper, .string body] 26)) := (Below.refl _ _).alloc (Nat.le_refl _) _
        have hs0 : (w.alloc (.cells #[.int .i64 view, .int .i64 op, .int .i64 under, .int .u64 par, .int .i64 client, .int .i64 sess, .int .i64 req, .int .i64 oper, .string body] 26)).heap.size = w.heap.size + 1 := by simp
        refine (header_any view op under par client sess req oper body _).mono ?_
        generalize w.alloc (.cells #[.int .i64 view, .int .i64 op, .int .i64 under, .int .u64 par, .int .i64 client, .int .i64 sess, .int .i64 req, .int .i64 oper, .string body] 26) = w0 at *
        rintro e w1 ⟨rfl, hb1⟩
        rw [hs0] at hb1
        have HS0 := Lib.hid hs0
        clear hs0
        have hz1 := hb1.size
        go_wp2_with fail
        refine (HR.out _).mono ?_
        rintro e w2 ⟨rfl, hb2⟩
        have hb12 : Below (w.heap.size + 1) w0 w2 := hb1.trans (hb2.mono (by rw [HS0.out] at hz1; exact hz1))
        have c0 : w2.cell? ⟨w.heap.size, 0, none⟩ = some (.int .i64 view) := (hb12.cell (p := ⟨w.heap.size, 0, none⟩) (by simp)).trans ((hcc 0).trans rfl)
        have c1 : w2.cell? ⟨w.heap.size, 1, none⟩ = some (.int .i64 op) := (hb12.cell (p := ⟨w.heap.size, 1, none⟩) (by simp)).trans ((hcc 1).trans rfl)
        have c2 : w2.cell? ⟨w.heap.size, 2, none⟩ = some (.int .i64 under) := (hb12.cell (p := ⟨w.heap.size, 2, none⟩) (by simp)).trans ((hcc 2).trans rfl)
        have c3 : w2.cell? ⟨w.heap.size, 3, none⟩ = some (.int .u64 par) := (hb12.cell (p := ⟨w.heap.size, 3, none⟩) (by simp)).trans ((hcc 3).trans rfl)
        have c4 : w2.cell? ⟨w.heap.size, 4, none⟩ = some (.int .i64 client) := (hb12.cell (p := ⟨w.heap.size, 4, none⟩) (by simp)).trans ((hcc 4).trans rfl)
        have c5 : w2.cell? ⟨w.heap.size, 5, none⟩ = some (.int .i64 sess) := (hb12.cell (p := ⟨w.heap.size, 5, none⟩) (by simp)).trans ((hcc 5).trans rfl)
        have c6 : w2.cell? ⟨w.heap.size, 6, none⟩ = some (.int .i64 req) := (hb12.cell (p := ⟨w.heap.size, 6, none⟩) (by simp)).trans ((hcc 6).trans rfl)
        have c7 : w2.cell? ⟨w.heap.size, 7, none⟩ = some (.int .i64 oper) := (hb12.cell (p := ⟨w.heap.size, 7, none⟩) (by simp)).trans ((hcc 7).trans rfl)
        have c8 : w2.cell? ⟨w.heap.size, 8, none⟩ = some (.string body) := (hb12.cell (p := ⟨w.heap.size, 8, none⟩) (by simp)).trans ((hcc 8).trans rfl)
        have HB := Lib.hid (hb0.trans (hb12.mono (by omega)))
        clear hcc hb1 hb2 hb12 hb0
        go_wp2_with fail
        go_ret
        first | exact ⟨ret_bool HF.out.symm, HB.out⟩ | exact ⟨ret_bool (by rw [HF.out]; simp; omega), HB.out⟩
      · have h1n : 1 ≤ client := by omega
        clear h1
        by_cases h2 : oper < 1
        · have HF := Lib.hid (HNO.out (by omega))
          go_enter Try.func14, Try.ntmps14
          go_wp2_with fail
          have hcc := fun i => cell_of_row (w.alloc (.cells #[.int .i64 view, .int .i64 op, .int .i64 under, .int .u64 par, .int .i64 client, .int .i64 sess, .int .i64 req, .int .i64 oper, .string body] 26)) w.heap.size i _ _ _ (heap_alloc_new w _)
          have hb0 : Below w.heap.size w (w.alloc (.cells #[.int .i64 view, .int .i64 op, .int .i64 under, .int .u64 par, .int .i64 client, .int .i64 sess, .int .i64 req, .int .i64 oper, .string body] 26)) := (Below.refl _ _).alloc (Nat.le_refl _) _
          have hs0 : (w.alloc (.cells #[.int .i64 view, .int .i64 op, .int .i64 under, .int .u64 par, .int .i64 client, .int .i64 sess, .int .i64 req, .int .i64 oper, .string body] 26)).heap.size = w.heap.size + 1 := by simp
          refine (header_any view op under par client sess req oper body _).mono ?_
          generalize w.alloc (.cells #[.int .i64 view, .int .i64 op, .int .i64 under, .int .u64 par, .int .i64 client, .int .i64 sess, .int .i64 req, .int .i64 oper, .string body] 26) = w0 at *
          rintro e w1 ⟨rfl, hb1⟩
          rw [hs0] at hb1
          have HS0 := Lib.hid hs0
          clear hs0
          have hz1 := hb1.size
          go_wp2_with fail
          refine (HR.out _).mono ?_
          rintro e w2 ⟨rfl, hb2⟩
          have hb12 : Below (w.heap.size + 1) w0 w2 := hb1.trans (hb2.mono (by rw [HS0.out] at hz1; exact hz1))
          have c0 : w2.cell? ⟨w.heap.size, 0, none⟩ = some (.int .i64 view) := (hb12.cell (p := ⟨w.heap.size, 0, none⟩) (by simp)).trans ((hcc 0).trans rfl)
          have c1 : w2.cell? ⟨w.heap.size, 1, none⟩ = some (.int .i64 op) := (hb12.cell (p := ⟨w.heap.size, 1, none⟩) (by simp)).trans ((hcc 1).trans rfl)
          have c2 : w2.cell? ⟨w.heap.size, 2, none⟩ = some (.int .i64 under) := (hb12.cell (p := ⟨w.heap.size, 2, none⟩) (by simp)).trans ((hcc 2).trans rfl)
          have c3 : w2.cell? ⟨w.heap.size, 3, none⟩ = some (.int .u64 par) := (hb12.cell (p := ⟨w.heap.size, 3, none⟩) (by simp)).trans ((hcc 3).trans rfl)
          have c4 : w2.cell? ⟨w.heap.size, 4, none⟩ = some (.int .i64 client) := (hb12.cell (p := ⟨w.heap.size, 4, none⟩) (by simp)).trans ((hcc 4).trans rfl)
          have c5 : w2.cell? ⟨w.heap.size, 5, none⟩ = some (.int .i64 sess) := (hb12.cell (p := ⟨w.heap.size, 5, none⟩) (by simp)).trans ((hcc 5).trans rfl)
          have c6 : w2.cell? ⟨w.heap.size, 6, none⟩ = some (.int .i64 req) := (hb12.cell (p := ⟨w.heap.size, 6, none⟩) (by simp)).trans ((hcc 6).trans rfl)
          have c7 : w2.cell? ⟨w.heap.size, 7, none⟩ = some (.int .i64 oper) := (hb12.cell (p := ⟨w.heap.size, 7, none⟩) (by simp)).trans ((hcc 7).trans rfl)
          have c8 : w2.cell? ⟨w.heap.size, 8, none⟩ = some (.string body) := (hb12.cell (p := ⟨w.heap.size, 8, none⟩) (by simp)).trans ((hcc 8).trans rfl)
          have HB := Lib.hid (hb0.trans (hb12.mono (by omega)))
          clear hcc hb1 hb2 hb12 hb0
          go_wp2_with fail
          go_ret
          first | exact ⟨ret_bool HF.out.symm, HB.out⟩ | exact ⟨ret_bool (by rw [HF.out]; simp; omega), HB.out⟩
        · have h2n : 1 ≤ oper := by omega
          clear h2
          by_cases h3 : view < under
          · have HF := Lib.hid (HNO.out (by omega))
            go_enter Try.func14, Try.ntmps14
            go_wp2_with fail
            have hcc := fun i => cell_of_row (w.alloc (.cells #[.int .i64 view, .int .i64 op, .int .i64 under, .int .u64 par, .int .i64 client, .int .i64 sess, .int .i64 req, .int .i64 oper, .string body] 26)) w.heap.size i _ _ _ (heap_alloc_new w _)
            have hb0 : Below w.heap.size w (w.alloc (.cells #[.int .i64 view, .int .i64 op, .int .i64 under, .int .u64 par, .int .i64 client, .int .i64 sess, .int .i64 req, .int .i64 oper, .string body] 26)) := (Below.refl _ _).alloc (Nat.le_refl _) _
            have hs0 : (w.alloc (.cells #[.int .i64 view, .int .i64 op, .int .i64 under, .int .u64 par, .int .i64 client, .int .i64 sess, .int .i64 req, .int .i64 oper, .string body] 26)).heap.size = w.heap.size + 1 := by simp
            refine (header_any view op under par client sess req oper body _).mono ?_
            generalize w.alloc (.cells #[.int .i64 view, .int .i64 op, .int .i64 under, .int .u64 par, .int .i64 client, .int .i64 sess, .int .i64 req, .int .i64 oper, .string body] 26) = w0 at *
            rintro e w1 ⟨rfl, hb1⟩
            rw [hs0] at hb1
            have HS0 := Lib.hid hs0
            clear hs0
            have hz1 := hb1.size
            go_wp2_with fail
            refine (HR.out _).mono ?_
            rintro e w2 ⟨rfl, hb2⟩
            have hb12 : Below (w.heap.size + 1) w0 w2 := hb1.trans (hb2.mono (by rw [HS0.out] at hz1; exact hz1))
            have c0 : w2.cell? ⟨w.heap.size, 0, none⟩ = some (.int .i64 view) := (hb12.cell (p := ⟨w.heap.size, 0, none⟩) (by simp)).trans ((hcc 0).trans rfl)
            have c1 : w2.cell? ⟨w.heap.size, 1, none⟩ = some (.int .i64 op) := (hb12.cell (p := ⟨w.heap.size, 1, none⟩) (by simp)).trans ((hcc 1).trans rfl)
            have c2 : w2.cell? ⟨w.heap.size, 2, none⟩ = some (.int .i64 under) := (hb12.cell (p := ⟨w.heap.size, 2, none⟩) (by simp)).trans ((hcc 2).trans rfl)
            have c3 : w2.cell? ⟨w.heap.size, 3, none⟩ = some (.int .u64 par) := (hb12.cell (p := ⟨w.heap.size, 3, none⟩) (by simp)).trans ((hcc 3).trans rfl)
            have c4 : w2.cell? ⟨w.heap.size, 4, none⟩ = some (.int .i64 client) := (hb12.cell (p := ⟨w.heap.size, 4, none⟩) (by simp)).trans ((hcc 4).trans rfl)
            have c5 : w2.cell? ⟨w.heap.size, 5, none⟩ = some (.int .i64 sess) := (hb12.cell (p := ⟨w.heap.size, 5, none⟩) (by simp)).trans ((hcc 5).trans rfl)
            have c6 : w2.cell? ⟨w.heap.size, 6, none⟩ = some (.int .i64 req) := (hb12.cell (p := ⟨w.heap.size, 6, none⟩) (by simp)).trans ((hcc 6).trans rfl)
            have c7 : w2.cell? ⟨w.heap.size, 7, none⟩ = some (.int .i64 oper) := (hb12.cell (p := ⟨w.heap.size, 7, none⟩) (by simp)).trans ((hcc 7).trans rfl)
            have c8 : w2.cell? ⟨w.heap.size, 8, none⟩ = some (.string body) := (hb12.cell (p := ⟨w.heap.size, 8, none⟩) (by simp)).trans ((hcc 8).trans rfl)
            have HB := Lib.hid (hb0.trans (hb12.mono (by omega)))
            clear hcc hb1 hb2 hb12 hb0
            go_wp2_with fail
            go_ret
            first | exact ⟨ret_bool HF.out.symm, HB.out⟩ | exact ⟨ret_bool (by rw [HF.out]; simp; omega), HB.out⟩
          · have h3n : under ≤ view := by omega
            clear h3
            by_cases h4 : (200 : Int) < body.size
            · have HF := Lib.hid (HNO.out (by omega))
              go_enter Try.func14, Try.ntmps14
              go_wp2_with fail
              have hcc := fun i => cell_of_row (w.alloc (.cells #[.int .i64 view, .int .i64 op, .int .i64 under, .int .u64 par, .int .i64 client, .int .i64 sess, .int .i64 req, .int .i64 oper, .string body] 26)) w.heap.size i _ _ _ (heap_alloc_new w _)
              have hb0 : Below w.heap.size w (w.alloc (.cells #[.int .i64 view, .int .i64 op, .int .i64 under, .int .u64 par, .int .i64 client, .int .i64 sess, .int .i64 req, .int .i64 oper, .string body] 26)) := (Below.refl _ _).alloc (Nat.le_refl _) _
              have hs0 : (w.alloc (.cells #[.int .i64 view, .int .i64 op, .int .i64 under, .int .u64 par, .int .i64 client, .int .i64 sess, .int .i64 req, .int .i64 oper, .string body] 26)).heap.size = w.heap.size + 1 := by simp
              refine (header_any view op under par client sess req oper body _).mono ?_
              generalize w.alloc (.cells #[.int .i64 view, .int .i64 op, .int .i64 under, .int .u64 par, .int .i64 client, .int .i64 sess, .int .i64 req, .int .i64 oper, .string body] 26) = w0 at *
              rintro e w1 ⟨rfl, hb1⟩
              rw [hs0] at hb1
              have HS0 := Lib.hid hs0
              clear hs0
              have hz1 := hb1.size
              go_wp2_with fail
              refine (HR.out _).mono ?_
              rintro e w2 ⟨rfl, hb2⟩
              have hb12 : Below (w.heap.size + 1) w0 w2 := hb1.trans (hb2.mono (by rw [HS0.out] at hz1; exact hz1))
              have c0 : w2.cell? ⟨w.heap.size, 0, none⟩ = some (.int .i64 view) := (hb12.cell (p := ⟨w.heap.size, 0, none⟩) (by simp)).trans ((hcc 0).trans rfl)
              have c1 : w2.cell? ⟨w.heap.size, 1, none⟩ = some (.int .i64 op) := (hb12.cell (p := ⟨w.heap.size, 1, none⟩) (by simp)).trans ((hcc 1).trans rfl)
              have c2 : w2.cell? ⟨w.heap.size, 2, none⟩ = some (.int .i64 under) := (hb12.cell (p := ⟨w.heap.size, 2, none⟩) (by simp)).trans ((hcc 2).trans rfl)
              have c3 : w2.cell? ⟨w.heap.size, 3, none⟩ = some (.int .u64 par) := (hb12.cell (p := ⟨w.heap.size, 3, none⟩) (by simp)).trans ((hcc 3).trans rfl)
              have c4 : w2.cell? ⟨w.heap.size, 4, none⟩ = some (.int .i64 client) := (hb12.cell (p := ⟨w.heap.size, 4, none⟩) (by simp)).trans ((hcc 4).trans rfl)
              have c5 : w2.cell? ⟨w.heap.size, 5, none⟩ = some (.int .i64 sess) := (hb12.cell (p := ⟨w.heap.size, 5, none⟩) (by simp)).trans ((hcc 5).trans rfl)
              have c6 : w2.cell? ⟨w.heap.size, 6, none⟩ = some (.int .i64 req) := (hb12.cell (p := ⟨w.heap.size, 6, none⟩) (by simp)).trans ((hcc 6).trans rfl)
              have c7 : w2.cell? ⟨w.heap.size, 7, none⟩ = some (.int .i64 oper) := (hb12.cell (p := ⟨w.heap.size, 7, none⟩) (by simp)).trans ((hcc 7).trans rfl)
              have c8 : w2.cell? ⟨w.heap.size, 8, none⟩ = some (.string body) := (hb12.cell (p := ⟨w.heap.size, 8, none⟩) (by simp)).trans ((hcc 8).trans rfl)
              have HB := Lib.hid (hb0.trans (hb12.mono (by omega)))
              clear hcc hb1 hb2 hb12 hb0
              go_wp2_with fail
              go_ret
              first | exact ⟨ret_bool HF.out.symm, HB.out⟩ | exact ⟨ret_bool (by rw [HF.out]; simp; omega), HB.out⟩
            · have h4n : (body.size : Int) ≤ 200 := by omega
              clear h4
              have HF := Lib.hid (HYES.out HX.out (by omega))
              go_enter Try.func14, Try.ntmps14
              go_wp2_with fail
              have hcc := fun i => cell_of_row (w.alloc (.cells #[.int .i64 view, .int .i64 op, .int .i64 under, .int .u64 par, .int .i64 client, .int .i64 sess, .int .i64 req, .int .i64 oper, .string body] 26)) w.heap.size i _ _ _ (heap_alloc_new w _)
              have hb0 : Below w.heap.size w (w.alloc (.cells #[.int .i64 view, .int .i64 op, .int .i64 under, .int .u64 par, .int .i64 client, .int .i64 sess, .int .i64 req, .int .i64 oper, .string body] 26)) := (Below.refl _ _).alloc (Nat.le_refl _) _
              have hs0 : (w.alloc (.cells #[.int .i64 view, .int .i64 op, .int .i64 under, .int .u64 par, .int .i64 client, .int .i64 sess, .int .i64 req, .int .i64 oper, .string body] 26)).heap.size = w.heap.size + 1 := by simp
              refine (header_any view op under par client sess req oper body _).mono ?_
              generalize w.alloc (.cells #[.int .i64 view, .int .i64 op, .int .i64 under, .int .u64 par, .int .i64 client, .int .i64 sess, .int .i64 req, .int .i64 oper, .string body] 26) = w0 at *
              rintro e w1 ⟨rfl, hb1⟩
              rw [hs0] at hb1
              have HS0 := Lib.hid hs0
              clear hs0
              have hz1 := hb1.size
              go_wp2_with fail
              refine (HR.out _).mono ?_
              rintro e w2 ⟨rfl, hb2⟩
              have hb12 : Below (w.heap.size + 1) w0 w2 := hb1.trans (hb2.mono (by rw [HS0.out] at hz1; exact hz1))
              have c0 : w2.cell? ⟨w.heap.size, 0, none⟩ = some (.int .i64 view) := (hb12.cell (p := ⟨w.heap.size, 0, none⟩) (by simp)).trans ((hcc 0).trans rfl)
              have c1 : w2.cell? ⟨w.heap.size, 1, none⟩ = some (.int .i64 op) := (hb12.cell (p := ⟨w.heap.size, 1, none⟩) (by simp)).trans ((hcc 1).trans rfl)
              have c2 : w2.cell? ⟨w.heap.size, 2, none⟩ = some (.int .i64 under) := (hb12.cell (p := ⟨w.heap.size, 2, none⟩) (by simp)).trans ((hcc 2).trans rfl)
              have c3 : w2.cell? ⟨w.heap.size, 3, none⟩ = some (.int .u64 par) := (hb12.cell (p := ⟨w.heap.size, 3, none⟩) (by simp)).trans ((hcc 3).trans rfl)
              have c4 : w2.cell? ⟨w.heap.size, 4, none⟩ = some (.int .i64 client) := (hb12.cell (p := ⟨w.heap.size, 4, none⟩) (by simp)).trans ((hcc 4).trans rfl)
              have c5 : w2.cell? ⟨w.heap.size, 5, none⟩ = some (.int .i64 sess) := (hb12.cell (p := ⟨w.heap.size, 5, none⟩) (by simp)).trans ((hcc 5).trans rfl)
              have c6 : w2.cell? ⟨w.heap.size, 6, none⟩ = some (.int .i64 req) := (hb12.cell (p := ⟨w.heap.size, 6, none⟩) (by simp)).trans ((hcc 6).trans rfl)
              have c7 : w2.cell? ⟨w.heap.size, 7, none⟩ = some (.int .i64 oper) := (hb12.cell (p := ⟨w.heap.size, 7, none⟩) (by simp)).trans ((hcc 7).trans rfl)
              have c8 : w2.cell? ⟨w.heap.size, 8, none⟩ = some (.string body) := (hb12.cell (p := ⟨w.heap.size, 8, none⟩) (by simp)).trans ((hcc 8).trans rfl)
              have HB := Lib.hid (hb0.trans (hb12.mono (by omega)))
              clear hcc hb1 hb2 hb12 hb0
              go_wp2_with fail
              go_ret
              first | exact ⟨ret_bool HF.out.symm, HB.out⟩ | exact ⟨ret_bool (by rw [HF.out]; simp; omega), HB.out⟩

end Go.Proofs.Ytmebodjofcomlaa

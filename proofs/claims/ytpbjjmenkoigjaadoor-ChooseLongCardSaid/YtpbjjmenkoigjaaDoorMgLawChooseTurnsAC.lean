/-  -/
import Derived.Test.YtpbjjmenkoigjaaDoorMgLawChooseTurnsAB
namespace Go.Proofs.YtpbjjmenkoigjaaDoor
open Go.RowKit
def nextOp (mo op : Int) : Int := if 0 ≤ mo ∧ mo < 72057594037927935 then mo + 1 else op
theorem nextOp_in (mo op : Int) (h : 0 ≤ mo ∧ mo < 72057594037927935) : nextOp mo op = mo + 1 := if_pos h
theorem nextOp_out (mo op : Int) (h : ¬ (0 ≤ mo ∧ mo < 72057594037927935)) : nextOp mo op = op := if_neg h
set_option maxRecDepth 100000 in
set_option maxHeartbeats 2000000 in
theorem next_any (mo mv ms : Int) (view op under par client sess req oper : Int) (body : ByteArray) (w : World) :
    Calls Tryd.prog 19 #[.agg #[.int .i64 mo, .int .i64 mv, .int .u64 ms], .agg #[.int .i64 view, .int .i64 op, .int .i64 under, .int .u64 par, .int .i64 client, .int .i64 sess, .int .i64 req, .int .i64 oper, .string body]] w fun e w' =>
      e = .returned (.agg #[.int .i64 view, .int .i64 (nextOp mo op), .int .i64 mv, .int .u64 ms, .int .i64 client, .int .i64 sess, .int .i64 req, .int .i64 oper, .string body]) ∧ Below w.heap.size w w' := by
  by_cases h0 : 0 ≤ mo
  · by_cases h1 : mo < 72057594037927935
    · have HN := Lib.hid (nextOp_in mo op ⟨h0, h1⟩)
      go_enter Tryd.func19, Tryd.ntmps19
      go_wp2
      rw [HN.out]
      exact bodyPost_ret (v := .agg #[.int .i64 view, .int .i64 (mo + 1), .int .i64 mv, .int .u64 ms, .int .i64 client, .int .i64 sess, .int .i64 req, .int .i64 oper, .string body]) (by simp [results, Tryd.results19, go_sem]) rfl ⟨rfl, (((Below.refl _ _).alloc (Nat.le_refl _) _).alloc (by simp) _).alloc (by simp; omega) _⟩
    · have HN := Lib.hid (nextOp_out mo op (fun h => h1 h.2))
      go_enter Tryd.func19, Tryd.ntmps19
      go_wp2
      rw [HN.out]
      exact bodyPost_ret (v := .agg #[.int .i64 view, .int .i64 op, .int .i64 mv, .int .u64 ms, .int .i64 client, .int .i64 sess, .int .i64 req, .int .i64 oper, .string body]) (by simp [results, Tryd.results19, go_sem]) rfl ⟨rfl, (((Below.refl _ _).alloc (Nat.le_refl _) _).alloc (by simp) _).alloc (by simp; omega) _⟩
  · have HN := Lib.hid (nextOp_out mo op (fun h => h0 h.1))
    go_enter Tryd.func19, Tryd.ntmps19
    go_wp2
    rw [HN.out]
    exact bodyPost_ret (v := .agg #[.int .i64 view, .int .i64 op, .int .i64 mv, .int .u64 ms, .int .i64 client, .int .i64 sess, .int .i64 req, .int .i64 oper, .string body]) (by simp [results, Tryd.results19, go_sem]) rfl ⟨rfl, (((Below.refl _ _).alloc (Nat.le_refl _) _).alloc (by simp) _).alloc (by simp; omega) _⟩
def folB (mo mv ms : Int) (view op under par client sess req oper : Int) (body : ByteArray) : Bool := entB view op under client sess req oper body && decide (op - 1 = mo ∧ under = mv ∧ par = ms)
theorem folB_ent (mo mv ms view op under par client sess req oper : Int) (body : ByteArray) (h : entB view op under client sess req oper body = false) : folB mo mv ms view op under par client sess req oper body = false := by unfold folB; rw [h]; rfl
theorem folB_no (mo mv ms view op under par client sess req oper : Int) (body : ByteArray) (h : ¬ (op - 1 = mo ∧ under = mv ∧ par = ms)) : folB mo mv ms view op under par client sess req oper body = false := by unfold folB; rw [decide_eq_false h, Bool.and_false]
theorem folB_yes (mo mv ms view op under par client sess req oper : Int) (body : ByteArray) (he : entB view op under client sess req oper body = true) (h : op - 1 = mo ∧ under = mv ∧ par = ms) : folB mo mv ms view op under par client sess req oper body = true := by unfold folB; rw [he, decide_eq_true h]; rfl
theorem entB_op (view op under client sess req oper : Int) (body : ByteArray) (h : entB view op under client sess req oper body = true) : 1 ≤ op := by
  unfold entB at h
  rw [Bool.and_eq_true] at h
  exact (of_decide_eq_true h.2).1
set_option maxRecDepth 100000 in
set_option maxHeartbeats 2000000 in
theorem follows_any (mo mv ms view op under par client sess req oper : Int) (body : ByteArray) (hop : -9223372036854775808 ≤ op ∧ op ≤ 9223372036854775807) (w : World) :
    Calls Tryd.prog 12 #[.agg #[.int .i64 mo, .int .i64 mv, .int .u64 ms], .agg #[.int .i64 view, .int .i64 op, .int .i64 under, .int .u64 par, .int .i64 client, .int .i64 sess, .int .i64 req, .int .i64 oper, .string body]] w fun e w' => e = .returned (.bool (folB mo mv ms view op under par client sess req oper body)) ∧ Below w.heap.size w w' := by
  have hr := fun w => entright_any view op under par client sess req oper body w
  have HNO := Lib.hid (folB_no mo mv ms view op under par client sess req oper body)
  have HYES := Lib.hid (folB_yes mo mv ms view op under par client sess req oper body)
  have HH := Lib.hid (folB_ent mo mv ms view op under par client sess req oper body)
  have HOP := Lib.hid (entB_op view op under client sess req oper body)
  have mark : ∀ (w : World), ∀ i v, #[.int .i64 mo, .int .i64 mv, .int .u64 ms][i]? = some v → ((w.alloc (.cells #[.int .i64 mo, .int .i64 mv, .int .u64 ms] 27)).alloc (.cells #[.int .i64 view, .int .i64 op, .int .i64 under, .int .u64 par, .int .i64 client, .int .i64 sess, .int .i64 req, .int .i64 oper, .string body] 35)).cell? ⟨w.heap.size, i, none⟩ = some v := by
    intro w i v hv
    rw [World.cell?_alloc_lt _ _ _ (by simp), cell_of_row _ _ _ _ _ _ (heap_alloc_new w _)]
    exact hv
  have ent : ∀ (w : World), ∀ i v, #[.int .i64 view, .int .i64 op, .int .i64 under, .int .u64 par, .int .i64 client, .int .i64 sess, .int .i64 req, .int .i64 oper, .string body][i]? = some v → ((w.alloc (.cells #[.int .i64 mo, .int .i64 mv, .int .u64 ms] 27)).alloc (.cells #[.int .i64 view, .int .i64 op, .int .i64 under, .int .u64 par, .int .i64 client, .int .i64 sess, .int .i64 req, .int .i64 oper, .string body] 35)).cell? ⟨w.heap.size + 1, i, none⟩ = some v := by
    intro w i v hv
    have h := cell_of_row ((w.alloc (.cells #[.int .i64 mo, .int .i64 mv, .int .u64 ms] 27)).alloc (.cells #[.int .i64 view, .int .i64 op, .int .i64 under, .int .u64 par, .int .i64 client, .int .i64 sess, .int .i64 req, .int .i64 oper, .string body] 35)) (w.alloc (.cells #[.int .i64 mo, .int .i64 mv, .int .u64 ms] 27)).heap.size i _ _ _ (heap_alloc_new (w.alloc (.cells #[.int .i64 mo, .int .i64 mv, .int .u64 ms] 27)) _)
    rw [World.size_alloc] at h
    rw [h]
    exact hv
  have hbw : Below w.heap.size w ((w.alloc (.cells #[.int .i64 mo, .int .i64 mv, .int .u64 ms] 27)).alloc (.cells #[.int .i64 view, .int .i64 op, .int .i64 under, .int .u64 par, .int .i64 client, .int .i64 sess, .int .i64 req, .int .i64 oper, .string body] 35)) := ((Below.refl _ _).alloc (Nat.le_refl _) _).alloc (by simp) _
  have hsz : ((w.alloc (.cells #[.int .i64 mo, .int .i64 mv, .int .u64 ms] 27)).alloc (.cells #[.int .i64 view, .int .i64 op, .int .i64 under, .int .u64 par, .int .i64 client, .int .i64 sess, .int .i64 req, .int .i64 oper, .string body] 35)).heap.size = w.heap.size + 1 + 1 := by simp
  have MARK := Lib.hid mark
  have ENT := Lib.hid ent
  have HBW := Lib.hid hbw
  have HSZ := Lib.hid hsz
  clear mark ent hbw hsz
  cases hx : entB view op under client sess req oper body
  · rw [hx] at hr
    have HR := Lib.hid hr
    have HF := Lib.hid (HH.out hx)
    clear hr hx
    go_enter Tryd.func12, Tryd.ntmps12
    go_wp2_with fail
    refine (HR.out _).mono ?_
    rintro e w2 ⟨rfl, hb2⟩
    go_wp2_with fail
    go_ret
    exact ⟨ret_bool HF.out.symm, HBW.out.trans (hb2.mono HBW.out.size)⟩
  · rw [hx] at hr
    have HR := Lib.hid hr
    have hop1 := HOP.out hx
    have HX := Lib.hid hx
    clear hr hx
    by_cases h0 : op - 1 = mo
    rotate_left
    · have b0 : (op - 1 == mo) = false := by rw [beq_eq_false_iff_ne]; exact h0
      have HNE := Lib.hid (HNO.out (fun h => h0 h.1))
      clear h0
      have HF := Lib.hid (HNE.out)
      go_enter Tryd.func12, Tryd.ntmps12
      go_wp2_with fail
      refine (HR.out _).mono ?_
      rintro e w2 ⟨rfl, hb2⟩
      rw [HSZ.out] at hb2
      have HB := Lib.hid (HBW.out.trans (hb2.mono (by omega)))
      have m0 : w2.cell? ⟨w.heap.size, 0, none⟩ = some (.int .i64 mo) := (hb2.cell (p := ⟨w.heap.size, 0, none⟩) (by simp; omega)).trans (MARK.out w 0 _ rfl)
      have m1 : w2.cell? ⟨w.heap.size, 1, none⟩ = some (.int .i64 mv) := (hb2.cell (p := ⟨w.heap.size, 1, none⟩) (by simp; omega)).trans (MARK.out w 1 _ rfl)
      have m2 : w2.cell? ⟨w.heap.size, 2, none⟩ = some (.int .u64 ms) := (hb2.cell (p := ⟨w.heap.size, 2, none⟩) (by simp; omega)).trans (MARK.out w 2 _ rfl)
      have c1 : w2.cell? ⟨w.heap.size + 1, 1, none⟩ = some (.int .i64 op) := (hb2.cell (p := ⟨w.heap.size + 1, 1, none⟩) (by simp)).trans (ENT.out w 1 _ rfl)
      have c2 : w2.cell? ⟨w.heap.size + 1, 2, none⟩ = some (.int .i64 under) := (hb2.cell (p := ⟨w.heap.size + 1, 2, none⟩) (by simp)).trans (ENT.out w 2 _ rfl)
      have c3 : w2.cell? ⟨w.heap.size + 1, 3, none⟩ = some (.int .u64 par) := (hb2.cell (p := ⟨w.heap.size + 1, 3, none⟩) (by simp)).trans (ENT.out w 3 _ rfl)
      clear hb2
      go_wp2_with fail
      go_ret
      first | exact ⟨ret_bool HF.out.symm, HB.out⟩ | exact ⟨ret_bool (by rw [HF.out]; simp; omega), HB.out⟩
    have b0 : (op - 1 == mo) = true := by rw [beq_iff_eq]; exact h0
    have E0 := Lib.hid h0
    clear h0
    by_cases h1 : under = mv
    rotate_left
    · have b1 : (under == mv) = false := by rw [beq_eq_false_iff_ne]; exact h1
      have HNE := Lib.hid (HNO.out (fun h => h1 h.2.1))
      clear h1
      have HF := Lib.hid (HNE.out)
      go_enter Tryd.func12, Tryd.ntmps12
      go_wp2_with fail
      refine (HR.out _).mono ?_
      rintro e w2 ⟨rfl, hb2⟩
      rw [HSZ.out] at hb2
      have HB := Lib.hid (HBW.out.trans (hb2.mono (by omega)))
      have m0 : w2.cell? ⟨w.heap.size, 0, none⟩ = some (.int .i64 mo) := (hb2.cell (p := ⟨w.heap.size, 0, none⟩) (by simp; omega)).trans (MARK.out w 0 _ rfl)
      have m1 : w2.cell? ⟨w.heap.size, 1, none⟩ = some (.int .i64 mv) := (hb2.cell (p := ⟨w.heap.size, 1, none⟩) (by simp; omega)).trans (MARK.out w 1 _ rfl)
      have m2 : w2.cell? ⟨w.heap.size, 2, none⟩ = some (.int .u64 ms) := (hb2.cell (p := ⟨w.heap.size, 2, none⟩) (by simp; omega)).trans (MARK.out w 2 _ rfl)
      have c1 : w2.cell? ⟨w.heap.size + 1, 1, none⟩ = some (.int .i64 op) := (hb2.cell (p := ⟨w.heap.size + 1, 1, none⟩) (by simp)).trans (ENT.out w 1 _ rfl)
      have c2 : w2.cell? ⟨w.heap.size + 1, 2, none⟩ = some (.int .i64 under) := (hb2.cell (p := ⟨w.heap.size + 1, 2, none⟩) (by simp)).trans (ENT.out w 2 _ rfl)
      have c3 : w2.cell? ⟨w.heap.size + 1, 3, none⟩ = some (.int .u64 par) := (hb2.cell (p := ⟨w.heap.size + 1, 3, none⟩) (by simp)).trans (ENT.out w 3 _ rfl)
      clear hb2
      go_wp2_with fail
      go_ret
      first | exact ⟨ret_bool HF.out.symm, HB.out⟩ | exact ⟨ret_bool (by rw [HF.out]; simp; omega), HB.out⟩
    have b1 : (under == mv) = true := by rw [beq_iff_eq]; exact h1
    have E1 := Lib.hid h1
    clear h1
    by_cases h2 : par = ms
    rotate_left
    · have b2 : (par == ms) = false := by rw [beq_eq_false_iff_ne]; exact h2
      have HNE := Lib.hid (HNO.out (fun h => h2 h.2.2))
      clear h2
      have HF := Lib.hid (HNE.out)
      go_enter Tryd.func12, Tryd.ntmps12
      go_wp2_with fail
      refine (HR.out _).mono ?_
      rintro e w2 ⟨rfl, hb2⟩
      rw [HSZ.out] at hb2
      have HB := Lib.hid (HBW.out.trans (hb2.mono (by omega)))
      have m0 : w2.cell? ⟨w.heap.size, 0, none⟩ = some (.int .i64 mo) := (hb2.cell (p := ⟨w.heap.size, 0, none⟩) (by simp; omega)).trans (MARK.out w 0 _ rfl)
      have m1 : w2.cell? ⟨w.heap.size, 1, none⟩ = some (.int .i64 mv) := (hb2.cell (p := ⟨w.heap.size, 1, none⟩) (by simp; omega)).trans (MARK.out w 1 _ rfl)
      have m2 : w2.cell? ⟨w.heap.size, 2, none⟩ = some (.int .u64 ms) := (hb2.cell (p := ⟨w.heap.size, 2, none⟩) (by simp; omega)).trans (MARK.out w 2 _ rfl)
      have c1 : w2.cell? ⟨w.heap.size + 1, 1, none⟩ = some (.int .i64 op) := (hb2.cell (p := ⟨w.heap.size + 1, 1, none⟩) (by simp)).trans (ENT.out w 1 _ rfl)
      have c2 : w2.cell? ⟨w.heap.size + 1, 2, none⟩ = some (.int .i64 under) := (hb2.cell (p := ⟨w.heap.size + 1, 2, none⟩) (by simp)).trans (ENT.out w 2 _ rfl)
      have c3 : w2.cell? ⟨w.heap.size + 1, 3, none⟩ = some (.int .u64 par) := (hb2.cell (p := ⟨w.heap.size + 1, 3, none⟩) (by simp)).trans (ENT.out w 3 _ rfl)
      clear hb2
      go_wp2_with fail
      go_ret
      first | exact ⟨ret_bool HF.out.symm, HB.out⟩ | exact ⟨ret_bool (by rw [HF.out]; simp; omega), HB.out⟩
    have b2 : (par == ms) = true := by rw [beq_iff_eq]; exact h2
    have E2 := Lib.hid h2
    clear h2
    have HF := Lib.hid (HYES.out HX.out ⟨E0.out, E1.out, E2.out⟩)
    go_enter Tryd.func12, Tryd.ntmps12
    go_wp2_with fail
    refine (HR.out _).mono ?_
    rintro e w2 ⟨rfl, hb2⟩
    rw [HSZ.out] at hb2
    have HB := Lib.hid (HBW.out.trans (hb2.mono (by omega)))
    have m0 : w2.cell? ⟨w.heap.size, 0, none⟩ = some (.int .i64 mo) := (hb2.cell (p := ⟨w.heap.size, 0, none⟩) (by simp; omega)).trans (MARK.out w 0 _ rfl)
    have m1 : w2.cell? ⟨w.heap.size, 1, none⟩ = some (.int .i64 mv) := (hb2.cell (p := ⟨w.heap.size, 1, none⟩) (by simp; omega)).trans (MARK.out w 1 _ rfl)
    have m2 : w2.cell? ⟨w.heap.size, 2, none⟩ = some (.int .u64 ms) := (hb2.cell (p := ⟨w.heap.size, 2, none⟩) (by simp; omega)).trans (MARK.out w 2 _ rfl)
    have c1 : w2.cell? ⟨w.heap.size + 1, 1, none⟩ = some (.int .i64 op) := (hb2.cell (p := ⟨w.heap.size + 1, 1, none⟩) (by simp)).trans (ENT.out w 1 _ rfl)
    have c2 : w2.cell? ⟨w.heap.size + 1, 2, none⟩ = some (.int .i64 under) := (hb2.cell (p := ⟨w.heap.size + 1, 2, none⟩) (by simp)).trans (ENT.out w 2 _ rfl)
    have c3 : w2.cell? ⟨w.heap.size + 1, 3, none⟩ = some (.int .u64 par) := (hb2.cell (p := ⟨w.heap.size + 1, 3, none⟩) (by simp)).trans (ENT.out w 3 _ rfl)
    clear hb2
    go_wp2_with fail
    go_ret
    first | exact ⟨ret_bool HF.out.symm, HB.out⟩ | exact ⟨ret_bool (by rw [HF.out]; simp; omega), HB.out⟩

end Go.Proofs.YtpbjjmenkoigjaaDoor

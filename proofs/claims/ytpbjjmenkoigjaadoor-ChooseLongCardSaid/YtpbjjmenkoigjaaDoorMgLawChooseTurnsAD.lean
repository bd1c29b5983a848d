/- Packing an entry, and its mark: the program's and the reference's. -/
import Derived.Test.YtpbjjmenkoigjaaDoorMgLawChooseTurnsAB
import Derived.Test.YtpbjjmenkoigjaaDoorMgLawChooseTurnsAC
import Derived.RegionTactic
namespace Go.Proofs.YtpbjjmenkoigjaaDoor
open Go.RowKit
def entS (view op under par client sess req oper : Int) (body : ByteArray) : ByteArray := if entB view op under client sess req oper body = true then packS 255 0 oper view op 0 client sess req under 0 par body else ⟨#[]⟩
def entE (view op under client sess req oper : Int) (body : ByteArray) : Int := if entB view op under client sess req oper body = true then 0 else 4
theorem entB_parts {view op under client sess req oper : Int} {body : ByteArray} (h : entB view op under client sess req oper body = true) : headB 255 0 oper view op 0 client sess req under 0 = true ∧ (1 ≤ op) ∧ (1 ≤ client) ∧ (1 ≤ oper) ∧ (under ≤ view) ∧ ((body.size : Int) ≤ 200) := by
  unfold entB at h
  rw [Bool.and_eq_true] at h
  exact ⟨h.1, of_decide_eq_true h.2⟩
theorem ent_packE {view op under client sess req oper : Int} {body : ByteArray} (h : entB view op under client sess req oper body = true) : packE 255 0 oper view op 0 client sess req under 0 body = 0 := by
  obtain ⟨h1, _, _, _, _, h2⟩ := entB_parts h
  unfold packE
  rw [if_pos h1, if_pos (by omega)]
set_option maxHeartbeats 2000000 in
theorem epack_any (view op under client sess req oper par : Int) (body : ByteArray) (hpar : 0 ≤ par ∧ par ≤ 18446744073709551615) (w : World) :
    Calls Tryd.prog 33 #[.agg #[.int .i64 view, .int .i64 op, .int .i64 under, .int .u64 par, .int .i64 client, .int .i64 sess, .int .i64 req, .int .i64 oper, .string body]] w fun e w' => e = .returned (.tuple #[.string (entS view op under par client sess req oper body), .int .i64 (entE view op under client sess req oper body)]) ∧ Below w.heap.size w w' := by
  have hr := fun w => entright_any view op under par client sess req oper body w
  have H0 := Lib.hid (HS.new w #[.int .i64 view, .int .i64 op, .int .i64 under, .int .u64 par, .int .i64 client, .int .i64 sess, .int .i64 req, .int .i64 oper, .string body] 35)
  cases hx : entB view op under client sess req oper body
  · rw [hx] at hr
    have e1 : entS view op under par client sess req oper body = ⟨#[]⟩ := if_neg (by rw [hx]; simp)
    have e2 : entE view op under client sess req oper body = 4 := if_neg (by rw [hx]; simp)
    rw [e1, e2]
    have HR := Lib.hid hr
    clear hr hx e1 e2
    go_enter Tryd.func33, Tryd.ntmps33
    go_wp2_with fail
    refine (HR.out _).mono ?_
    rintro e w1 ⟨rfl, hb1⟩
    have H1 := Lib.hid (H0.out.next hb1)
    clear hb1 H0
    go_wp2_with fail
    go_ret2
    exact ⟨rfl, H1.out.2⟩
  · rw [hx] at hr
    have e1 : entS view op under par client sess req oper body = packS 255 0 oper view op 0 client sess req under 0 par body := if_pos hx
    have e2 : entE view op under client sess req oper body = 0 := if_pos hx
    rw [e1, e2]
    have HR := Lib.hid hr
    have HP := Lib.hid (fun W => pack_any 255 0 oper view op 0 client sess req under 0 par body hpar W)
    rw [ent_packE hx] at HP
    have HD := Lib.hid (fun W => header_any view op under par client sess req oper body W)
    clear hr hx e1 e2 hpar
    obtain ⟨S, hS⟩ : ∃ S, S = packS 255 0 oper view op 0 client sess req under 0 par body := ⟨_, rfl⟩
    rw [← hS] at HP ⊢
    clear hS
    go_enter Tryd.func33, Tryd.ntmps33
    go_wp2_with fail
    refine (HR.out _).mono ?_
    rintro e w1 ⟨rfl, hb1⟩
    have H1 := Lib.hid (H0.out.next hb1)
    clear hb1 H0
    go_wp2_with fail
    have l0 : ∀ W, HS w #[.int .i64 view, .int .i64 op, .int .i64 under, .int .u64 par, .int .i64 client, .int .i64 sess, .int .i64 req, .int .i64 oper, .string body] W → W.cell? ⟨w.heap.size, 0, none⟩ = some (.int .i64 view) := fun W h => h.1.2 0 _ rfl
    have l1 : ∀ W, HS w #[.int .i64 view, .int .i64 op, .int .i64 under, .int .u64 par, .int .i64 client, .int .i64 sess, .int .i64 req, .int .i64 oper, .string body] W → W.cell? ⟨w.heap.size, 1, none⟩ = some (.int .i64 op) := fun W h => h.1.2 1 _ rfl
    have l2 : ∀ W, HS w #[.int .i64 view, .int .i64 op, .int .i64 under, .int .u64 par, .int .i64 client, .int .i64 sess, .int .i64 req, .int .i64 oper, .string body] W → W.cell? ⟨w.heap.size, 2, none⟩ = some (.int .i64 under) := fun W h => h.1.2 2 _ rfl
    have l3 : ∀ W, HS w #[.int .i64 view, .int .i64 op, .int .i64 under, .int .u64 par, .int .i64 client, .int .i64 sess, .int .i64 req, .int .i64 oper, .string body] W → W.cell? ⟨w.heap.size, 3, none⟩ = some (.int .u64 par) := fun W h => h.1.2 3 _ rfl
    have l4 : ∀ W, HS w #[.int .i64 view, .int .i64 op, .int .i64 under, .int .u64 par, .int .i64 client, .int .i64 sess, .int .i64 req, .int .i64 oper, .string body] W → W.cell? ⟨w.heap.size, 4, none⟩ = some (.int .i64 client) := fun W h => h.1.2 4 _ rfl
    have l5 : ∀ W, HS w #[.int .i64 view, .int .i64 op, .int .i64 under, .int .u64 par, .int .i64 client, .int .i64 sess, .int .i64 req, .int .i64 oper, .string body] W → W.cell? ⟨w.heap.size, 5, none⟩ = some (.int .i64 sess) := fun W h => h.1.2 5 _ rfl
    have l6 : ∀ W, HS w #[.int .i64 view, .int .i64 op, .int .i64 under, .int .u64 par, .int .i64 client, .int .i64 sess, .int .i64 req, .int .i64 oper, .string body] W → W.cell? ⟨w.heap.size, 6, none⟩ = some (.int .i64 req) := fun W h => h.1.2 6 _ rfl
    have l7 : ∀ W, HS w #[.int .i64 view, .int .i64 op, .int .i64 under, .int .u64 par, .int .i64 client, .int .i64 sess, .int .i64 req, .int .i64 oper, .string body] W → W.cell? ⟨w.heap.size, 7, none⟩ = some (.int .i64 oper) := fun W h => h.1.2 7 _ rfl
    have l8 : ∀ W, HS w #[.int .i64 view, .int .i64 op, .int .i64 under, .int .u64 par, .int .i64 client, .int .i64 sess, .int .i64 req, .int .i64 oper, .string body] W → W.cell? ⟨w.heap.size, 8, none⟩ = some (.string body) := fun W h => h.1.2 8 _ rfl
    go_region_held3 (HS w #[.int .i64 view, .int .i64 op, .int .i64 under, .int .u64 par, .int .i64 client, .int .i64 sess, .int .i64 req, .int .i64 oper, .string body]) (first | exact H1.out.drew | exact HS.next (by assumption) hbx) ((first | (go_at_call 37; refine (HD.out _).mono ?_; rintro e wx ⟨rfl, hbx⟩) | (go_at_call 47; refine (HP.out _).mono ?_; rintro e wx ⟨rfl, hbx⟩)))
    all_goals
      have HX := Lib.hid (show HS w #[.int .i64 view, .int .i64 op, .int .i64 under, .int .u64 par, .int .i64 client, .int .i64 sess, .int .i64 req, .int .i64 oper, .string body] _ by assumption)
      clear l0 l1 l2 l3 l4 l5 l6 l7 l8
      go_wp2_with fail
      go_ret2
      exact ⟨rfl, HX.out.2⟩
theorem rfit9_yes (n m : Int) (w : World) (h : m ≤ n ∧ n ≤ 72057594037927935) : Calls Tryd.prog 58 #[.int .i64 n, .int .i64 m] w fun e w' => e = .returned (.bool true) ∧ w = w' := by
  obtain ⟨h1, h2⟩ := h
  go_enter Tryd.func58, Tryd.ntmps58
  go_wp2
  go_ret
  exact ⟨ret_bool (by first | (simp; done) | (simp; omega)), rfl⟩
theorem rfit9_no (n m : Int) (w : World) (h : ¬ (m ≤ n ∧ n ≤ 72057594037927935)) : Calls Tryd.prog 58 #[.int .i64 n, .int .i64 m] w fun e w' => e = .returned (.bool false) ∧ w = w' := by
  by_cases h1 : n < m
  · clear h
    go_enter Tryd.func58, Tryd.ntmps58
    go_wp2
    go_ret
    exact ⟨ret_bool (by first | (simp; done) | (simp; omega)), rfl⟩
  · have h2 : 72057594037927935 < n := by omega
    have h3 : m ≤ n := by omega
    clear h h1
    go_enter Tryd.func58, Tryd.ntmps58
    go_wp2
    go_ret
    exact ⟨ret_bool (by first | (simp; done) | (simp; omega)), rfl⟩
theorem entB_yes9 (view op under client sess req oper : Int) (body : ByteArray) (h : (1 ≤ op ∧ op ≤ 72057594037927935) ∧ (1 ≤ client ∧ client ≤ 72057594037927935) ∧ (0 ≤ view ∧ view ≤ 72057594037927935) ∧ (0 ≤ under ∧ under ≤ 72057594037927935) ∧ (0 ≤ sess ∧ sess ≤ 72057594037927935) ∧ (0 ≤ req ∧ req ≤ 72057594037927935) ∧ under ≤ view ∧ 1 ≤ oper ∧ oper ≤ 255 ∧ (body.size : Int) ≤ 200) : entB view op under client sess req oper body = true := by
  unfold entB headB
  rw [Bool.and_eq_true]
  exact ⟨decide_eq_true (by omega), decide_eq_true (by omega)⟩
theorem entB_no9 (view op under client sess req oper : Int) (body : ByteArray) (h : ¬ ((1 ≤ op ∧ op ≤ 72057594037927935) ∧ (1 ≤ client ∧ client ≤ 72057594037927935) ∧ (0 ≤ view ∧ view ≤ 72057594037927935) ∧ (0 ≤ under ∧ under ≤ 72057594037927935) ∧ (0 ≤ sess ∧ sess ≤ 72057594037927935) ∧ (0 ≤ req ∧ req ≤ 72057594037927935) ∧ under ≤ view ∧ 1 ≤ oper ∧ oper ≤ 255 ∧ (body.size : Int) ≤ 200)) : entB view op under client sess req oper body = false := by
  cases hx : entB view op under client sess req oper body
  · rfl
  · have h1 := entB_parts hx
    have h2 := of_decide_eq_true h1.1
    exact absurd (by omega) h
set_option maxHeartbeats 8000000 in
theorem rright9_any (view op under client sess req oper par : Int) (body : ByteArray) (w : World) :
    Calls Tryd.prog 45 #[.agg #[.int .i64 view, .int .i64 op, .int .i64 under, .int .u64 par, .int .i64 client, .int .i64 sess, .int .i64 req, .int .i64 oper, .string body]] w fun e w' => e = .returned (.bool (entB view op under client sess req oper body)) ∧ Below w.heap.size w w' := by
  by_cases h0 : 1 ≤ op ∧ op ≤ 72057594037927935
  rotate_left
  · have H0 := Lib.hid h0
    have HF := Lib.hid (entB_no9 view op under client sess req oper body (by have := H0.out; omega))
    go_enter Tryd.func45, Tryd.ntmps45
    go_wp2_with fail
    refine (rfit9_no _ _ _ H0.out).mono ?_
    rintro e w1 ⟨rfl, rfl⟩
    go_wp2_with fail
    go_ret
    exact ⟨ret_bool (by first | (rw [HF.out]; done) | (rw [HF.out]; simp; done) | (rw [HF.out]; simp; omega)), (Below.refl _ _).alloc (Nat.le_refl _) _⟩
  have H0 := Lib.hid h0
  clear h0
  by_cases h1 : 1 ≤ client ∧ client ≤ 72057594037927935
  rotate_left
  · have H1 := Lib.hid h1
    have HF := Lib.hid (entB_no9 view op under client sess req oper body (by have := H1.out; omega))
    go_enter Tryd.func45, Tryd.ntmps45
    go_wp2_with fail
    refine (rfit9_yes _ _ _ H0.out).mono ?_
    rintro e w1 ⟨rfl, rfl⟩
    go_wp2_with fail
    refine (rfit9_no _ _ _ H1.out).mono ?_
    rintro e w1 ⟨rfl, rfl⟩
    go_wp2_with fail
    go_ret
    exact ⟨ret_bool (by first | (rw [HF.out]; done) | (rw [HF.out]; simp; done) | (rw [HF.out]; simp; omega)), (Below.refl _ _).alloc (Nat.le_refl _) _⟩
  have H1 := Lib.hid h1
  clear h1
  by_cases h2 : 0 ≤ view ∧ view ≤ 72057594037927935
  rotate_left
  · have H2 := Lib.hid h2
    have HF := Lib.hid (entB_no9 view op under client sess req oper body (by have := H2.out; omega))
    go_enter Tryd.func45, Tryd.ntmps45
    go_wp2_with fail
    refine (rfit9_yes _ _ _ H0.out).mono ?_
    rintro e w1 ⟨rfl, rfl⟩
    go_wp2_with fail
    refine (rfit9_yes _ _ _ H1.out).mono ?_
    rintro e w1 ⟨rfl, rfl⟩
    go_wp2_with fail
    refine (rfit9_no _ _ _ H2.out).mono ?_
    rintro e w1 ⟨rfl, rfl⟩
    go_wp2_with fail
    go_ret
    exact ⟨ret_bool (by first | (rw [HF.out]; done) | (rw [HF.out]; simp; done) | (rw [HF.out]; simp; omega)), (Below.refl _ _).alloc (Nat.le_refl _) _⟩
  have H2 := Lib.hid h2
  clear h2
  by_cases h3 : 0 ≤ under ∧ under ≤ 72057594037927935
  rotate_left
  · have H3 := Lib.hid h3
    have HF := Lib.hid (entB_no9 view op under client sess req oper body (by have := H3.out; omega))
    go_enter Tryd.func45, Tryd.ntmps45
    go_wp2_with fail
    refine (rfit9_yes _ _ _ H0.out).mono ?_
    rintro e w1 ⟨rfl, rfl⟩
    go_wp2_with fail
    refine (rfit9_yes _ _ _ H1.out).mono ?_
    rintro e w1 ⟨rfl, rfl⟩
    go_wp2_with fail
    refine (rfit9_yes _ _ _ H2.out).mono ?_
    rintro e w1 ⟨rfl, rfl⟩
    go_wp2_with fail
    refine (rfit9_no _ _ _ H3.out).mono ?_
    rintro e w1 ⟨rfl, rfl⟩
    go_wp2_with fail
    go_ret
    exact ⟨ret_bool (by first | (rw [HF.out]; done) | (rw [HF.out]; simp; done) | (rw [HF.out]; simp; omega)), (Below.refl _ _).alloc (Nat.le_refl _) _⟩
  have H3 := Lib.hid h3
  clear h3
  by_cases h4 : 0 ≤ sess ∧ sess ≤ 72057594037927935
  rotate_left
  · have H4 := Lib.hid h4
    have HF := Lib.hid (entB_no9 view op under client sess req oper body (by have := H4.out; omega))
    go_enter Tryd.func45, Tryd.ntmps45
    go_wp2_with fail
    refine (rfit9_yes _ _ _ H0.out).mono ?_
    rintro e w1 ⟨rfl, rfl⟩
    go_wp2_with fail
    refine (rfit9_yes _ _ _ H1.out).mono ?_
    rintro e w1 ⟨rfl, rfl⟩
    go_wp2_with fail
    refine (rfit9_yes _ _ _ H2.out).mono ?_
    rintro e w1 ⟨rfl, rfl⟩
    go_wp2_with fail
    refine (rfit9_yes _ _ _ H3.out).mono ?_
    rintro e w1 ⟨rfl, rfl⟩
    go_wp2_with fail
    refine (rfit9_no _ _ _ H4.out).mono ?_
    rintro e w1 ⟨rfl, rfl⟩
    go_wp2_with fail
    go_ret
    exact ⟨ret_bool (by first | (rw [HF.out]; done) | (rw [HF.out]; simp; done) | (rw [HF.out]; simp; omega)), (Below.refl _ _).alloc (Nat.le_refl _) _⟩
  have H4 := Lib.hid h4
  clear h4
  by_cases h5 : 0 ≤ req ∧ req ≤ 72057594037927935
  rotate_left
  · have H5 := Lib.hid h5
    have HF := Lib.hid (entB_no9 view op under client sess req oper body (by have := H5.out; omega))
    go_enter Tryd.func45, Tryd.ntmps45
    go_wp2_with fail
    refine (rfit9_yes _ _ _ H0.out).mono ?_
    rintro e w1 ⟨rfl, rfl⟩
    go_wp2_with fail
    refine (rfit9_yes _ _ _ H1.out).mono ?_
    rintro e w1 ⟨rfl, rfl⟩
    go_wp2_with fail
    refine (rfit9_yes _ _ _ H2.out).mono ?_
    rintro e w1 ⟨rfl, rfl⟩
    go_wp2_with fail
    refine (rfit9_yes _ _ _ H3.out).mono ?_
    rintro e w1 ⟨rfl, rfl⟩
    go_wp2_with fail
    refine (rfit9_yes _ _ _ H4.out).mono ?_
    rintro e w1 ⟨rfl, rfl⟩
    go_wp2_with fail
    refine (rfit9_no _ _ _ H5.out).mono ?_
    rintro e w1 ⟨rfl, rfl⟩
    go_wp2_with fail
    go_ret
    exact ⟨ret_bool (by first | (rw [HF.out]; done) | (rw [HF.out]; simp; done) | (rw [HF.out]; simp; omega)), (Below.refl _ _).alloc (Nat.le_refl _) _⟩
  have H5 := Lib.hid h5
  clear h5
  by_cases g0 : under ≤ view
  rotate_left
  · have g : view < under := by omega
    clear g0
    have HF := Lib.hid (entB_no9 view op under client sess req oper body (by omega))
    go_enter Tryd.func45, Tryd.ntmps45
    go_wp2_with fail
    refine (rfit9_yes _ _ _ H0.out).mono ?_
    rintro e w1 ⟨rfl, rfl⟩
    go_wp2_with fail
    refine (rfit9_yes _ _ _ H1.out).mono ?_
    rintro e w1 ⟨rfl, rfl⟩
    go_wp2_with fail
    refine (rfit9_yes _ _ _ H2.out).mono ?_
    rintro e w1 ⟨rfl, rfl⟩
    go_wp2_with fail
    refine (rfit9_yes _ _ _ H3.out).mono ?_
    rintro e w1 ⟨rfl, rfl⟩
    go_wp2_with fail
    refine (rfit9_yes _ _ _ H4.out).mono ?_
    rintro e w1 ⟨rfl, rfl⟩
    go_wp2_with fail
    refine (rfit9_yes _ _ _ H5.out).mono ?_
    rintro e w1 ⟨rfl, rfl⟩
    go_wp2_with fail
    go_ret
    exact ⟨ret_bool (by first | (rw [HF.out]; done) | (rw [HF.out]; simp; done) | (rw [HF.out]; simp; omega)), (Below.refl _ _).alloc (Nat.le_refl _) _⟩
  by_cases g1 : 1 ≤ oper
  rotate_left
  · have g : oper < 1 := by omega
    clear g1
    have HF := Lib.hid (entB_no9 view op under client sess req oper body (by omega))
    go_enter Tryd.func45, Tryd.ntmps45
    go_wp2_with fail
    refine (rfit9_yes _ _ _ H0.out).mono ?_
    rintro e w1 ⟨rfl, rfl⟩
    go_wp2_with fail
    refine (rfit9_yes _ _ _ H1.out).mono ?_
    rintro e w1 ⟨rfl, rfl⟩
    go_wp2_with fail
    refine (rfit9_yes _ _ _ H2.out).mono ?_
    rintro e w1 ⟨rfl, rfl⟩
    go_wp2_with fail
    refine (rfit9_yes _ _ _ H3.out).mono ?_
    rintro e w1 ⟨rfl, rfl⟩
    go_wp2_with fail
    refine (rfit9_yes _ _ _ H4.out).mono ?_
    rintro e w1 ⟨rfl, rfl⟩
    go_wp2_with fail
    refine (rfit9_yes _ _ _ H5.out).mono ?_
    rintro e w1 ⟨rfl, rfl⟩
    go_wp2_with fail
    go_ret
    exact ⟨ret_bool (by first | (rw [HF.out]; done) | (rw [HF.out]; simp; done) | (rw [HF.out]; simp; omega)), (Below.refl _ _).alloc (Nat.le_refl _) _⟩
  by_cases g2 : oper ≤ 255
  rotate_left
  · have g : 255 < oper := by omega
    clear g2
    have HF := Lib.hid (entB_no9 view op under client sess req oper body (by omega))
    go_enter Tryd.func45, Tryd.ntmps45
    go_wp2_with fail
    refine (rfit9_yes _ _ _ H0.out).mono ?_
    rintro e w1 ⟨rfl, rfl⟩
    go_wp2_with fail
    refine (rfit9_yes _ _ _ H1.out).mono ?_
    rintro e w1 ⟨rfl, rfl⟩
    go_wp2_with fail
    refine (rfit9_yes _ _ _ H2.out).mono ?_
    rintro e w1 ⟨rfl, rfl⟩
    go_wp2_with fail
    refine (rfit9_yes _ _ _ H3.out).mono ?_
    rintro e w1 ⟨rfl, rfl⟩
    go_wp2_with fail
    refine (rfit9_yes _ _ _ H4.out).mono ?_
    rintro e w1 ⟨rfl, rfl⟩
    go_wp2_with fail
    refine (rfit9_yes _ _ _ H5.out).mono ?_
    rintro e w1 ⟨rfl, rfl⟩
    go_wp2_with fail
    go_ret
    exact ⟨ret_bool (by first | (rw [HF.out]; done) | (rw [HF.out]; simp; done) | (rw [HF.out]; simp; omega)), (Below.refl _ _).alloc (Nat.le_refl _) _⟩
  by_cases g3 : (body.size : Int) ≤ 200
  rotate_left
  · have g : 200 < (body.size : Int) := by omega
    clear g3
    have HF := Lib.hid (entB_no9 view op under client sess req oper body (by omega))
    go_enter Tryd.func45, Tryd.ntmps45
    go_wp2_with fail
    refine (rfit9_yes _ _ _ H0.out).mono ?_
    rintro e w1 ⟨rfl, rfl⟩
    go_wp2_with fail
    refine (rfit9_yes _ _ _ H1.out).mono ?_
    rintro e w1 ⟨rfl, rfl⟩
    go_wp2_with fail
    refine (rfit9_yes _ _ _ H2.out).mono ?_
    rintro e w1 ⟨rfl, rfl⟩
    go_wp2_with fail
    refine (rfit9_yes _ _ _ H3.out).mono ?_
    rintro e w1 ⟨rfl, rfl⟩
    go_wp2_with fail
    refine (rfit9_yes _ _ _ H4.out).mono ?_
    rintro e w1 ⟨rfl, rfl⟩
    go_wp2_with fail
    refine (rfit9_yes _ _ _ H5.out).mono ?_
    rintro e w1 ⟨rfl, rfl⟩
    go_wp2_with fail
    go_ret
    exact ⟨ret_bool (by first | (rw [HF.out]; done) | (rw [HF.out]; simp; done) | (rw [HF.out]; simp; omega)), (Below.refl _ _).alloc (Nat.le_refl _) _⟩
  have HF := Lib.hid (entB_yes9 view op under client sess req oper body ⟨H0.out, H1.out, H2.out, H3.out, H4.out, H5.out, g0, g1, g2, g3⟩)
  go_enter Tryd.func45, Tryd.ntmps45
  go_wp2_with fail
  refine (rfit9_yes _ _ _ H0.out).mono ?_
  rintro e w1 ⟨rfl, rfl⟩
  go_wp2_with fail
  refine (rfit9_yes _ _ _ H1.out).mono ?_
  rintro e w1 ⟨rfl, rfl⟩
  go_wp2_with fail
  refine (rfit9_yes _ _ _ H2.out).mono ?_
  rintro e w1 ⟨rfl, rfl⟩
  go_wp2_with fail
  refine (rfit9_yes _ _ _ H3.out).mono ?_
  rintro e w1 ⟨rfl, rfl⟩
  go_wp2_with fail
  refine (rfit9_yes _ _ _ H4.out).mono ?_
  rintro e w1 ⟨rfl, rfl⟩
  go_wp2_with fail
  refine (rfit9_yes _ _ _ H5.out).mono ?_
  rintro e w1 ⟨rfl, rfl⟩
  go_wp2_with fail
  go_ret
  exact ⟨ret_bool (by first | (rw [HF.out]; done) | (rw [HF.out]; simp; done) | (rw [HF.out]; simp; omega)), (Below.refl _ _).alloc (Nat.le_refl _) _⟩
set_option maxHeartbeats 4000000 in
theorem repack_any (view op under client sess req oper par : Int) (body : ByteArray) (hpar : 0 ≤ par ∧ par ≤ 18446744073709551615) (w : World) :
    Calls Tryd.prog 75 #[.agg #[.int .i64 view, .int .i64 op, .int .i64 under, .int .u64 par, .int .i64 client, .int .i64 sess, .int .i64 req, .int .i64 oper, .string body]] w fun e w' => e = .returned (.tuple #[.string (entS view op under par client sess req oper body), .int .i64 (entE view op under client sess req oper body)]) ∧ Below w.heap.size w w' := by
  have hr := fun w => rright9_any view op under client sess req oper par body w
  have H0 := Lib.hid (HS.new w #[.int .i64 view, .int .i64 op, .int .i64 under, .int .u64 par, .int .i64 client, .int .i64 sess, .int .i64 req, .int .i64 oper, .string body] 35)
  cases hx : entB view op under client sess req oper body
  · rw [hx] at hr
    have e1 : entS view op under par client sess req oper body = ⟨#[]⟩ := if_neg (by rw [hx]; simp)
    have e2 : entE view op under client sess req oper body = 4 := if_neg (by rw [hx]; simp)
    rw [e1, e2]
    have HR := Lib.hid hr
    clear hr hx e1 e2
    go_enter Tryd.func75, Tryd.ntmps75
    go_wp2_with fail
    refine (HR.out _).mono ?_
    rintro e w1 ⟨rfl, hb1⟩
    have H1 := Lib.hid (H0.out.next hb1)
    clear hb1 H0
    go_wp2_with fail
    go_ret2
    exact ⟨rfl, H1.out.2⟩
  · rw [hx] at hr
    have e1 : entS view op under par client sess req oper body = packS 255 0 oper view op 0 client sess req under 0 par body := if_pos hx
    have e2 : entE view op under client sess req oper body = 0 := if_pos hx
    rw [e1, e2]
    have HR := Lib.hid hr
    have HP := Lib.hid (fun W => rpack_any 255 0 oper view op 0 client sess req under 0 par body hpar W)
    rw [ent_packE hx] at HP
    clear hr hx e1 e2 hpar
    obtain ⟨S, hS⟩ : ∃ S, S = packS 255 0 oper view op 0 client sess req under 0 par body := ⟨_, rfl⟩
    rw [← hS] at HP ⊢
    clear hS
    go_enter Tryd.func75, Tryd.ntmps75
    go_wp2_with fail
    refine (HR.out _).mono ?_
    rintro e w1 ⟨rfl, hb1⟩
    have H1 := Lib.hid (H0.out.next hb1)
    clear hb1 H0
    have hlt := H1.out.1.1
    have c0 := H1.out.1.2 0 _ rfl
    have c1 := H1.out.1.2 1 _ rfl
    have c2 := H1.out.1.2 2 _ rfl
    have c3 := H1.out.1.2 3 _ rfl
    have c4 := H1.out.1.2 4 _ rfl
    have c5 := H1.out.1.2 5 _ rfl
    have c6 := H1.out.1.2 6 _ rfl
    have c7 := H1.out.1.2 7 _ rfl
    have c8 := H1.out.1.2 8 _ rfl
    go_wp2_with fail
    refine (HP.out _).mono ?_
    rintro e w2 ⟨rfl, hb2⟩
    go_wp2_with fail
    go_ret2
    exact ⟨rfl, H1.out.2.trans (((Below.refl _ _).alloc (Nat.le_refl _) _).trans (hb2.mono (by simp)) |>.mono H1.out.2.size)⟩
end Go.Proofs.YtpbjjmenkoigjaaDoor

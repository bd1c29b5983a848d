/- The reference's header: may it be; a number behind bytes. -/
import Derived.Test.YtmebodjofcomlaaPackC
import Derived.Test.YtmebodjofcomlaaCrcE
namespace Go.Proofs.Ytmebodjofcomlaa
open Go.RowKit
theorem rsmall_yes (n : Int) (w : World) (h : 0 ≤ n ∧ n ≤ 255) : Calls Try.prog 38 #[.int .i64 n] w fun e w' => e = .returned (.bool true) ∧ w = w' := by
  obtain ⟨h1, h2⟩ := h
  go_enter Try.func38, Try.ntmps38
  go_wp2
  go_ret
  exact ⟨ret_bool (by first | (simp; done) | (simp; omega)), rfl⟩
theorem rsmall_no (n : Int) (w : World) (h : ¬ (0 ≤ n ∧ n ≤ 255)) : Calls Try.prog 38 #[.int .i64 n] w fun e w' => e = .returned (.bool false) ∧ w = w' := by
  by_cases h1 : n < 0
  · clear h
    go_enter Try.func38, Try.ntmps38
    go_wp2
    go_ret
    exact ⟨ret_bool (by first | (simp; done) | (simp; omega)), rfl⟩
  · have h2 : 255 < n := by omega
    have h3 : 0 ≤ n := by omega
    clear h h1
    go_enter Try.func38, Try.ntmps38
    go_wp2
    go_ret
    exact ⟨ret_bool (by first | (simp; done) | (simp; omega)), rfl⟩
theorem rfits_yes (n : Int) (w : World) (h : 0 ≤ n ∧ n ≤ 72057594037927935) : Calls Try.prog 39 #[.int .i64 n] w fun e w' => e = .returned (.bool true) ∧ w = w' := by
  obtain ⟨h1, h2⟩ := h
  go_enter Try.func39, Try.ntmps39
  go_wp2
  go_ret
  exact ⟨ret_bool (by first | (simp; done) | (simp; omega)), rfl⟩
theorem rfits_no (n : Int) (w : World) (h : ¬ (0 ≤ n ∧ n ≤ 72057594037927935)) : Calls Try.prog 39 #[.int .i64 n] w fun e w' => e = .returned (.bool false) ∧ w = w' := by
  by_cases h1 : n < 0
  · clear h
    go_enter Try.func39, Try.ntmps39
    go_wp2
    go_ret
    exact ⟨ret_bool (by first | (simp; done) | (simp; omega)), rfl⟩
  · have h2 : 72057594037927935 < n := by omega
    have h3 : 0 ≤ n := by omega
    clear h h1
    go_enter Try.func39, Try.ntmps39
    go_wp2
    go_ret
    exact ⟨ret_bool (by first | (simp; done) | (simp; omega)), rfl⟩
set_option maxHeartbeats 8000000 in
theorem refright_any (k f o v p c cl se rq a b : Int) (par : Int) (w : World) :
    Calls Try.prog 21 #[.agg #[.int .i64 k, .int .i64 f, .int .i64 o, .int .i64 v, .int .i64 p, .int .i64 c, .int .i64 cl, .int .i64 se, .int .i64 rq, .int .i64 a, .int .i64 b, .int .u64 par]] w fun e w' => e = .returned (.bool (headB k f o v p c cl se rq a b)) ∧ Below w.heap.size w w' := by
  by_cases h0 : 0 ≤ k ∧ k ≤ 255
  rotate_left
  · have H0 := Lib.hid h0
    have HF := Lib.hid (headB_no k f o v p c cl se rq a b (by have := H0.out; omega))
    go_enter Try.func21, Try.ntmps21
    go_wp2_with fail
    refine (rsmall_no _ _ H0.out).mono ?_
    rintro e w1 ⟨rfl, rfl⟩
    go_wp2_with fail
    go_ret
    exact ⟨ret_bool HF.out.symm, (Below.refl _ _).alloc (Nat.le_refl _) _⟩
  have H0 := Lib.hid h0
  clear h0
  by_cases h1 : 0 ≤ f ∧ f ≤ 255
  rotate_left
  · have H1 := Lib.hid h1
    have HF := Lib.hid (headB_no k f o v p c cl se rq a b (by have := H1.out; omega))
    go_enter Try.func21, Try.ntmps21
    go_wp2_with fail
    refine (rsmall_yes _ _ H0.out).mono ?_
    rintro e w1 ⟨rfl, rfl⟩
    go_wp2_with fail
    refine (rsmall_no _ _ H1.out).mono ?_
    rintro e w1 ⟨rfl, rfl⟩
    go_wp2_with fail
    go_ret
    exact ⟨ret_bool HF.out.symm, (Below.refl _ _).alloc (Nat.le_refl _) _⟩
  have H1 := Lib.hid h1
  clear h1
  by_cases h2 : 0 ≤ o ∧ o ≤ 255
  rotate_left
  · have H2 := Lib.hid h2
    have HF := Lib.hid (headB_no k f o v p c cl se rq a b (by have := H2.out; omega))
    go_enter Try.func21, Try.ntmps21
    go_wp2_with fail
    refine (rsmall_yes _ _ H0.out).mono ?_
    rintro e w1 ⟨rfl, rfl⟩
    go_wp2_with fail
    refine (rsmall_yes _ _ H1.out).mono ?_
    rintro e w1 ⟨rfl, rfl⟩
    go_wp2_with fail
    refine (rsmall_no _ _ H2.out).mono ?_
    rintro e w1 ⟨rfl, rfl⟩
    go_wp2_with fail
    go_ret
    exact ⟨ret_bool HF.out.symm, (Below.refl _ _).alloc (Nat.le_refl _) _⟩
  have H2 := Lib.hid h2
  clear h2
  by_cases h3 : 0 ≤ v ∧ v ≤ 72057594037927935
  rotate_left
  · have H3 := Lib.hid h3
    have HF := Lib.hid (headB_no k f o v p c cl se rq a b (by have := H3.out; omega))
    go_enter Try.func21, Try.ntmps21
    go_wp2_with fail
    refine (rsmall_yes _ _ H0.out).mono ?_
    rintro e w1 ⟨rfl, rfl⟩
    go_wp2_with fail
    refine (rsmall_yes _ _ H1.out).mono ?_
    rintro e w1 ⟨rfl, rfl⟩
    go_wp2_with fail
    refine (rsmall_yes _ _ H2.out).mono ?_
    rintro e w1 ⟨rfl, rfl⟩
    go_wp2_with fail
    refine (rfits_no _ _ H3.out).mono ?_
    rintro e w1 ⟨rfl, rfl⟩
    go_wp2_with fail
    go_ret
    exact ⟨ret_bool HF.out.symm, (Below.refl _ _).alloc (Nat.le_refl _) _⟩
  have H3 := Lib.hid h3
  clear h3
  by_cases h4 : 0 ≤ p ∧ p ≤ 72057594037927935
  rotate_left
  · have H4 := Lib.hid h4
    have HF := Lib.hid (headB_no k f o v p c cl se rq a b (by have := H4.out; omega))
    go_enter Try.func21, Try.ntmps21
    go_wp2_with fail
    refine (rsmall_yes _ _ H0.out).mono ?_
    rintro e w1 ⟨rfl, rfl⟩
    go_wp2_with fail
    refine (rsmall_yes _ _ H1.out).mono ?_
    rintro e w1 ⟨rfl, rfl⟩
    go_wp2_with fail
    refine (rsmall_yes _ _ H2.out).mono ?_
    rintro e w1 ⟨rfl, rfl⟩
    go_wp2_with fail
    refine (rfits_yes _ _ H3.out).mono ?_
    rintro e w1 ⟨rfl, rfl⟩
    go_wp2_with fail
    refine (rfits_no _ _ H4.out).mono ?_
    rintro e w1 ⟨rfl, rfl⟩
    go_wp2_with fail
    go_ret
    exact ⟨ret_bool HF.out.symm, (Below.refl _ _).alloc (Nat.le_refl _) _⟩
  have H4 := Lib.hid h4
  clear h4
  by_cases h5 : 0 ≤ c ∧ c ≤ 72057594037927935
  rotate_left
  · have H5 := Lib.hid h5
    have HF := Lib.hid (headB_no k f o v p c cl se rq a b (by have := H5.out; omega))
    go_enter Try.func21, Try.ntmps21
    go_wp2_with fail
    refine (rsmall_yes _ _ H0.out).mono ?_
    rintro e w1 ⟨rfl, rfl⟩
    go_wp2_with fail
    refine (rsmall_yes _ _ H1.out).mono ?_
    rintro e w1 ⟨rfl, rfl⟩
    go_wp2_with fail
    refine (rsmall_yes _ _ H2.out).mono ?_
    rintro e w1 ⟨rfl, rfl⟩
    go_wp2_with fail
    refine (rfits_yes _ _ H3.out).mono ?_
    rintro e w1 ⟨rfl, rfl⟩
    go_wp2_with fail
    refine (rfits_yes _ _ H4.out).mono ?_
    rintro e w1 ⟨rfl, rfl⟩
    go_wp2_with fail
    refine (rfits_no _ _ H5.out).mono ?_
    rintro e w1 ⟨rfl, rfl⟩
    go_wp2_with fail
    go_ret
    exact ⟨ret_bool HF.out.symm, (Below.refl _ _).alloc (Nat.le_refl _) _⟩
  have H5 := Lib.hid h5
  clear h5
  by_cases h6 : 0 ≤ cl ∧ cl ≤ 72057594037927935
  rotate_left
  · have H6 := Lib.hid h6
    have HF := Lib.hid (headB_no k f o v p c cl se rq a b (by have := H6.out; omega))
    go_enter Try.func21, Try.ntmps21
    go_wp2_with fail
    refine (rsmall_yes _ _ H0.out).mono ?_
    rintro e w1 ⟨rfl, rfl⟩
    go_wp2_with fail
    refine (rsmall_yes _ _ H1.out).mono ?_
    rintro e w1 ⟨rfl, rfl⟩
    go_wp2_with fail
    refine (rsmall_yes _ _ H2.out).mono ?_
    rintro e w1 ⟨rfl, rfl⟩
    go_wp2_with fail
    refine (rfits_yes _ _ H3.out).mono ?_
    rintro e w1 ⟨rfl, rfl⟩
    go_wp2_with fail
    refine (rfits_yes _ _ H4.out).mono ?_
    rintro e w1 ⟨rfl, rfl⟩
    go_wp2_with fail
    refine (rfits_yes _ _ H5.out).mono ?_
    rintro e w1 ⟨rfl, rfl⟩
    go_wp2_with fail
    refine (rfits_no _ _ H6.out).mono ?_
    rintro e w1 ⟨rfl, rfl⟩
    go_wp2_with fail
    go_ret
    exact ⟨ret_bool HF.out.symm, (Below.refl _ _).alloc (Nat.le_refl _) _⟩
  have H6 := Lib.hid h6
  clear h6
  by_cases h7 : 0 ≤ se ∧ se ≤ 72057594037927935
  rotate_left
  · have H7 := Lib.hid h7
    have HF := Lib.hid (headB_no k f o v p c cl se rq a b (by have := H7.out; omega))
    go_enter Try.func21, Try.ntmps21
    go_wp2_with fail
    refine (rsmall_yes _ _ H0.out).mono ?_
    rintro e w1 ⟨rfl, rfl⟩
    go_wp2_with fail
    refine (rsmall_yes _ _ H1.out).mono ?_
    rintro e w1 ⟨rfl, rfl⟩
    go_wp2_with fail
    refine (rsmall_yes _ _ H2.out).mono ?_
    rintro e w1 ⟨rfl, rfl⟩
    go_wp2_with fail
    refine (rfits_yes _ _ H3.out).mono ?_
    rintro e w1 ⟨rfl, rfl⟩
    go_wp2_with fail
    refine (rfits_yes _ _ H4.out).mono ?_
    rintro e w1 ⟨rfl, rfl⟩
    go_wp2_with fail
    refine (rfits_yes _ _ H5.out).mono ?_
    rintro e w1 ⟨rfl, rfl⟩
    go_wp2_with fail
    refine (rfits_yes _ _ H6.out).mono ?_
    rintro e w1 ⟨rfl, rfl⟩
    go_wp2_with fail
    refine (rfits_no _ _ H7.out).mono ?_
    rintro e w1 ⟨rfl, rfl⟩
    go_wp2_with fail
    go_ret
    exact ⟨ret_bool HF.out.symm, (Below.refl _ _).alloc (Nat.le_refl _) _⟩
  have H7 := Lib.hid h7
  clear h7
  by_cases h8 : 0 ≤ rq ∧ rq ≤ 72057594037927935
  rotate_left
  · have H8 := Lib.hid h8
    have HF := Lib.hid (headB_no k f o v p c cl se rq a b (by have := H8.out; omega))
    go_enter Try.func21, Try.ntmps21
    go_wp2_with fail
    refine (rsmall_yes _ _ H0.out).mono ?_
    rintro e w1 ⟨rfl, rfl⟩
    go_wp2_with fail
    refine (rsmall_yes _ _ H1.out).mono ?_
    rintro e w1 ⟨rfl, rfl⟩
    go_wp2_with fail
    refine (rsmall_yes _ _ H2.out).mono ?_
    rintro e w1 ⟨rfl, rfl⟩
    go_wp2_with fail
    refine (rfits_yes _ _ H3.out).mono ?_
    rintro e w1 ⟨rfl, rfl⟩
    go_wp2_with fail
    refine (rfits_yes _ _ H4.out).mono ?_
    rintro e w1 ⟨rfl, rfl⟩
    go_wp2_with fail
    refine (rfits_yes _ _ H5.out).mono ?_
    rintro e w1 ⟨rfl, rfl⟩
    go_wp2_with fail
    refine (rfits_yes _ _ H6.out).mono ?_
    rintro e w1 ⟨rfl, rfl⟩
    go_wp2_with fail
    refine (rfits_yes _ _ H7.out).mono ?_
    rintro e w1 ⟨rfl, rfl⟩
    go_wp2_with fail
    refine (rfits_no _ _ H8.out).mono ?_
    rintro e w1 ⟨rfl, rfl⟩
    go_wp2_with fail
    go_ret
    exact ⟨ret_bool HF.out.symm, (Below.refl _ _).alloc (Nat.le_refl _) _⟩
  have H8 := Lib.hid h8
  clear h8
  by_cases h9 : 0 ≤ a ∧ a ≤ 72057594037927935
  rotate_left
  · have H9 := Lib.hid h9
    have HF := Lib.hid (headB_no k f o v p c cl se rq a b (by have := H9.out; omega))
    go_enter Try.func21, Try.ntmps21
    go_wp2_with fail
    refine (rsmall_yes _ _ H0.out).mono ?_
    rintro e w1 ⟨rfl, rfl⟩
    go_wp2_with fail
    refine (rsmall_yes _ _ H1.out).mono ?_
    rintro e w1 ⟨rfl, rfl⟩
    go_wp2_with fail
    refine (rsmall_yes _ _ H2.out).mono ?_
    rintro e w1 ⟨rfl, rfl⟩
    go_wp2_with fail
    refine (rfits_yes _ _ H3.out).mono ?_
    rintro e w1 ⟨rfl, rfl⟩
    go_wp2_with fail
    refine (rfits_yes _ _ H4.out).mono ?_
    rintro e w1 ⟨rfl, rfl⟩
    go_wp2_with fail
    refine (rfits_yes _ _ H5.out).mono ?_
    rintro e w1 ⟨rfl, rfl⟩
    go_wp2_with fail
    refine (rfits_yes _ _ H6.out).mono ?_
    rintro e w1 ⟨rfl, rfl⟩
    go_wp2_with fail
    refine (rfits_yes _ _ H7.out).mono ?_
    rintro e w1 ⟨rfl, rfl⟩
    go_wp2_with fail
    refine (rfits_yes _ _ H8.out).mono ?_
    rintro e w1 ⟨rfl, rfl⟩
    go_wp2_with fail
    refine (rfits_no _ _ H9.out).mono ?_
    rintro e w1 ⟨rfl, rfl⟩
    go_wp2_with fail
    go_ret
    exact ⟨ret_bool HF.out.symm, (Below.refl _ _).alloc (Nat.le_refl _) _⟩
  have H9 := Lib.hid h9
  clear h9
  by_cases h10 : 0 ≤ b ∧ b ≤ 72057594037927935
  rotate_left
  · have H10 := Lib.hid h10
    have HF := Lib.hid (headB_no k f o v p c cl se rq a b (by have := H10.out; omega))
    go_enter Try.func21, Try.ntmps21
    go_wp2_with fail
    refine (rsmall_yes _ _ H0.out).mono ?_
    rintro e w1 ⟨rfl, rfl⟩
    go_wp2_with fail
    refine (rsmall_yes _ _ H1.out).mono ?_
    rintro e w1 ⟨rfl, rfl⟩
    go_wp2_with fail
    refine (rsmall_yes _ _ H2.out).mono ?_
    rintro e w1 ⟨rfl, rfl⟩
    go_wp2_with fail
    refine (rfits_yes _ _ H3.out).mono ?_
    rintro e w1 ⟨rfl, rfl⟩
    go_wp2_with fail
    refine (rfits_yes _ _ H4.out).mono ?_
    rintro e w1 ⟨rfl, rfl⟩
    go_wp2_with fail
    refine (rfits_yes _ _ H5.out).mono ?_
    rintro e w1 ⟨rfl, rfl⟩
    go_wp2_with fail
    refine (rfits_yes _ _ H6.out).mono ?_
    rintro e w1 ⟨rfl, rfl⟩
    go_wp2_with fail
    refine (rfits_yes _ _ H7.out).mono ?_
    rintro e w1 ⟨rfl, rfl⟩
    go_wp2_with fail
    refine (rfits_yes _ _ H8.out).mono ?_
    rintro e w1 ⟨rfl, rfl⟩
    go_wp2_with fail
    refine (rfits_yes _ _ H9.out).mono ?_
    rintro e w1 ⟨rfl, rfl⟩
    go_wp2_with fail
    refine (rfits_no _ _ H10.out).mono ?_
    rintro e w1 ⟨rfl, rfl⟩
    go_wp2_with fail
    go_ret
    exact ⟨ret_bool HF.out.symm, (Below.refl _ _).alloc (Nat.le_refl _) _⟩
  have H10 := Lib.hid h10
  clear h10
  have HF := Lib.hid (headB_yes k f o v p c cl se rq a b ⟨H0.out, H1.out, H2.out, H3.out, H4.out, H5.out, H6.out, H7.out, H8.out, H9.out, H10.out⟩)
  go_enter Try.func21, Try.ntmps21
  go_wp2_with fail
  refine (rsmall_yes _ _ H0.out).mono ?_
  rintro e w1 ⟨rfl, rfl⟩
  go_wp2_with fail
  refine (rsmall_yes _ _ H1.out).mono ?_
  rintro e w1 ⟨rfl, rfl⟩
  go_wp2_with fail
  refine (rsmall_yes _ _ H2.out).mono ?_
  rintro e w1 ⟨rfl, rfl⟩
  go_wp2_with fail
  refine (rfits_yes _ _ H3.out).mono ?_
  rintro e w1 ⟨rfl, rfl⟩
  go_wp2_with fail
  refine (rfits_yes _ _ H4.out).mono ?_
  rintro e w1 ⟨rfl, rfl⟩
  go_wp2_with fail
  refine (rfits_yes _ _ H5.out).mono ?_
  rintro e w1 ⟨rfl, rfl⟩
  go_wp2_with fail
  refine (rfits_yes _ _ H6.out).mono ?_
  rintro e w1 ⟨rfl, rfl⟩
  go_wp2_with fail
  refine (rfits_yes _ _ H7.out).mono ?_
  rintro e w1 ⟨rfl, rfl⟩
  go_wp2_with fail
  refine (rfits_yes _ _ H8.out).mono ?_
  rintro e w1 ⟨rfl, rfl⟩
  go_wp2_with fail
  refine (rfits_yes _ _ H9.out).mono ?_
  rintro e w1 ⟨rfl, rfl⟩
  go_wp2_with fail
  refine (rfits_yes _ _ H10.out).mono ?_
  rintro e w1 ⟨rfl, rfl⟩
  go_wp2_with fail
  go_ret
  exact ⟨ret_bool HF.out.symm, (Below.refl _ _).alloc (Nat.le_refl _) _⟩
theorem holds_zero (w : World) (p : Option Addr) (c : Nat) : Holds w (.slice p 0 c) [] := ⟨fun b hb => (by cases hb), p, c, rfl, fun _ => rfl, fun a ha i x hx => (by cases hx)⟩
set_option maxHeartbeats 1000000 in
/-- comptorref05.put: a number that fits, behind bytes. -/
theorem rput (p : Option Addr) (cap : Nat) (L : List Nat) (n size : Nat) (w : World) (hb : Holds w (.slice p L.length cap) L) (hn : n < 18446744073709551616) (hs : 1 ≤ size) (hs8 : size ≤ 8) (hfit : n / 256 ^ size = 0) (hlen : L.length + 8 ≤ 140737488355328) :
    Calls Try.prog 35 #[.slice p L.length cap, .int .u64 n, .int .i64 size] w fun e w' => ∃ v', e = .returned v' ∧ OwnB w.heap.size w' v' (L ++ leN n size) ∧ Below w.heap.size w w' := by
  have HC := Lib.hid (refput_loop p cap L n size w hb hn hs hs8 hlen)
  have HZ := Lib.hid hfit
  clear hb hn hs hs8 hfit hlen
  go_enter Try.func35, Try.ntmps35
  go_wp2_with fail
  refine HC.out.mono ?_
  rintro e w1 ⟨hb1, hP⟩
  obtain ⟨v', rfl, hO⟩ : ∃ v', e = .returned (.tuple #[v', .int .i64 0]) ∧ OwnB w.heap.size w1 v' (L ++ leN n size) := by
    rcases hP with h | h
    · exact h.2
    · exact absurd HZ.out h.1
  have H1 := Lib.hid (And.intro hO hb1)
  clear hP hO hb1
  go_wp2_with fail
  go_ret
  exact ⟨v', rfl, H1.out.1, H1.out.2⟩
theorem OwnB.mono {B B' : Nat} {w : World} {v : Value} {L : List Nat} (h : OwnB B w v L) (hB : B' ≤ B) : OwnB B' w v L := by
  refine ⟨h.1, ?_⟩
  have h2 := h.2
  unfold World.ownsRow at h2 ⊢
  refine ⟨h2.1, ?_⟩
  rcases h2.2 with h | ⟨g, cap, cur, r1, r2, r3⟩
  · exact .inl h
  · exact .inr ⟨g, cap, cur, r1, Nat.le_trans hB r2, r3⟩
theorem OwnB.slice' {B : Nat} {w : World} {v : Value} {l : List Nat} (h : OwnB B w v l) : ∃ p cap, v = .slice p l.length cap ∧ l.length ≤ cap := by
  rcases h.2.2 with ⟨rfl, hn⟩ | ⟨g, cap, cur, rfl, _, _, hc, _⟩
  · exact ⟨none, 0, by rw [hn], by omega⟩
  · exact ⟨_, cap, rfl, hc⟩
theorem rputO {B : Nat} (v : Value) (L : List Nat) (n size : Nat) (w : World) (hO : OwnB B w v L) (hn : n < 18446744073709551616) (hs : 1 ≤ size) (hs8 : size ≤ 8) (hfit : n / 256 ^ size = 0) (hlen : L.length + 8 ≤ 140737488355328) :
    Calls Try.prog 35 #[v, .int .u64 n, .int .i64 size] w fun e w' => ∃ v', e = .returned v' ∧ OwnB w.heap.size w' v' (L ++ leN n size) ∧ Below w.heap.size w w' := by
  have hh := hO.holds
  obtain ⟨p, cap, rfl, _⟩ := hO.slice'
  exact rput p cap L n size w hh hn hs hs8 hfit hlen
end Go.Proofs.Ytmebodjofcomlaa

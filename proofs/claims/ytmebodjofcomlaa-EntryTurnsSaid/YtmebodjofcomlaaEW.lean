/- The walks of EntryReads, EntryPacks, EntryTurns. -/
import Derived.Test.YtmebodjofcomlaaEUr
import Derived.Test.YtmebodjofcomlaaEntC
namespace Go.Proofs.Ytmebodjofcomlaa
open Go.RowKit
theorem eunpack_any (s : ByteArray) (w : World) (hl : s.size ≤ 140737488355328) : Calls Try.prog 26 #[.string s] w (UePost s w) := by
  cases h : unOk s
  · exact eunpack_no s w hl h
  · exact eunpack_try s w hl h
theorem reunpack_any (s : ByteArray) (w : World) (hl : s.size ≤ 140737488355328) : Calls Try.prog 27 #[.string s] w (UePost s w) := by
  cases h : unOk s
  · exact reunpack_no s w hl h
  · exact reunpack_try s w hl h
/-- What unpacking gives, under names. -/
theorem ue_res (s : ByteArray) (hl : s.size ≤ 140737488355328) : ∃ (z0 z1 z2 z3 z4 z5 z6 z7 : Int) (B : ByteArray) (F : Int), Hid (∀ W, Calls Try.prog 26 #[.string s] W fun e w' => e = .returned (.tuple #[.agg #[.int .i64 z0, .int .i64 z1, .int .i64 z2, .int .u64 z3, .int .i64 z4, .int .i64 z5, .int .i64 z6, .int .i64 z7, .string B], .int .i64 F]) ∧ Below W.heap.size W w') ∧
    Hid (∀ W, Calls Try.prog 27 #[.string s] W fun e w' => e = .returned (.tuple #[.agg #[.int .i64 z0, .int .i64 z1, .int .i64 z2, .int .u64 z3, .int .i64 z4, .int .i64 z5, .int .i64 z6, .int .i64 z7, .string B], .int .i64 F]) ∧ Below W.heap.size W w') ∧ (ueOk s = true → F = 0 ∧ #[.int .i64 z0, .int .i64 z1, .int .i64 z2, .int .u64 z3, .int .i64 z4, .int .i64 z5, .int .i64 z6, .int .i64 z7, .string B] = ueHdr s) ∧ (ueOk s = false → F = 4) := by
  cases h : ueOk s
  · refine ⟨0, 0, 0, 0, 0, 0, 0, 0, ⟨#[]⟩, 4, Lib.hid (fun W => (eunpack_any s W hl).mono ?_), Lib.hid (fun W => (reunpack_any s W hl).mono ?_), (fun q => by cases q), fun _ => rfl⟩ <;>
    · rintro e w' ⟨rfl, hb⟩
      exact ⟨by rw [if_neg (by rw [h]; simp)], hb⟩
  · refine ⟨_, _, _, _, _, _, _, _, _, 0, Lib.hid (fun W => (eunpack_any s W hl).mono ?_), Lib.hid (fun W => (reunpack_any s W hl).mono ?_), fun _ => ⟨rfl, rfl⟩, (fun q => by cases q)⟩ <;>
    · rintro e w' ⟨rfl, hb⟩
      exact ⟨by rw [if_pos h]; rfl, hb⟩
set_option linter.unusedVariables false in
set_option maxHeartbeats 4000000 in
theorem ereads_core (s : ByteArray) (w : World) (hs : s.size ≤ 140737488351232) : Calls Try.prog 8 #[.string s] w fun e w' => e = .returned (.bool true) ∧ Below w.heap.size w w' := by
  obtain ⟨z0, z1, z2, z3, z4, z5, z6, z7, B, F, H1, H2, _, _⟩ := ue_res s (by omega)
  go_enter Try.func8, Try.ntmps8
  go_wp2_with fail
  refine (awake09_any _).mono ?_
  rintro e w1 ⟨rfl, hb1⟩
  have B1 := Lib.hid hb1
  clear hb1
  go_wp2_with fail
  by_cases hl : 5000 < s.size
  · refine (long_yes _ _ hl).mono ?_
    rintro e w2 ⟨rfl, rfl⟩
    go_wp2_with fail
    go_ret
    exact ⟨rfl, B1.out⟩
  refine (long_no _ _ (by omega)).mono ?_
  rintro e w2 ⟨rfl, rfl⟩
  go_wp2_with fail
  refine (H1.out _).mono ?_
  rintro e w2 ⟨rfl, hb2⟩
  have B2 := Lib.hid (B1.out.trans (hb2.mono B1.out.size))
  clear hb2
  go_wp2_with fail
  refine (H2.out _).mono ?_
  have HR := Lib.hid (show Row (w2.alloc (.cells #[.int .i64 z0, .int .i64 z1, .int .i64 z2, .int .u64 z3, .int .i64 z4, .int .i64 z5, .int .i64 z6, .int .i64 z7, .string B] 26)) w2.heap.size #[.int .i64 z0, .int .i64 z1, .int .i64 z2, .int .u64 z3, .int .i64 z4, .int .i64 z5, .int .i64 z6, .int .i64 z7, .string B] ∧ Below w.heap.size w (w2.alloc (.cells #[.int .i64 z0, .int .i64 z1, .int .i64 z2, .int .u64 z3, .int .i64 z4, .int .i64 z5, .int .i64 z6, .int .i64 z7, .string B] 26)) from ⟨Row.new w2 _ _ _ rfl, B2.out.alloc B2.out.size _⟩)
  rintro e w3 ⟨rfl, hb3⟩
  have B3 := Lib.hid (show Row w3 w2.heap.size #[.int .i64 z0, .int .i64 z1, .int .i64 z2, .int .u64 z3, .int .i64 z4, .int .i64 z5, .int .i64 z6, .int .i64 z7, .string B] ∧ Below w.heap.size w w3 from ⟨HR.out.1.below hb3 HR.out.1.1, HR.out.2.trans (hb3.mono HR.out.2.size)⟩)
  clear hb3 HR
  have c0 := B3.out.1.2 0 _ rfl
  have c1 := B3.out.1.2 1 _ rfl
  have c2 := B3.out.1.2 2 _ rfl
  have c3 := B3.out.1.2 3 _ rfl
  have c4 := B3.out.1.2 4 _ rfl
  have c5 := B3.out.1.2 5 _ rfl
  have c6 := B3.out.1.2 6 _ rfl
  have c7 := B3.out.1.2 7 _ rfl
  have c8 := B3.out.1.2 8 _ rfl
  have hlt := B3.out.1.1
  go_wp2_with fail
  go_ret
  exact ⟨ret_bool (by simp), B3.out.2.alloc B3.out.2.size _⟩
theorem ue_packed (view op under client sess req oper par : Int) (body : ByteArray) (hpar : 0 ≤ par ∧ par ≤ 18446744073709551615) (h : entB view op under client sess req oper body = true) (s : ByteArray) (hs : s = entS view op under par client sess req oper body) : ueOk s = true ∧ ueHdr s = #[.int .i64 view, .int .i64 op, .int .i64 under, .int .u64 par, .int .i64 client, .int .i64 sess, .int .i64 req, .int .i64 oper, .string body] ∧ s.size = 128 + body.size := by
  have hs' : s = packS 255 0 oper view op 0 client sess req under 0 par body := by rw [hs]; exact if_pos h
  obtain ⟨u1, u2, u3, ⟨e0, e1, e2⟩, e3, e4, e5, e6, e7, e8, e9, e10, e11⟩ := un_back hpar (ent_packE h) hs'
  refine ⟨decide_eq_true ⟨u1, ⟨e0, e1, e6, e11⟩, ?_⟩, ?_, u3⟩
  · unfold ueB
    rw [u2, e4, e5, e10, e7, e8, e9, e2]
    exact h
  · unfold ueHdr
    rw [u2, e3, e4, e5, e10, e7, e8, e9, e2]
theorem entE_zero {view op under client sess req oper : Int} {body : ByteArray} (h : entE view op under client sess req oper body = 0) : entB view op under client sess req oper body = true := by
  cases hx : entB view op under client sess req oper body
  · unfold entE at h
    rw [if_neg (by rw [hx]; simp)] at h
    exact absurd h (by decide)
  · rfl
theorem entS_none {view op under client sess req oper par : Int} {body : ByteArray} (h : entE view op under client sess req oper body ≠ 0) : entS view op under par client sess req oper body = ⟨#[]⟩ := by
  unfold entS
  refine if_neg (fun hb => h ?_)
  exact if_pos hb
set_option linter.unusedVariables false in
set_option maxHeartbeats 8000000 in
theorem epacks_core (view op under client sess req oper par : Int) (body : ByteArray) (w : World) (hpar : 0 ≤ par ∧ par ≤ 18446744073709551615) : Calls Try.prog 9 #[.agg #[.int .i64 view, .int .i64 op, .int .i64 under, .int .u64 par, .int .i64 client, .int .i64 sess, .int .i64 req, .int .i64 oper, .string body]] w fun e w' => e = .returned (.bool true) ∧ Below w.heap.size w w' := by
  obtain ⟨S, hS⟩ : ∃ S, S = entS view op under par client sess req oper body := ⟨_, rfl⟩
  obtain ⟨E, hE⟩ : ∃ E, E = entE view op under client sess req oper body := ⟨_, rfl⟩
  have HP1 := Lib.hid (fun W => epack_any view op under client sess req oper par body hpar W)
  have HP2 := Lib.hid (fun W => repack_any view op under client sess req oper par body hpar W)
  have hsz := entS_size view op under par client sess req oper body
  rw [← hS] at HP1 HP2 hsz
  rw [← hE] at HP1 HP2
  have HSE := Lib.hid (And.intro hS hE)
  clear hS hE
  have HPAR := Lib.hid hpar
  clear hpar
  have H0 := Lib.hid (HS.new w #[.int .i64 view, .int .i64 op, .int .i64 under, .int .u64 par, .int .i64 client, .int .i64 sess, .int .i64 req, .int .i64 oper, .string body] 26)
  go_enter Try.func9, Try.ntmps9
  go_wp2_with fail
  refine (awake09_any _).mono ?_
  rintro e w1 ⟨rfl, hb1⟩
  have H1 := Lib.hid (H0.out.next hb1)
  clear hb1 H0
  have c0 := H1.out.1.2 0 _ rfl
  have c1 := H1.out.1.2 1 _ rfl
  have c2 := H1.out.1.2 2 _ rfl
  have c3 := H1.out.1.2 3 _ rfl
  have c4 := H1.out.1.2 4 _ rfl
  have c5 := H1.out.1.2 5 _ rfl
  have c6 := H1.out.1.2 6 _ rfl
  have c7 := H1.out.1.2 7 _ rfl
  have c8 := H1.out.1.2 8 _ rfl
  go_wp2_with fail
  by_cases hl : 5000 < body.size
  · refine (long_yes _ _ hl).mono ?_
    rintro e w2 ⟨rfl, rfl⟩
    go_wp2_with fail
    go_ret
    exact ⟨rfl, H1.out.2⟩
  refine (long_no _ _ (by omega)).mono ?_
  rintro e w2 ⟨rfl, rfl⟩
  go_wp2_with fail
  refine (HP1.out _).mono ?_
  rintro e w2 ⟨rfl, hb2⟩
  have H2 := Lib.hid (H1.out.next hb2)
  clear c0 c1 c2 c3 c4 c5 c6 c7 c8
  clear hb2 H1
  have c0 := H2.out.1.2 0 _ rfl
  have c1 := H2.out.1.2 1 _ rfl
  have c2 := H2.out.1.2 2 _ rfl
  have c3 := H2.out.1.2 3 _ rfl
  have c4 := H2.out.1.2 4 _ rfl
  have c5 := H2.out.1.2 5 _ rfl
  have c6 := H2.out.1.2 6 _ rfl
  have c7 := H2.out.1.2 7 _ rfl
  have c8 := H2.out.1.2 8 _ rfl
  go_wp2_with fail
  refine (HP2.out _).mono ?_
  rintro e w3 ⟨rfl, hb3⟩
  have H3 := Lib.hid (H2.out.next hb3)
  clear c0 c1 c2 c3 c4 c5 c6 c7 c8
  clear hb3 H2
  obtain ⟨R, hR⟩ : ∃ R, R = entB view op under client sess req oper body := ⟨_, rfl⟩
  have HR1 := Lib.hid (fun W => entright_any view op under par client sess req oper body W)
  have HR2 := Lib.hid (fun W => rright9_any view op under client sess req oper par body W)
  rw [← hR] at HR1 HR2
  clear hR
  go_wp2_with fail
  have l0 : ∀ W, HS w #[.int .i64 view, .int .i64 op, .int .i64 under, .int .u64 par, .int .i64 client, .int .i64 sess, .int .i64 req, .int .i64 oper, .string body] W → W.cell? ⟨w.heap.size, 0, none⟩ = some (.int .i64 view) := fun W h => h.1.2 0 _ rfl
  have l1 : ∀ W, HS w #[.int .i64 view, .int .i64 op, .int .i64 under, .int .u64 par, .int .i64 client, .int .i64 sess, .int .i64 req, .int .i64 oper, .string body] W → W.cell? ⟨w.heap.size, 1, none⟩ = some (.int .i64 op) := fun W h => h.1.2 1 _ rfl
  have l2 : ∀ W, HS w #[.int .i64 view, .int .i64 op, .int .i64 under, .int .u64 par, .int .i64 client, .int .i64 sess, .int .i64 req, .int .i64 oper, .string body] W → W.cell? ⟨w.heap.size, 2, none⟩ = some (.int .i64 under) := fun W h => h.1.2 2 _ rfl
  have l3 : ∀ W, HS w #[.int .i64 view, .int .i64 op, .int .i64 under, .int .u64 par, .int .i64 client, .int .i64 sess, .int .i64 req, .int .i64 oper, .string body] W → W.cell? ⟨w.heap.size, 3, none⟩ = some (.int .u64 par) := fun W h => h.1.2 3 _ rfl
  have l4 : ∀ W, HS w #[.int .i64 view, .int .i64 op, .int .i64 under, .int .u64 par, .int .i64 client, .int .i64 sess, .int .i64 req, .int .i64 oper, .string body] W → W.cell? ⟨w.heap.size, 4, none⟩ = some (.int .i64 client) := fun W h => h.1.2 4 _ rfl
  have l5 : ∀ W, HS w #[.int .i64 view, .int .i64 op, .int .i64 under, .int .u64 par, .int .i64 client, .int .i64 sess, .int .i64 req, .int .i64 oper, .string body] W → W.cell? ⟨w.heap.size, 5, none⟩ = some (.int .i64 sess) := fun W h => h.1.2 5 _ rfl
  have l6 : ∀ W, HS w #[.int .i64 view, .int .i64 op, .int .i64 under, .int .u64 par, .int .i64 client, .int .i64 sess, .int .i64 req, .int .i64 oper, .string body] W → W.cell? ⟨w.heap.size, 6, none⟩ = some (.int .i64 req) := fun W h => h.1.2 6 _ rfl
  have l7 : ∀ W, HS w #[.int .i64 view, .int .i64 op, .int .i64 under, .int .u64 par, .int .i64 client, .int .i64 sess, .int .i64 req, .int .i64 oper, .string body] W → W.cell? ⟨w.heap.size, 7, none⟩ = some (.int .i64 oper) := fun W h => h.1.2 7 _ rfl
  have l8 : ∀ W, HS w #[.int .i64 view, .int .i64 op, .int .i64 under, .int .u64 par, .int .i64 client, .int .i64 sess, .int .i64 req, .int .i64 oper, .string body] W → W.cell? ⟨w.heap.size, 8, none⟩ = some (.string body) := fun W h => h.1.2 8 _ rfl
  have hs1 : (S.toList != S.toList) = false := by simp
  have he1 : (E != E) = false := by simp
  go_region_held3 (HS w #[.int .i64 view, .int .i64 op, .int .i64 under, .int .u64 par, .int .i64 client, .int .i64 sess, .int .i64 req, .int .i64 oper, .string body]) (first | exact H3.out.drew | exact HS.next (by assumption) hbx) ((first | (go_at_call 14; refine (HR1.out _).mono ?_; rintro e wx ⟨rfl, hbx⟩) | (go_at_call 30; refine (HR2.out _).mono ?_; rintro e wx ⟨rfl, hbx⟩)))
  all_goals
    have HX := Lib.hid (show HS w #[.int .i64 view, .int .i64 op, .int .i64 under, .int .u64 par, .int .i64 client, .int .i64 sess, .int .i64 req, .int .i64 oper, .string body] _ by assumption)
    clear l0 l1 l2 l3 l4 l5 l6 l7 l8
    by_cases hE : E = 0
    rotate_left
    · have hS0 : S.toList.isEmpty = true := by
        rw [HSE.out.1, entS_none (by rw [← HSE.out.2]; exact hE), toList_data]; rfl
      have hE2 : (E != 0) = true := by simp [hE]
      clear hE
      go_wp2_with fail
      go_ret
      exact ⟨ret_bool (by simp), HX.out.2⟩
    · subst hE
      have hup := ue_packed view op under client sess req oper par body HPAR.out (entE_zero HSE.out.2.symm) S HSE.out.1
      have HU : Hid (∀ W, Calls Try.prog 26 #[.string S] W fun e w' => e = .returned (.tuple #[.agg #[.int .i64 view, .int .i64 op, .int .i64 under, .int .u64 par, .int .i64 client, .int .i64 sess, .int .i64 req, .int .i64 oper, .string body], .int .i64 0]) ∧ Below W.heap.size W w') := Lib.hid (fun W => (eunpack_any S W (by omega)).mono (by
        rintro e w' ⟨rfl, hb⟩
        exact ⟨by rw [if_pos hup.1, hup.2.1], hb⟩))
      have hz : (S.size : Int) ≤ 376 := by omega
      clear hup
      go_wp2_with fail
      refine (HU.out _).mono ?_
      rintro e w9 ⟨rfl, hb9⟩
      have H9 := Lib.hid (HX.out.next hb9)
      clear HX hb9
      have c0 := H9.out.1.2 0 _ rfl
      have c1 := H9.out.1.2 1 _ rfl
      have c2 := H9.out.1.2 2 _ rfl
      have c3 := H9.out.1.2 3 _ rfl
      have c4 := H9.out.1.2 4 _ rfl
      have c5 := H9.out.1.2 5 _ rfl
      have c6 := H9.out.1.2 6 _ rfl
      have c7 := H9.out.1.2 7 _ rfl
      have c8 := H9.out.1.2 8 _ rfl
      have hlt9 := H9.out.1.1
      go_wp2_with fail
      go_ret
      exact ⟨ret_bool (by simp), H9.out.2.alloc H9.out.2.size _⟩
set_option linter.unusedVariables false in
set_option maxHeartbeats 8000000 in
theorem eturns_core (view op under client sess req oper par : Int) (body : ByteArray) (at_ : Int) (mask : Nat) (w : World) (hpar : 0 ≤ par ∧ par ≤ 18446744073709551615) (hat : -9223372036854775808 ≤ at_ ∧ at_ ≤ 9223372036854775807) (hm : mask < 256) : Calls Try.prog 10 #[.agg #[.int .i64 view, .int .i64 op, .int .i64 under, .int .u64 par, .int .i64 client, .int .i64 sess, .int .i64 req, .int .i64 oper, .string body], .int .i64 at_, .int .u8 mask] w fun e w' => e = .returned (.bool true) ∧ Below w.heap.size w w' := by
  obtain ⟨S, hS⟩ : ∃ S, S = entS view op under par client sess req oper body := ⟨_, rfl⟩
  obtain ⟨E, hE⟩ : ∃ E, E = entE view op under client sess req oper body := ⟨_, rfl⟩
  have HP1 := Lib.hid (fun W => epack_any view op under client sess req oper par body hpar W)
  have HP2 := Lib.hid (fun W => repack_any view op under client sess req oper par body hpar W)
  have hsz := entS_size view op under par client sess req oper body
  rw [← hS] at HP1 HP2 hsz
  rw [← hE] at HP1 HP2
  have HSE := Lib.hid (And.intro hS hE)
  clear hS hE
  have HPAR := Lib.hid hpar
  clear hpar
  have hcv := fun (W : World) (s : ByteArray) => run_bytes_of_string (P := Try.prog) W 9 44 5 s Try.underlying9 Try.underlying44 Try.underlying5
  have HCV := Lib.hid hcv
  clear hcv
  have H0 := Lib.hid (HS.new w #[.int .i64 view, .int .i64 op, .int .i64 under, .int .u64 par, .int .i64 client, .int .i64 sess, .int .i64 req, .int .i64 oper, .string body] 26)
  go_enter Try.func10, Try.ntmps10
  go_wp2_with fail
  refine (awake09_any _).mono ?_
  rintro e w1 ⟨rfl, hb1⟩
  have H1 := Lib.hid (H0.out.next hb1)
  clear hb1 H0
  have c0 := H1.out.1.2 0 _ rfl
  have c1 := H1.out.1.2 1 _ rfl
  have c2 := H1.out.1.2 2 _ rfl
  have c3 := H1.out.1.2 3 _ rfl
  have c4 := H1.out.1.2 4 _ rfl
  have c5 := H1.out.1.2 5 _ rfl
  have c6 := H1.out.1.2 6 _ rfl
  have c7 := H1.out.1.2 7 _ rfl
  have c8 := H1.out.1.2 8 _ rfl
  go_wp2_with fail
  by_cases hl : 5000 < body.size
  · refine (long_yes _ _ hl).mono ?_
    rintro e w2 ⟨rfl, rfl⟩
    go_wp2_with fail
    go_ret
    exact ⟨rfl, H1.out.2⟩
  refine (long_no _ _ (by omega)).mono ?_
  rintro e w2 ⟨rfl, rfl⟩
  go_wp2_with fail
  refine (HP1.out _).mono ?_
  rintro e w2 ⟨rfl, hb2⟩
  have H2 := Lib.hid (H1.out.next hb2)
  clear c0 c1 c2 c3 c4 c5 c6 c7 c8
  clear hb2 H1
  by_cases hE : E = 0
  rotate_left
  · have hS0 : S.toList.isEmpty = true := by
      rw [HSE.out.1, entS_none (by rw [← HSE.out.2]; exact hE), toList_data]; rfl
    have hE2 : (E != 0) = true := by simp [hE]
    clear hE
    go_wp2_with fail
    go_ret
    exact ⟨ret_bool (by simp), H2.out.2⟩
  subst hE
  have hup := ue_packed view op under client sess req oper par body HPAR.out (entE_zero HSE.out.2.symm) S HSE.out.1
  have HG : Hid (Good (nats S)) := Lib.hid (unOk_good (of_decide_eq_true hup.1).1)
  have HUP := Lib.hid hup.1
  have hz : 128 ≤ S.size := by omega
  clear hup
  obtain ⟨t, htl, ht⟩ := at_idx at_ S.size (by omega) (by omega)
  obtain ⟨x, hx⟩ : ∃ x, x = (nats S).getD t 0 := ⟨_, rfl⟩
  have hxg : (nats S)[t]? = some x := by rw [hx, List.getD_eq_getElem?_getD, List.getElem?_eq_getElem (by rw [nats_length]; exact htl)]; rfl
  have hx8 : x < 256 := nats_lt S x (List.mem_of_getElem? hxg)
  obtain ⟨y, hy⟩ : ∃ y, y = x ^^^ mask := ⟨_, rfl⟩
  have hy8 : y < 256 := by rw [hy]; exact Nat.xor_lt_two_pow (n := 8) hx8 hm
  have hbits : bits BinOp.xor IntKind.u8 (x : Int) (mask : Int) = (y : Int) := by rw [xor_u8 x mask hx8 hm, hy]
  obtain ⟨L, hL⟩ : ∃ L, L = (nats S).set t y := ⟨_, rfl⟩
  have hL8 : ∀ b ∈ L, b < 256 := by
    intro b hb
    rw [hL] at hb
    rcases List.mem_or_eq_of_mem_set hb with h | h
    · exact nats_lt S b h
    · rw [h]; exact hy8
  have hLn : L.length = S.size := by rw [hL, List.length_set, nats_length]
  have HB : ∀ gc m, BB (w2.alloc (.cells (bytesRow S gc) 5 ((bytesRow S gc).size, m))) w2.heap.size (nats S) := fun gc m => bb_row w2 S gc _ m
  have hcell : ∀ gc m, (w2.alloc (.cells (bytesRow S gc) 5 ((bytesRow S gc).size, m))).cell? ⟨w2.heap.size, t, none⟩ = some (.int .u8 x) := fun gc m => (HB gc m t x hxg).1
  have hfro : ∀ gc m, (w2.alloc (.cells (bytesRow S gc) 5 ((bytesRow S gc).size, m))).frozen? ⟨w2.heap.size, t, none⟩ = false := fun gc m => (HB gc m t x hxg).2
  have hrt : ∀ gc m, (convert 44 9 (.slice (some ⟨w2.heap.size, 0, none⟩) S.size gc)).run Try.prog ((w2.alloc (.cells (bytesRow S gc) 5 ((bytesRow S gc).size, m))).setCell ⟨w2.heap.size, t, none⟩ (.int .u8 y)).drew = .ok (.string (text L)) ((w2.alloc (.cells (bytesRow S gc) 5 ((bytesRow S gc).size, m))).setCell ⟨w2.heap.size, t, none⟩ (.int .u8 y)).drew := by
    intro gc m
    refine run_text _ _ _ _ L ?_
    have := (((HB gc m).set_ t y).drew).holds (by rw [← hL]; exact hL8) S.size gc (by rw [← hL, hLn]; exact Nat.le_refl _)
    rw [← hL, List.take_of_length_le (by rw [hLn]; exact Nat.le_refl _)] at this
    exact this
  have HB2 : Hid (∀ gc m, Below w.heap.size w ((w2.alloc (.cells (bytesRow S gc) 5 ((bytesRow S gc).size, m))).setCell ⟨w2.heap.size, t, none⟩ (.int .u8 y)).drew) := Lib.hid (fun gc m => (H2.out.2.trans ((((Below.refl _ _).alloc (Nat.le_refl _) _).setCell (p := ⟨w2.heap.size, t, none⟩) (Nat.le_refl _) _).mono H2.out.2.size)).drew)
  obtain ⟨z0, z1, z2, z3, z4, z5, z6, z7, B, F, HC1, _, hyes, hno⟩ := ue_res (text L) (by rw [text_size, hLn]; omega)
  have hres : (mask = 0 ∧ F = 0) ∨ (mask ≠ 0 ∧ F = 4) := by
    by_cases hm0 : mask = 0
    · have e : text L = S := by
        rw [hL, hy, hm0, Nat.xor_zero]
        have : (nats S).set t x = nats S := List.set_getElem?_self_of hxg
        rw [this, text_nats]
      exact .inl ⟨hm0, (hyes (by rw [e]; exact HUP.out)).1⟩
    · refine .inr ⟨hm0, hno ?_⟩
      have hbad : unOk (text L) = false := by
        refine not_ok ?_
        rw [nats_text L hL8, hL]
        have hlt : t < (nats S).length := by rw [nats_length]; exact htl
        refine good_turn HG.out t y hlt hy8 ?_
        have : (nats S)[t] = x := by rw [List.getElem?_eq_getElem hlt] at hxg; exact Option.some.inj hxg
        rw [this, hy]
        exact xor_self_ne hm0
      refine decide_eq_false (fun h => ?_)
      rw [hbad] at h
      exact absurd h.1 (by simp)
  have HRES := Lib.hid hres
  have htl' : (t : Int) < S.size := by omega
  clear HB hxg hy hL hL8 hLn hx hyes hno hres
  have hcv := fun (W : World) => HCV.out W S
  go_wp2_with fail
  refine (HC1.out _).mono ?_
  rintro e w4 ⟨rfl, hb4⟩
  have B4 := Lib.hid ((HB2.out _ _).trans (hb4.mono (HB2.out _ _).size))
  clear hb4 hcell hfro hrt hcv HB2
  rcases HRES.out with ⟨hm0, hF⟩ | ⟨hm0, hF⟩
  · subst hm0 hF
    go_wp2_with fail
    go_ret
    exact ⟨ret_bool (by simp), B4.out.alloc B4.out.size _⟩
  · have hmz : ((mask : Int) == 0) = false := by simp [hm0]
    subst hF
    clear hm0
    go_wp2_with fail
    go_ret
    exact ⟨ret_bool (by simp), B4.out.alloc B4.out.size _⟩
end Go.Proofs.Ytmebodjofcomlaa

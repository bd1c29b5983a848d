/- Unpack at any bytes; the reference's Pack at any header; the walk of HeadPacks. -/
import Derived.Test.YtmebodjofcomlaaUnA
import Derived.Test.YtmebodjofcomlaaRefB
import Derived.Test.YtmebodjofcomlaaHeadC
import Derived.Deep.RegionHeld3
namespace Go.Proofs.Ytmebodjofcomlaa
open Go.RowKit
theorem unpack_any (s : ByteArray) (w : World) (hl : s.size ≤ 140737488355328) : Calls Try.prog 22 #[.string s] w (UnPost s w) := by
  by_cases h : 128 ≤ s.size
  · exact unpack_try s w h hl
  · have HY := Lib.hid (show unOk s = false from decide_eq_false (fun q => h q.1))
    have h' : (s.size : Int) < 128 := by omega
    clear h
    go_enter Try.func22, Try.ntmps22
    go_wp2
    exact bodyPost_ret (v := .tuple #[.agg #[.int .i64 0, .int .i64 0, .int .i64 0, .int .i64 0, .int .i64 0, .int .i64 0, .int .i64 0, .int .i64 0, .int .i64 0, .int .i64 0, .int .i64 0, .int .u64 0], .string ⟨#[]⟩, .int .i64 4]) (by simp [results, Try.results22, go_sem]) rfl (UnPost.no HY.out ((Below.refl _ _).alloc (Nat.le_refl _) _))
theorem rpack_any (k f o v p c cl se rq a b par : Int) (body : ByteArray) (hpar : 0 ≤ par ∧ par ≤ 18446744073709551615) (w : World) :
    Calls Try.prog 19 #[.agg #[.int .i64 k, .int .i64 f, .int .i64 o, .int .i64 v, .int .i64 p, .int .i64 c, .int .i64 cl, .int .i64 se, .int .i64 rq, .int .i64 a, .int .i64 b, .int .u64 par], .string body] w fun e w' =>
      e = .returned (.tuple #[.string (packS k f o v p c cl se rq a b par body), .int .i64 (packE k f o v p c cl se rq a b body)]) ∧ Below w.heap.size w w' := by
  cases hh : headB k f o v p c cl se rq a b
  · have e1 : packS k f o v p c cl se rq a b par body = ⟨#[]⟩ := if_neg (by rw [hh]; simp)
    have e2 : packE k f o v p c cl se rq a b body = 4 := if_neg (by rw [hh]; simp)
    rw [e1, e2]
    exact rpack_form _ _ _ _ _ _ _ _ _ _ _ _ _ _ hh
  · by_cases hl : body.size ≤ 3968
    · have e1 : packS k f o v p c cl se rq a b par body = text (packL k.toNat f.toNat o.toNat [v.toNat, p.toNat, c.toNat, cl.toNat, se.toNat, rq.toNat, a.toNat, b.toNat] par.toNat (nats body)) := if_pos ⟨hh, hl⟩
      have e2 : packE k f o v p c cl se rq a b body = 0 := by unfold packE; rw [if_pos hh, if_pos hl]
      rw [e1, e2]
      obtain ⟨k', f', o', v', p', c', cl', se', rq', a', b', rfl, rfl, rfl, rfl, rfl, rfl, rfl, rfl, rfl, rfl, rfl⟩ := headB_nat hh
      obtain ⟨par', rfl⟩ : ∃ n : Nat, par = n := ⟨par.toNat, by omega⟩
      simp only [Int.toNat_natCast]
      exact rpack_ok _ _ _ _ _ _ _ _ _ _ _ _ _ _ hh hl (by omega)
    · have e1 : packS k f o v p c cl se rq a b par body = ⟨#[]⟩ := if_neg (fun h => hl h.2)
      have e2 : packE k f o v p c cl se rq a b body = 5 := by unfold packE; rw [if_pos hh, if_neg hl]
      rw [e1, e2]
      exact rpack_long _ _ _ _ _ _ _ _ _ _ _ _ _ _ hh (by omega)
theorem packS_none {k f o v p c cl se rq a b par : Int} {body : ByteArray} (h : packE k f o v p c cl se rq a b body ≠ 0) : packS k f o v p c cl se rq a b par body = ⟨#[]⟩ := by
  unfold packS packE at *
  by_cases h1 : headB k f o v p c cl se rq a b = true
  · by_cases h2 : body.size ≤ 3968
    · rw [if_pos h1, if_pos h2] at h; exact absurd rfl h
    · rw [if_neg (fun q => h2 q.2)]
  · rw [if_neg (fun q => h1 q.1)]
theorem packS_size {k f o v p c cl se rq a b par : Int} {body : ByteArray} : (packS k f o v p c cl se rq a b par body).size ≤ 128 + 3968 := by
  unfold packS
  split
  · next h => rw [text_size, packL_length, nats_length]; omega
  · decide
theorem unpack_packed (k f o v p c cl se rq a b par : Int) (body : ByteArray) (hpar : 0 ≤ par ∧ par ≤ 18446744073709551615) (h1 : packE k f o v p c cl se rq a b body = 0) (s : ByteArray) (hs : s = packS k f o v p c cl se rq a b par body) (W : World) :
    Calls Try.prog 22 #[.string s] W fun e w' => e = .returned (.tuple #[.agg #[.int .i64 k, .int .i64 f, .int .i64 o, .int .i64 v, .int .i64 p, .int .i64 c, .int .i64 cl, .int .i64 se, .int .i64 rq, .int .i64 a, .int .i64 b, .int .u64 par], .string body, .int .i64 0]) ∧ Below W.heap.size W w' := by
  obtain ⟨u1, u2, _, ⟨e0, e1, e2⟩, e3, e4, e5, e6, e7, e8, e9, e10, e11⟩ := un_back hpar h1 hs
  refine (unpack_any s W (by have : s.size ≤ 128 + 3968 := (by rw [hs]; exact packS_size); omega)).mono ?_
  rintro e w' ⟨rfl, hb⟩
  refine ⟨?_, hb⟩
  rw [if_pos u1, u2]
  have hh : unHdr (nats s) 8 = #[.int .i64 k, .int .i64 f, .int .i64 o, .int .i64 v, .int .i64 p, .int .i64 c, .int .i64 cl, .int .i64 se, .int .i64 rq, .int .i64 a, .int .i64 b, .int .u64 par] := by
    rw [← e0, ← e1, ← e2, ← e3, ← e4, ← e5, ← e6, ← e7, ← e8, ← e9, ← e10, ← e11]; rfl
  rw [hh]
/-- The header that the law keeps, and nothing older turned. -/
def HS (w : World) (cs : Array Value) (W : World) : Prop := Row W w.heap.size cs ∧ Below w.heap.size w W
theorem HS.next {w W W' : World} {cs : Array Value} (h : HS w cs W) (hb : Below W.heap.size W W') : HS w cs W' := ⟨h.1.below hb h.1.1, h.2.trans (hb.mono h.2.size)⟩
theorem HS.drew {w W : World} {cs : Array Value} (h : HS w cs W) : HS w cs W.drew := ⟨h.1, h.2.drew⟩
theorem HS.new (w : World) (cs : Array Value) (t : TypeId) : HS w cs (w.alloc (.cells cs t)) := ⟨Row.new w _ _ _ rfl, (Below.refl _ _).alloc (Nat.le_refl _) _⟩
set_option linter.unusedVariables false in
set_option maxHeartbeats 4000000 in
theorem packs_long (k f o v p c cl se rq a b par : Int) (body : ByteArray) (w : World) (hl : 5000 < body.size) :
    Calls Try.prog 5 #[.agg #[.int .i64 k, .int .i64 f, .int .i64 o, .int .i64 v, .int .i64 p, .int .i64 c, .int .i64 cl, .int .i64 se, .int .i64 rq, .int .i64 a, .int .i64 b, .int .u64 par], .string body] w fun e w' => e = .returned (.bool true) ∧ Below w.heap.size w w' := by
  have H0 := Lib.hid (HS.new w #[.int .i64 k, .int .i64 f, .int .i64 o, .int .i64 v, .int .i64 p, .int .i64 c, .int .i64 cl, .int .i64 se, .int .i64 rq, .int .i64 a, .int .i64 b, .int .u64 par] 34)
  go_enter Try.func5, Try.ntmps5
  go_wp2_with fail
  refine (awake05_any _).mono ?_
  rintro e w1 ⟨rfl, hb1⟩
  have H1 := Lib.hid (H0.out.next hb1)
  clear hb1 H0
  go_wp2_with fail
  refine (long05_yes _ _ hl).mono ?_
  rintro e w2 ⟨rfl, rfl⟩
  go_wp2_with fail
  go_ret
  exact ⟨rfl, H1.out.2⟩
set_option linter.unusedVariables false in
set_option maxHeartbeats 8000000 in
theorem packs_core (k f o v p c cl se rq a b par : Int) (body : ByteArray) (w : World) (hl : body.size ≤ 5000) (hpar : 0 ≤ par ∧ par ≤ 18446744073709551615) :
    Calls Try.prog 5 #[.agg #[.int .i64 k, .int .i64 f, .int .i64 o, .int .i64 v, .int .i64 p, .int .i64 c, .int .i64 cl, .int .i64 se, .int .i64 rq, .int .i64 a, .int .i64 b, .int .u64 par], .string body] w fun e w' => e = .returned (.bool true) ∧ Below w.heap.size w w' := by
  have HPAR := Lib.hid hpar
  clear hpar
  have H0 := Lib.hid (HS.new w #[.int .i64 k, .int .i64 f, .int .i64 o, .int .i64 v, .int .i64 p, .int .i64 c, .int .i64 cl, .int .i64 se, .int .i64 rq, .int .i64 a, .int .i64 b, .int .u64 par] 34)
  go_enter Try.func5, Try.ntmps5
  go_wp2_with fail
  refine (awake05_any _).mono ?_
  rintro e w1 ⟨rfl, hb1⟩
  have H1 := Lib.hid (H0.out.next hb1)
  clear hb1 H0
  go_wp2_with fail
  refine (long05_no _ _ hl).mono ?_
  rintro e w2 ⟨rfl, rfl⟩
  have c0 := H1.out.1.2 0 _ rfl
  have c1 := H1.out.1.2 1 _ rfl
  have c2 := H1.out.1.2 2 _ rfl
  have c3 := H1.out.1.2 3 _ rfl
  have c4 := H1.out.1.2 4 _ rfl
  have c5 := H1.out.1.2 5 _ rfl
  have c6 := H1.out.1.2 6 _ rfl
  have c7 := H1.out.1.2 7 _ rfl
  have c8 := H1.out.1.2 8 _ rfl
  have c9 := H1.out.1.2 9 _ rfl
  have c10 := H1.out.1.2 10 _ rfl
  have c11 := H1.out.1.2 11 _ rfl
  go_wp2_with fail
  refine (pack_any k f o v p c cl se rq a b par body HPAR.out _).mono ?_
  rintro e w2 ⟨rfl, hb2⟩
  have H2 := Lib.hid (H1.out.next hb2)
  clear c0 c1 c2 c3 c4 c5 c6 c7 c8 c9 c10 c11
  clear hb2 H1
  have c0 := H2.out.1.2 0 _ rfl
  have c1 := H2.out.1.2 1 _ rfl
  have c2 := H2.out.1.2 2 _ rfl
  have c3 := H2.out.1.2 3 _ rfl
  have c4 := H2.out.1.2 4 _ rfl
  have c5 := H2.out.1.2 5 _ rfl
  have c6 := H2.out.1.2 6 _ rfl
  have c7 := H2.out.1.2 7 _ rfl
  have c8 := H2.out.1.2 8 _ rfl
  have c9 := H2.out.1.2 9 _ rfl
  have c10 := H2.out.1.2 10 _ rfl
  have c11 := H2.out.1.2 11 _ rfl
  go_wp2_with fail
  refine (rpack_any k f o v p c cl se rq a b par body HPAR.out _).mono ?_
  rintro e w3 ⟨rfl, hb3⟩
  have H3 := Lib.hid (H2.out.next hb3)
  clear c0 c1 c2 c3 c4 c5 c6 c7 c8 c9 c10 c11
  clear hb3 H2
  obtain ⟨S, hS⟩ : ∃ S, S = packS k f o v p c cl se rq a b par body := ⟨_, rfl⟩
  obtain ⟨E, hE⟩ : ∃ E, E = packE k f o v p c cl se rq a b body := ⟨_, rfl⟩
  rw [← hS, ← hE]
  have HSE := Lib.hid (And.intro hS hE)
  clear hS hE
  obtain ⟨R, hR⟩ : ∃ R, R = headB k f o v p c cl se rq a b := ⟨_, rfl⟩
  have HR := Lib.hid hR
  clear hR
  have HR1 := Lib.hid (fun W => right_any k f o v p c cl se rq a b par W)
  have HR2 := Lib.hid (fun W => refright_any k f o v p c cl se rq a b par W)
  rw [← HR.out] at HR1 HR2
  go_wp2_with fail
  have l0 : ∀ W, HS w #[.int .i64 k, .int .i64 f, .int .i64 o, .int .i64 v, .int .i64 p, .int .i64 c, .int .i64 cl, .int .i64 se, .int .i64 rq, .int .i64 a, .int .i64 b, .int .u64 par] W → W.cell? ⟨w.heap.size, 0, none⟩ = some (.int .i64 k) := fun W h => h.1.2 0 _ rfl
  have l1 : ∀ W, HS w #[.int .i64 k, .int .i64 f, .int .i64 o, .int .i64 v, .int .i64 p, .int .i64 c, .int .i64 cl, .int .i64 se, .int .i64 rq, .int .i64 a, .int .i64 b, .int .u64 par] W → W.cell? ⟨w.heap.size, 1, none⟩ = some (.int .i64 f) := fun W h => h.1.2 1 _ rfl
  have l2 : ∀ W, HS w #[.int .i64 k, .int .i64 f, .int .i64 o, .int .i64 v, .int .i64 p, .int .i64 c, .int .i64 cl, .int .i64 se, .int .i64 rq, .int .i64 a, .int .i64 b, .int .u64 par] W → W.cell? ⟨w.heap.size, 2, none⟩ = some (.int .i64 o) := fun W h => h.1.2 2 _ rfl
  have l3 : ∀ W, HS w #[.int .i64 k, .int .i64 f, .int .i64 o, .int .i64 v, .int .i64 p, .int .i64 c, .int .i64 cl, .int .i64 se, .int .i64 rq, .int .i64 a, .int .i64 b, .int .u64 par] W → W.cell? ⟨w.heap.size, 3, none⟩ = some (.int .i64 v) := fun W h => h.1.2 3 _ rfl
  have l4 : ∀ W, HS w #[.int .i64 k, .int .i64 f, .int .i64 o, .int .i64 v, .int .i64 p, .int .i64 c, .int .i64 cl, .int .i64 se, .int .i64 rq, .int .i64 a, .int .i64 b, .int .u64 par] W → W.cell? ⟨w.heap.size, 4, none⟩ = some (.int .i64 p) := fun W h => h.1.2 4 _ rfl
  have l5 : ∀ W, HS w #[.int .i64 k, .int .i64 f, .int .i64 o, .int .i64 v, .int .i64 p, .int .i64 c, .int .i64 cl, .int .i64 se, .int .i64 rq, .int .i64 a, .int .i64 b, .int .u64 par] W → W.cell? ⟨w.heap.size, 5, none⟩ = some (.int .i64 c) := fun W h => h.1.2 5 _ rfl
  have l6 : ∀ W, HS w #[.int .i64 k, .int .i64 f, .int .i64 o, .int .i64 v, .int .i64 p, .int .i64 c, .int .i64 cl, .int .i64 se, .int .i64 rq, .int .i64 a, .int .i64 b, .int .u64 par] W → W.cell? ⟨w.heap.size, 6, none⟩ = some (.int .i64 cl) := fun W h => h.1.2 6 _ rfl
  have l7 : ∀ W, HS w #[.int .i64 k, .int .i64 f, .int .i64 o, .int .i64 v, .int .i64 p, .int .i64 c, .int .i64 cl, .int .i64 se, .int .i64 rq, .int .i64 a, .int .i64 b, .int .u64 par] W → W.cell? ⟨w.heap.size, 7, none⟩ = some (.int .i64 se) := fun W h => h.1.2 7 _ rfl
  have l8 : ∀ W, HS w #[.int .i64 k, .int .i64 f, .int .i64 o, .int .i64 v, .int .i64 p, .int .i64 c, .int .i64 cl, .int .i64 se, .int .i64 rq, .int .i64 a, .int .i64 b, .int .u64 par] W → W.cell? ⟨w.heap.size, 8, none⟩ = some (.int .i64 rq) := fun W h => h.1.2 8 _ rfl
  have l9 : ∀ W, HS w #[.int .i64 k, .int .i64 f, .int .i64 o, .int .i64 v, .int .i64 p, .int .i64 c, .int .i64 cl, .int .i64 se, .int .i64 rq, .int .i64 a, .int .i64 b, .int .u64 par] W → W.cell? ⟨w.heap.size, 9, none⟩ = some (.int .i64 a) := fun W h => h.1.2 9 _ rfl
  have l10 : ∀ W, HS w #[.int .i64 k, .int .i64 f, .int .i64 o, .int .i64 v, .int .i64 p, .int .i64 c, .int .i64 cl, .int .i64 se, .int .i64 rq, .int .i64 a, .int .i64 b, .int .u64 par] W → W.cell? ⟨w.heap.size, 10, none⟩ = some (.int .i64 b) := fun W h => h.1.2 10 _ rfl
  have l11 : ∀ W, HS w #[.int .i64 k, .int .i64 f, .int .i64 o, .int .i64 v, .int .i64 p, .int .i64 c, .int .i64 cl, .int .i64 se, .int .i64 rq, .int .i64 a, .int .i64 b, .int .u64 par] W → W.cell? ⟨w.heap.size, 11, none⟩ = some (.int .u64 par) := fun W h => h.1.2 11 _ rfl
  have hs1 : (S.toList != S.toList) = false := by simp
  have he1 : (E != E) = false := by simp
  go_region_held3 (HS w #[.int .i64 k, .int .i64 f, .int .i64 o, .int .i64 v, .int .i64 p, .int .i64 c, .int .i64 cl, .int .i64 se, .int .i64 rq, .int .i64 a, .int .i64 b, .int .u64 par]) (first | exact H3.out.drew | exact HS.next (by assumption) hbx) ((first | (go_at_call 20; refine (HR1.out _).mono ?_; rintro e wx ⟨rfl, hbx⟩) | (go_at_call 21; refine (HR2.out _).mono ?_; rintro e wx ⟨rfl, hbx⟩)))
  all_goals
    have HX := Lib.hid (show HS w #[.int .i64 k, .int .i64 f, .int .i64 o, .int .i64 v, .int .i64 p, .int .i64 c, .int .i64 cl, .int .i64 se, .int .i64 rq, .int .i64 a, .int .i64 b, .int .u64 par] _ by assumption)
    clear l0 l1 l2 l3 l4 l5 l6 l7 l8 l9 l10 l11
    by_cases hE : E = 0
    rotate_left
    · have hS0 : S.toList.isEmpty = true := by
        rw [HSE.out.1, packS_none (by rw [← HSE.out.2]; exact hE), toList_data]; rfl
      have hE2 : (E != 0) = true := by simp [hE]
      clear hE
      go_wp2_with fail
      go_ret
      exact ⟨ret_bool (by simp), HX.out.2⟩
    · subst hE
      have HU := Lib.hid (fun W => unpack_packed k f o v p c cl se rq a b par body HPAR.out HSE.out.2.symm S HSE.out.1 W)
      have hz : (S.size : Int) = 128 + (body.size : Int) := by
        have := (un_back HPAR.out HSE.out.2.symm HSE.out.1).2.2.1
        omega
      have hz := by rw [← beq_iff_eq] at hz; exact hz
      go_wp2_with fail
      refine (HU.out _).mono ?_
      rintro e w9 ⟨rfl, hb9⟩
      have H9 := Lib.hid (HX.out.next hb9)
      clear HX hb9
      have c0 := H9.out.1.2 0 _ rfl
      have c1 := H9.out.1.2 1 _ rfl
      have c2 := H9.out.1.2 2 _ rfl
      have c3 := H9.out.1.2 3 _ rfl
      have c4 := H9.out.1.2 4 _ rfl
      have c5 := H9.out.1.2 5 _ rfl
      have c6 := H9.out.1.2 6 _ rfl
      have c7 := H9.out.1.2 7 _ rfl
      have c8 := H9.out.1.2 8 _ rfl
      have c9 := H9.out.1.2 9 _ rfl
      have c10 := H9.out.1.2 10 _ rfl
      have c11 := H9.out.1.2 11 _ rfl
      have hlt9 := H9.out.1.1
      go_wp2_with fail
      go_ret
      exact ⟨ret_bool (by simp), H9.out.2.alloc H9.out.2.size _⟩
end Go.Proofs.Ytmebodjofcomlaa

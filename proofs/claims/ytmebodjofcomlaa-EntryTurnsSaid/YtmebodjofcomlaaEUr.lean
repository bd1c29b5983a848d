/- The reference's entry: bytes that are one's, or none's. -/
import Derived.Test.YtmebodjofcomlaaEUn
namespace Go.Proofs.Ytmebodjofcomlaa
open Go.RowKit
theorem runpack_any (s : ByteArray) (w : World) (hl : s.size ≤ 140737488355328) : Calls Try.prog 43 #[.string s] w (UnPost s w) := by
  by_cases h : 128 ≤ s.size
  · exact runpack_try s w h hl
  · have HY := Lib.hid (show unOk s = false from decide_eq_false (fun q => h q.1))
    have h' : (s.size : Int) < 128 := by omega
    clear h
    go_enter Try.func43, Try.ntmps43
    go_wp2
    exact bodyPost_ret (v := .tuple #[.agg #[.int .i64 0, .int .i64 0, .int .i64 0, .int .i64 0, .int .i64 0, .int .i64 0, .int .i64 0, .int .i64 0, .int .i64 0, .int .i64 0, .int .i64 0, .int .u64 0], .string ⟨#[]⟩, .int .i64 4]) (by simp [results, Try.results43, go_sem]) rfl (UnPost.no HY.out ((Below.refl _ _).alloc (Nat.le_refl _) _))
set_option linter.unusedVariables false in
set_option maxHeartbeats 8000000 in
theorem reunpack_no (s : ByteArray) (w : World) (hl : s.size ≤ 140737488355328) (hok : unOk s = false) : Calls Try.prog 27 #[.string s] w (UePost s w) := by
  have HY : Hid (ueOk s = false) := Lib.hid (decide_eq_false (fun h => by rw [hok] at h; exact absurd h.1 (by simp)))
  have HU : Hid (∀ W, Calls Try.prog 43 #[.string s] W fun e w' => e = .returned (.tuple #[.agg #[.int .i64 0, .int .i64 0, .int .i64 0, .int .i64 0, .int .i64 0, .int .i64 0, .int .i64 0, .int .i64 0, .int .i64 0, .int .i64 0, .int .i64 0, .int .u64 0], .string ⟨#[]⟩, .int .i64 4]) ∧ Below W.heap.size W w') := Lib.hid (fun W => by
    refine (runpack_any s W hl).mono ?_
    rintro e w' ⟨rfl, hb⟩
    exact ⟨by rw [if_neg (by rw [hok]; simp)], hb⟩)
  clear hok
  have H0 := Lib.hid (BQ.new w 26)
  go_enter Try.func27, Try.ntmps27
  go_wp2_with fail
  refine (HU.out _).mono ?_
  rintro e w1 ⟨rfl, hb1⟩
  have H1 := Lib.hid (H0.out.next hb1)
  clear hb1 H0
  have hlt := H1.out.1.1
  have H2 := Lib.hid (H1.out.next ((Below.refl _ _).alloc (Nat.le_refl _) (.cells #[.int .i64 0, .int .i64 0, .int .i64 0, .int .i64 0, .int .i64 0, .int .i64 0, .int .i64 0, .int .i64 0, .int .i64 0, .int .i64 0, .int .i64 0, .int .u64 0] 34)))
  obtain ⟨r0, f0⟩ := H1.out.1.2 0 _ rfl
  obtain ⟨r1, f1⟩ := H1.out.1.2 1 _ rfl
  obtain ⟨r2, f2⟩ := H1.out.1.2 2 _ rfl
  obtain ⟨r3, f3⟩ := H1.out.1.2 3 _ rfl
  obtain ⟨r4, f4⟩ := H1.out.1.2 4 _ rfl
  obtain ⟨r5, f5⟩ := H1.out.1.2 5 _ rfl
  obtain ⟨r6, f6⟩ := H1.out.1.2 6 _ rfl
  obtain ⟨r7, f7⟩ := H1.out.1.2 7 _ rfl
  obtain ⟨r8, f8⟩ := H1.out.1.2 8 _ rfl
  go_wp2_with fail
  clear r0 f0 r1 f1 r2 f2 r3 f3 r4 f4 r5 f5 r6 f6 r7 f7 r8 f8
  have HB := Lib.hid (And.intro ((((((((((H1.out.1.set_ 0 (.int .i64 0)).set_ 1 (.int .i64 0)).set_ 2 (.int .i64 0)).set_ 3 (.int .u64 0)).set_ 4 (.int .i64 0)).set_ 5 (.int .i64 0)).set_ 6 (.int .i64 0)).set_ 7 (.int .i64 0)).set_ 8 (.string ⟨#[]⟩)).alloc (.cells #[.int .i64 0, .int .i64 0, .int .i64 0, .int .i64 0, .int .i64 0, .int .i64 0, .int .i64 0, .int .i64 0, .int .i64 0, .int .i64 0, .int .i64 0, .int .u64 0] 34)) ((((((((((H1.out.2.setCell (p := ⟨w.heap.size, 0, none⟩) (Nat.le_refl _) (.int .i64 0)).setCell (p := ⟨w.heap.size, 1, none⟩) (Nat.le_refl _) (.int .i64 0)).setCell (p := ⟨w.heap.size, 2, none⟩) (Nat.le_refl _) (.int .i64 0)).setCell (p := ⟨w.heap.size, 3, none⟩) (Nat.le_refl _) (.int .u64 0)).setCell (p := ⟨w.heap.size, 4, none⟩) (Nat.le_refl _) (.int .i64 0)).setCell (p := ⟨w.heap.size, 5, none⟩) (Nat.le_refl _) (.int .i64 0)).setCell (p := ⟨w.heap.size, 6, none⟩) (Nat.le_refl _) (.int .i64 0)).setCell (p := ⟨w.heap.size, 7, none⟩) (Nat.le_refl _) (.int .i64 0)).setCell (p := ⟨w.heap.size, 8, none⟩) (Nat.le_refl _) (.string ⟨#[]⟩)).alloc (by simp; omega) (.cells #[.int .i64 0, .int .i64 0, .int .i64 0, .int .i64 0, .int .i64 0, .int .i64 0, .int .i64 0, .int .i64 0, .int .i64 0, .int .i64 0, .int .i64 0, .int .u64 0] 34)))
  have c0 := (HB.out.1.2 0 (.int .i64 0) rfl).1
  have c1 := (HB.out.1.2 1 (.int .i64 0) rfl).1
  have c2 := (HB.out.1.2 2 (.int .i64 0) rfl).1
  have c3 := (HB.out.1.2 3 (.int .u64 0) rfl).1
  have c4 := (HB.out.1.2 4 (.int .i64 0) rfl).1
  have c5 := (HB.out.1.2 5 (.int .i64 0) rfl).1
  have c6 := (HB.out.1.2 6 (.int .i64 0) rfl).1
  have c7 := (HB.out.1.2 7 (.int .i64 0) rfl).1
  have c8 := (HB.out.1.2 8 (.string ⟨#[]⟩) rfl).1
  generalize hWW : ((((((((((w1.setCell ⟨w.heap.size, 0, none⟩ (.int .i64 0)).setCell ⟨w.heap.size, 1, none⟩ (.int .i64 0)).setCell ⟨w.heap.size, 2, none⟩ (.int .i64 0)).setCell ⟨w.heap.size, 3, none⟩ (.int .u64 0)).setCell ⟨w.heap.size, 4, none⟩ (.int .i64 0)).setCell ⟨w.heap.size, 5, none⟩ (.int .i64 0)).setCell ⟨w.heap.size, 6, none⟩ (.int .i64 0)).setCell ⟨w.heap.size, 7, none⟩ (.int .i64 0)).setCell ⟨w.heap.size, 8, none⟩ (.string ⟨#[]⟩)).alloc (.cells #[.int .i64 0, .int .i64 0, .int .i64 0, .int .i64 0, .int .i64 0, .int .i64 0, .int .i64 0, .int .i64 0, .int .i64 0, .int .i64 0, .int .i64 0, .int .u64 0] 34)) = WW at *
  clear hWW
  exact bodyPost_ret (v := .tuple #[.agg #[.int .i64 0, .int .i64 0, .int .i64 0, .int .u64 0, .int .i64 0, .int .i64 0, .int .i64 0, .int .i64 0, .string ⟨#[]⟩], .int .i64 4]) (by simp [results, Try.results27, go_sem, c0, c1, c2, c3, c4, c5, c6, c7, c8]) rfl (UePost.no HY.out HB.out.2)
set_option linter.unusedVariables false in
set_option maxHeartbeats 16000000 in
theorem reunpack_try (s : ByteArray) (w : World) (hl : s.size ≤ 140737488355328) (hok : unOk s = true) : Calls Try.prog 27 #[.string s] w (UePost s w) := by
  obtain ⟨K0, K1, K2, N0, N1, N2, N3, N4, N5, N6, N7, P, B, hh, hu, hB, hP, hue, hiff⟩ := ue_names s
  have HU : Hid (∀ W, Calls Try.prog 43 #[.string s] W fun e w' => e = .returned (.tuple #[.agg #[.int .i64 K0, .int .i64 K1, .int .i64 K2, .int .i64 N0, .int .i64 N1, .int .i64 N2, .int .i64 N3, .int .i64 N4, .int .i64 N5, .int .i64 N6, .int .i64 N7, .int .u64 P], .string B, .int .i64 0]) ∧ Below W.heap.size W w') := Lib.hid (fun W => by
    refine (runpack_any s W hl).mono ?_
    rintro e w' ⟨rfl, hb⟩
    exact ⟨by rw [if_pos hok, hh, hB], hb⟩)
  have HHD := Lib.hid hu
  have HUE := Lib.hid hue
  have HIFF := Lib.hid (hiff hok)
  have HOK := Lib.hid hok
  have HPB := Lib.hid hP
  clear hh hu hB hue hiff hok hP
  have H0 := Lib.hid (BQ.new w 26)
  have HPK := Lib.hid (fun W => repack_any N0 N1 N6 N3 N4 N5 K2 P B HPB.out W)
  obtain ⟨E, hE⟩ : ∃ E, E = entE N0 N1 N6 N3 N4 N5 K2 B := ⟨_, rfl⟩
  obtain ⟨S, hS⟩ : ∃ S, S = entS N0 N1 N6 P N3 N4 N5 K2 B := ⟨_, rfl⟩
  rw [← hE, ← hS] at HPK
  have HSE := Lib.hid (And.intro hE hS)
  clear hE hS
  by_cases hE : E = 0
  rotate_left
  · have HY : Hid (ueOk s = false) := Lib.hid (by
      rw [HUE.out]
      refine decide_eq_false (fun h => hE ?_)
      rw [HSE.out.1]; exact if_pos h.2.2)
    have q1 : (E == 0) = false := by simp [hE]
    have q2 : (E != 0) = true := by simp [hE]
    clear hE
    go_enter Try.func27, Try.ntmps27
    go_wp2_with fail
    refine (HU.out _).mono ?_
    rintro e w1 ⟨rfl, hb1⟩
    have H1 := Lib.hid (H0.out.next hb1)
    clear hb1 H0
    have hlt := H1.out.1.1
    go_wp2_with fail
    have hlt2 : w.heap.size < w1.heap.size := H1.out.1.1
    refine (HPK.out _).mono ?_
    rintro e w3 ⟨rfl, hb3⟩
    have H3 := Lib.hid ((EU.new H1.out #[.int .i64 K0, .int .i64 K1, .int .i64 K2, .int .i64 N0, .int .i64 N1, .int .i64 N2, .int .i64 N3, .int .i64 N4, .int .i64 N5, .int .i64 N6, .int .i64 N7, .int .u64 P] #[.int .i64 N0, .int .i64 N1, .int .i64 N6, .int .u64 P, .int .i64 N3, .int .i64 N4, .int .i64 N5, .int .i64 K2, .string B] 34 26).next hb3)
    obtain ⟨g, hg⟩ : ∃ g, g = w1.heap.size := ⟨_, rfl⟩
    rw [← hg] at hlt hlt2 H3 ⊢
    clear hg H1 hb3
    have hne1 : g ≠ w.heap.size := by omega
    have hne2 : w.heap.size ≠ g := by omega
    have hne3 : g + 1 ≠ w.heap.size := by omega
    have hne4 : w.heap.size ≠ g + 1 := by omega
    have hX := H3.out
    obtain ⟨r0, f0⟩ := hX.1.1.2 0 _ rfl
    obtain ⟨r1, f1⟩ := hX.1.1.2 1 _ rfl
    obtain ⟨r2, f2⟩ := hX.1.1.2 2 _ rfl
    obtain ⟨r3, f3⟩ := hX.1.1.2 3 _ rfl
    obtain ⟨r4, f4⟩ := hX.1.1.2 4 _ rfl
    obtain ⟨r5, f5⟩ := hX.1.1.2 5 _ rfl
    obtain ⟨r6, f6⟩ := hX.1.1.2 6 _ rfl
    obtain ⟨r7, f7⟩ := hX.1.1.2 7 _ rfl
    obtain ⟨r8, f8⟩ := hX.1.1.2 8 _ rfl
    have c0 := hX.2.2.2 0 _ rfl
    have c1 := hX.2.2.2 1 _ rfl
    have c2 := hX.2.2.2 2 _ rfl
    have c3 := hX.2.2.2 3 _ rfl
    have c4 := hX.2.2.2 4 _ rfl
    have c5 := hX.2.2.2 5 _ rfl
    have c6 := hX.2.2.2 6 _ rfl
    have c7 := hX.2.2.2 7 _ rfl
    have c8 := hX.2.2.2 8 _ rfl
    clear hX
    go_wp2_with fail
    exact bodyPost_ret (v := .tuple #[.agg #[.int .i64 0, .int .i64 0, .int .i64 0, .int .u64 0, .int .i64 0, .int .i64 0, .int .i64 0, .int .i64 0, .string ⟨#[]⟩], .int .i64 4]) (by simp [results, Try.results27, go_sem, r0, r1, r2, r3, r4, r5, r6, r7, r8]) rfl (UePost.no HY.out (((((((((H3.out.1.2.setCell (p := ⟨w.heap.size, 0, none⟩) (Nat.le_refl _) _).setCell (p := ⟨w.heap.size, 1, none⟩) (Nat.le_refl _) _).setCell (p := ⟨w.heap.size, 2, none⟩) (Nat.le_refl _) _).setCell (p := ⟨w.heap.size, 3, none⟩) (Nat.le_refl _) _).setCell (p := ⟨w.heap.size, 4, none⟩) (Nat.le_refl _) _).setCell (p := ⟨w.heap.size, 5, none⟩) (Nat.le_refl _) _).setCell (p := ⟨w.heap.size, 6, none⟩) (Nat.le_refl _) _).setCell (p := ⟨w.heap.size, 7, none⟩) (Nat.le_refl _) _).setCell (p := ⟨w.heap.size, 8, none⟩) (Nat.le_refl _) _))
  have hen : entB N0 N1 N6 N3 N4 N5 K2 B = true := by
    cases hx : entB N0 N1 N6 N3 N4 N5 K2 B
    · have := HSE.out.1
      rw [hE] at this
      unfold entE at this
      rw [if_neg (by rw [hx]; simp)] at this
      exact absurd this (by decide)
    · rfl
  by_cases hSs : S = s
  rotate_left
  · have HY : Hid (ueOk s = false) := Lib.hid (by
      rw [HUE.out]
      refine decide_eq_false (fun h => hSs ?_)
      rw [HSE.out.2]
      exact (HIFF.out.2 ⟨h.2.1, h.2.2⟩).2)
    have hs : (S.toList == s.toList) = false := by
      rw [beq_eq_false_iff_ne, toList_data, toList_data]
      exact fun h => hSs (ByteArray.ext (Array.toList_inj.1 h))
    clear hSs hen
    subst hE
    go_enter Try.func27, Try.ntmps27
    go_wp2_with fail
    refine (HU.out _).mono ?_
    rintro e w1 ⟨rfl, hb1⟩
    have H1 := Lib.hid (H0.out.next hb1)
    clear hb1 H0
    have hlt := H1.out.1.1
    go_wp2_with fail
    have hlt2 : w.heap.size < w1.heap.size := H1.out.1.1
    refine (HPK.out _).mono ?_
    rintro e w3 ⟨rfl, hb3⟩
    have H3 := Lib.hid ((EU.new H1.out #[.int .i64 K0, .int .i64 K1, .int .i64 K2, .int .i64 N0, .int .i64 N1, .int .i64 N2, .int .i64 N3, .int .i64 N4, .int .i64 N5, .int .i64 N6, .int .i64 N7, .int .u64 P] #[.int .i64 N0, .int .i64 N1, .int .i64 N6, .int .u64 P, .int .i64 N3, .int .i64 N4, .int .i64 N5, .int .i64 K2, .string B] 34 26).next hb3)
    obtain ⟨g, hg⟩ : ∃ g, g = w1.heap.size := ⟨_, rfl⟩
    rw [← hg] at hlt hlt2 H3 ⊢
    clear hg H1 hb3
    have hne1 : g ≠ w.heap.size := by omega
    have hne2 : w.heap.size ≠ g := by omega
    have hne3 : g + 1 ≠ w.heap.size := by omega
    have hne4 : w.heap.size ≠ g + 1 := by omega
    have hX := H3.out
    obtain ⟨r0, f0⟩ := hX.1.1.2 0 _ rfl
    obtain ⟨r1, f1⟩ := hX.1.1.2 1 _ rfl
    obtain ⟨r2, f2⟩ := hX.1.1.2 2 _ rfl
    obtain ⟨r3, f3⟩ := hX.1.1.2 3 _ rfl
    obtain ⟨r4, f4⟩ := hX.1.1.2 4 _ rfl
    obtain ⟨r5, f5⟩ := hX.1.1.2 5 _ rfl
    obtain ⟨r6, f6⟩ := hX.1.1.2 6 _ rfl
    obtain ⟨r7, f7⟩ := hX.1.1.2 7 _ rfl
    obtain ⟨r8, f8⟩ := hX.1.1.2 8 _ rfl
    have c0 := hX.2.2.2 0 _ rfl
    have c1 := hX.2.2.2 1 _ rfl
    have c2 := hX.2.2.2 2 _ rfl
    have c3 := hX.2.2.2 3 _ rfl
    have c4 := hX.2.2.2 4 _ rfl
    have c5 := hX.2.2.2 5 _ rfl
    have c6 := hX.2.2.2 6 _ rfl
    have c7 := hX.2.2.2 7 _ rfl
    have c8 := hX.2.2.2 8 _ rfl
    clear hX
    go_wp2_with fail
    exact bodyPost_ret (v := .tuple #[.agg #[.int .i64 0, .int .i64 0, .int .i64 0, .int .u64 0, .int .i64 0, .int .i64 0, .int .i64 0, .int .i64 0, .string ⟨#[]⟩], .int .i64 4]) (by simp [results, Try.results27, go_sem, r0, r1, r2, r3, r4, r5, r6, r7, r8]) rfl (UePost.no HY.out (((((((((H3.out.1.2.setCell (p := ⟨w.heap.size, 0, none⟩) (Nat.le_refl _) _).setCell (p := ⟨w.heap.size, 1, none⟩) (Nat.le_refl _) _).setCell (p := ⟨w.heap.size, 2, none⟩) (Nat.le_refl _) _).setCell (p := ⟨w.heap.size, 3, none⟩) (Nat.le_refl _) _).setCell (p := ⟨w.heap.size, 4, none⟩) (Nat.le_refl _) _).setCell (p := ⟨w.heap.size, 5, none⟩) (Nat.le_refl _) _).setCell (p := ⟨w.heap.size, 6, none⟩) (Nat.le_refl _) _).setCell (p := ⟨w.heap.size, 7, none⟩) (Nat.le_refl _) _).setCell (p := ⟨w.heap.size, 8, none⟩) (Nat.le_refl _) _))
  have HY : Hid (ueOk s = true) := Lib.hid (by
    rw [HUE.out]
    have := HIFF.out.1 ⟨hen, by rw [← HSE.out.2]; exact hSs⟩
    exact decide_eq_true ⟨HOK.out, this.1, hen⟩)
  clear hen
  subst hE
  clear HIFF HUE HOK
  have HSE2 := Lib.hid hSs
  clear HSE
  subst hSs
  go_enter Try.func27, Try.ntmps27
  go_wp2_with fail
  refine (HU.out _).mono ?_
  rintro e w1 ⟨rfl, hb1⟩
  have H1 := Lib.hid (H0.out.next hb1)
  clear hb1 H0
  have hlt := H1.out.1.1
  go_wp2_with fail
  have hlt2 : w.heap.size < w1.heap.size := H1.out.1.1
  refine (HPK.out _).mono ?_
  rintro e w3 ⟨rfl, hb3⟩
  have H3 := Lib.hid ((EU.new H1.out #[.int .i64 K0, .int .i64 K1, .int .i64 K2, .int .i64 N0, .int .i64 N1, .int .i64 N2, .int .i64 N3, .int .i64 N4, .int .i64 N5, .int .i64 N6, .int .i64 N7, .int .u64 P] #[.int .i64 N0, .int .i64 N1, .int .i64 N6, .int .u64 P, .int .i64 N3, .int .i64 N4, .int .i64 N5, .int .i64 K2, .string B] 34 26).next hb3)
  obtain ⟨g, hg⟩ : ∃ g, g = w1.heap.size := ⟨_, rfl⟩
  rw [← hg] at hlt hlt2 H3 ⊢
  clear hg H1 hb3
  have hne1 : g ≠ w.heap.size := by omega
  have hne2 : w.heap.size ≠ g := by omega
  have hne3 : g + 1 ≠ w.heap.size := by omega
  have hne4 : w.heap.size ≠ g + 1 := by omega
  have hX := H3.out
  obtain ⟨r0, f0⟩ := hX.1.1.2 0 _ rfl
  obtain ⟨r1, f1⟩ := hX.1.1.2 1 _ rfl
  obtain ⟨r2, f2⟩ := hX.1.1.2 2 _ rfl
  obtain ⟨r3, f3⟩ := hX.1.1.2 3 _ rfl
  obtain ⟨r4, f4⟩ := hX.1.1.2 4 _ rfl
  obtain ⟨r5, f5⟩ := hX.1.1.2 5 _ rfl
  obtain ⟨r6, f6⟩ := hX.1.1.2 6 _ rfl
  obtain ⟨r7, f7⟩ := hX.1.1.2 7 _ rfl
  obtain ⟨r8, f8⟩ := hX.1.1.2 8 _ rfl
  have c0 := hX.2.2.2 0 _ rfl
  have c1 := hX.2.2.2 1 _ rfl
  have c2 := hX.2.2.2 2 _ rfl
  have c3 := hX.2.2.2 3 _ rfl
  have c4 := hX.2.2.2 4 _ rfl
  have c5 := hX.2.2.2 5 _ rfl
  have c6 := hX.2.2.2 6 _ rfl
  have c7 := hX.2.2.2 7 _ rfl
  have c8 := hX.2.2.2 8 _ rfl
  clear hX
  go_wp2_with fail
  exact bodyPost_ret (v := .tuple #[.agg #[.int .i64 N0, .int .i64 N1, .int .i64 N6, .int .u64 P, .int .i64 N3, .int .i64 N4, .int .i64 N5, .int .i64 K2, .string B], .int .i64 0]) (by simp [results, Try.results27, go_sem, r0, r1, r2, r3, r4, r5, r6, r7, r8]) rfl (UePost.yes HY.out HHD.out (((((((((H3.out.1.2.setCell (p := ⟨w.heap.size, 0, none⟩) (Nat.le_refl _) _).setCell (p := ⟨w.heap.size, 1, none⟩) (Nat.le_refl _) _).setCell (p := ⟨w.heap.size, 2, none⟩) (Nat.le_refl _) _).setCell (p := ⟨w.heap.size, 3, none⟩) (Nat.le_refl _) _).setCell (p := ⟨w.heap.size, 4, none⟩) (Nat.le_refl _) _).setCell (p := ⟨w.heap.size, 5, none⟩) (Nat.le_refl _) _).setCell (p := ⟨w.heap.size, 6, none⟩) (Nat.le_refl _) _).setCell (p := ⟨w.heap.size, 7, none⟩) (Nat.le_refl _) _).setCell (p := ⟨w.heap.size, 8, none⟩) (Nat.le_refl _) _))
end Go.Proofs.Ytmebodjofcomlaa

import Derived.Test.YtmebodjofcomlaaHeadC
namespace Go.Proofs.Ytmebodjofcomlaa
open Go.RowKit
set_option linter.unusedVariables false in
set_option maxHeartbeats 4000000 in
theorem unlike_long (h0 h1 h2 h3 h4 h5 h6 h7 h8 h9 h10 h11 g0 g1 g2 g3 g4 g5 g6 g7 g8 g9 g10 g11 : Int) (a b : ByteArray) (w : World) (hl : 5000 < a.size ∨ 5000 < b.size) :
    Calls Try.prog 4 #[.agg #[.int .i64 h0, .int .i64 h1, .int .i64 h2, .int .i64 h3, .int .i64 h4, .int .i64 h5, .int .i64 h6, .int .i64 h7, .int .i64 h8, .int .i64 h9, .int .i64 h10, .int .u64 h11], .agg #[.int .i64 g0, .int .i64 g1, .int .i64 g2, .int .i64 g3, .int .i64 g4, .int .i64 g5, .int .i64 g6, .int .i64 g7, .int .i64 g8, .int .i64 g9, .int .i64 g10, .int .u64 g11], .string a, .string b] w fun e w' => e = .returned (.bool true) ∧ Below w.heap.size w w' := by
  have hB0 : Below w.heap.size w ((w.alloc (.cells #[.int .i64 h0, .int .i64 h1, .int .i64 h2, .int .i64 h3, .int .i64 h4, .int .i64 h5, .int .i64 h6, .int .i64 h7, .int .i64 h8, .int .i64 h9, .int .i64 h10, .int .u64 h11] 34)).alloc (.cells #[.int .i64 g0, .int .i64 g1, .int .i64 g2, .int .i64 g3, .int .i64 g4, .int .i64 g5, .int .i64 g6, .int .i64 g7, .int .i64 g8, .int .i64 g9, .int .i64 g10, .int .u64 g11] 34)) := ((Below.refl _ _).alloc (Nat.le_refl _) _).alloc (by simp) _
  have hH : Row ((w.alloc (.cells #[.int .i64 h0, .int .i64 h1, .int .i64 h2, .int .i64 h3, .int .i64 h4, .int .i64 h5, .int .i64 h6, .int .i64 h7, .int .i64 h8, .int .i64 h9, .int .i64 h10, .int .u64 h11] 34)).alloc (.cells #[.int .i64 g0, .int .i64 g1, .int .i64 g2, .int .i64 g3, .int .i64 g4, .int .i64 g5, .int .i64 g6, .int .i64 g7, .int .i64 g8, .int .i64 g9, .int .i64 g10, .int .u64 g11] 34)) w.heap.size #[.int .i64 h0, .int .i64 h1, .int .i64 h2, .int .i64 h3, .int .i64 h4, .int .i64 h5, .int .i64 h6, .int .i64 h7, .int .i64 h8, .int .i64 h9, .int .i64 h10, .int .u64 h11] := (Row.new w _ _ _ rfl).alloc _
  have hG : Row ((w.alloc (.cells #[.int .i64 h0, .int .i64 h1, .int .i64 h2, .int .i64 h3, .int .i64 h4, .int .i64 h5, .int .i64 h6, .int .i64 h7, .int .i64 h8, .int .i64 h9, .int .i64 h10, .int .u64 h11] 34)).alloc (.cells #[.int .i64 g0, .int .i64 g1, .int .i64 g2, .int .i64 g3, .int .i64 g4, .int .i64 g5, .int .i64 g6, .int .i64 g7, .int .i64 g8, .int .i64 g9, .int .i64 g10, .int .u64 g11] 34)) (w.heap.size + 1) #[.int .i64 g0, .int .i64 g1, .int .i64 g2, .int .i64 g3, .int .i64 g4, .int .i64 g5, .int .i64 g6, .int .i64 g7, .int .i64 g8, .int .i64 g9, .int .i64 g10, .int .u64 g11] := Row.new _ _ _ _ (by simp)
  have H0 := Lib.hid (And.intro hH (And.intro hG hB0))
  clear hH hG hB0
  go_enter Try.func4, Try.ntmps4
  go_wp2_with fail
  refine (awake05_any _).mono ?_
  rintro e w1 ⟨rfl, hb1⟩
  have H1 := Lib.hid (And.intro (H0.out.1.below hb1 H0.out.1.1) (And.intro (H0.out.2.1.below hb1 H0.out.2.1.1) (H0.out.2.2.trans (hb1.mono H0.out.2.2.size))))
  clear hb1 H0
  go_wp2_with fail
  by_cases ha : 5000 < a.size
  · refine (long05_yes _ _ ha).mono ?_
    rintro e w2 ⟨rfl, rfl⟩
    go_wp2_with fail
    go_ret
    exact ⟨rfl, H1.out.2.2⟩
  · refine (long05_no _ _ (by omega)).mono ?_
    rintro e w2 ⟨rfl, rfl⟩
    go_wp2_with fail
    refine (long05_yes _ _ (by omega)).mono ?_
    rintro e w2 ⟨rfl, rfl⟩
    go_wp2_with fail
    go_ret
    exact ⟨rfl, H1.out.2.2⟩
set_option linter.unusedVariables false in
set_option maxHeartbeats 8000000 in
theorem unlike_core (h0 h1 h2 h3 h4 h5 h6 h7 h8 h9 h10 h11 g0 g1 g2 g3 g4 g5 g6 g7 g8 g9 g10 g11 : Int) (a b : ByteArray) (S T : ByteArray) (E F : Int) (w : World) (ha : a.size ≤ 5000) (hb : b.size ≤ 5000)
    (hpS : ∀ w, Calls Try.prog 18 #[.agg #[.int .i64 h0, .int .i64 h1, .int .i64 h2, .int .i64 h3, .int .i64 h4, .int .i64 h5, .int .i64 h6, .int .i64 h7, .int .i64 h8, .int .i64 h9, .int .i64 h10, .int .u64 h11], .string a] w fun e w' => e = .returned (.tuple #[.string S, .int .i64 E]) ∧ Below w.heap.size w w')
    (hpT : ∀ w, Calls Try.prog 18 #[.agg #[.int .i64 g0, .int .i64 g1, .int .i64 g2, .int .i64 g3, .int .i64 g4, .int .i64 g5, .int .i64 g6, .int .i64 g7, .int .i64 g8, .int .i64 g9, .int .i64 g10, .int .u64 g11], .string b] w fun e w' => e = .returned (.tuple #[.string T, .int .i64 F]) ∧ Below w.heap.size w w')
    (hin : E = 0 → F = 0 → S = T → (h0 = g0 ∧ h1 = g1 ∧ h2 = g2 ∧ h3 = g3 ∧ h4 = g4 ∧ h5 = g5 ∧ h6 = g6 ∧ h7 = g7 ∧ h8 = g8 ∧ h9 = g9 ∧ h10 = g10 ∧ h11 = g11) ∧ a = b) (hout : (h0 = g0 ∧ h1 = g1 ∧ h2 = g2 ∧ h3 = g3 ∧ h4 = g4 ∧ h5 = g5 ∧ h6 = g6 ∧ h7 = g7 ∧ h8 = g8 ∧ h9 = g9 ∧ h10 = g10 ∧ h11 = g11) ∧ a = b → S = T) :
    Calls Try.prog 4 #[.agg #[.int .i64 h0, .int .i64 h1, .int .i64 h2, .int .i64 h3, .int .i64 h4, .int .i64 h5, .int .i64 h6, .int .i64 h7, .int .i64 h8, .int .i64 h9, .int .i64 h10, .int .u64 h11], .agg #[.int .i64 g0, .int .i64 g1, .int .i64 g2, .int .i64 g3, .int .i64 g4, .int .i64 g5, .int .i64 g6, .int .i64 g7, .int .i64 g8, .int .i64 g9, .int .i64 g10, .int .u64 g11], .string a, .string b] w fun e w' => e = .returned (.bool true) ∧ Below w.heap.size w w' := by
  have HP1 := Lib.hid hpS
  have HP2 := Lib.hid hpT
  have HIN := Lib.hid hin
  have HOUT := Lib.hid hout
  clear hpS hpT hin hout
  have hB0 : Below w.heap.size w ((w.alloc (.cells #[.int .i64 h0, .int .i64 h1, .int .i64 h2, .int .i64 h3, .int .i64 h4, .int .i64 h5, .int .i64 h6, .int .i64 h7, .int .i64 h8, .int .i64 h9, .int .i64 h10, .int .u64 h11] 34)).alloc (.cells #[.int .i64 g0, .int .i64 g1, .int .i64 g2, .int .i64 g3, .int .i64 g4, .int .i64 g5, .int .i64 g6, .int .i64 g7, .int .i64 g8, .int .i64 g9, .int .i64 g10, .int .u64 g11] 34)) := ((Below.refl _ _).alloc (Nat.le_refl _) _).alloc (by simp) _
  have hH : Row ((w.alloc (.cells #[.int .i64 h0, .int .i64 h1, .int .i64 h2, .int .i64 h3, .int .i64 h4, .int .i64 h5, .int .i64 h6, .int .i64 h7, .int .i64 h8, .int .i64 h9, .int .i64 h10, .int .u64 h11] 34)).alloc (.cells #[.int .i64 g0, .int .i64 g1, .int .i64 g2, .int .i64 g3, .int .i64 g4, .int .i64 g5, .int .i64 g6, .int .i64 g7, .int .i64 g8, .int .i64 g9, .int .i64 g10, .int .u64 g11] 34)) w.heap.size #[.int .i64 h0, .int .i64 h1, .int .i64 h2, .int .i64 h3, .int .i64 h4, .int .i64 h5, .int .i64 h6, .int .i64 h7, .int .i64 h8, .int .i64 h9, .int .i64 h10, .int .u64 h11] := (Row.new w _ _ _ rfl).alloc _
  have hG : Row ((w.alloc (.cells #[.int .i64 h0, .int .i64 h1, .int .i64 h2, .int .i64 h3, .int .i64 h4, .int .i64 h5, .int .i64 h6, .int .i64 h7, .int .i64 h8, .int .i64 h9, .int .i64 h10, .int .u64 h11] 34)).alloc (.cells #[.int .i64 g0, .int .i64 g1, .int .i64 g2, .int .i64 g3, .int .i64 g4, .int .i64 g5, .int .i64 g6, .int .i64 g7, .int .i64 g8, .int .i64 g9, .int .i64 g10, .int .u64 g11] 34)) (w.heap.size + 1) #[.int .i64 g0, .int .i64 g1, .int .i64 g2, .int .i64 g3, .int .i64 g4, .int .i64 g5, .int .i64 g6, .int .i64 g7, .int .i64 g8, .int .i64 g9, .int .i64 g10, .int .u64 g11] := Row.new _ _ _ _ (by simp)
  have H0 := Lib.hid (And.intro hH (And.intro hG hB0))
  clear hH hG hB0
  go_enter Try.func4, Try.ntmps4
  go_wp2_with fail
  refine (awake05_any _).mono ?_
  rintro e w1 ⟨rfl, hb1⟩
  have H1 := Lib.hid (And.intro (H0.out.1.below hb1 H0.out.1.1) (And.intro (H0.out.2.1.below hb1 H0.out.2.1.1) (H0.out.2.2.trans (hb1.mono H0.out.2.2.size))))
  clear hb1 H0
  go_wp2_with fail
  refine (long05_no _ _ ha).mono ?_
  rintro e w2 ⟨rfl, rfl⟩
  go_wp2_with fail
  refine (long05_no _ _ hb).mono ?_
  rintro e w2 ⟨rfl, rfl⟩
  have ch0 := H1.out.1.2 0 _ rfl; have ch1 := H1.out.1.2 1 _ rfl; have ch2 := H1.out.1.2 2 _ rfl; have ch3 := H1.out.1.2 3 _ rfl; have ch4 := H1.out.1.2 4 _ rfl; have ch5 := H1.out.1.2 5 _ rfl; have ch6 := H1.out.1.2 6 _ rfl; have ch7 := H1.out.1.2 7 _ rfl; have ch8 := H1.out.1.2 8 _ rfl; have ch9 := H1.out.1.2 9 _ rfl; have ch10 := H1.out.1.2 10 _ rfl; have ch11 := H1.out.1.2 11 _ rfl
  go_wp2_with fail
  refine (HP1.out _).mono ?_
  rintro e w2 ⟨rfl, hb2⟩
  clear ch0 ch1 ch2 ch3 ch4 ch5 ch6 ch7 ch8 ch9 ch10 ch11
  have H2 := Lib.hid (And.intro (H1.out.1.below hb2 H1.out.1.1) (And.intro (H1.out.2.1.below hb2 H1.out.2.1.1) (H1.out.2.2.trans (hb2.mono H1.out.2.2.size))))
  clear hb2 H1
  have cg0 := H2.out.2.1.2 0 _ rfl; have cg1 := H2.out.2.1.2 1 _ rfl; have cg2 := H2.out.2.1.2 2 _ rfl; have cg3 := H2.out.2.1.2 3 _ rfl; have cg4 := H2.out.2.1.2 4 _ rfl; have cg5 := H2.out.2.1.2 5 _ rfl; have cg6 := H2.out.2.1.2 6 _ rfl; have cg7 := H2.out.2.1.2 7 _ rfl; have cg8 := H2.out.2.1.2 8 _ rfl; have cg9 := H2.out.2.1.2 9 _ rfl; have cg10 := H2.out.2.1.2 10 _ rfl; have cg11 := H2.out.2.1.2 11 _ rfl
  go_wp2_with fail
  refine (HP2.out _).mono ?_
  rintro e w3 ⟨rfl, hb3⟩
  clear cg0 cg1 cg2 cg3 cg4 cg5 cg6 cg7 cg8 cg9 cg10 cg11
  have H3 := Lib.hid (And.intro (H2.out.1.below hb3 H2.out.1.1) (And.intro (H2.out.2.1.below hb3 H2.out.2.1.1) (H2.out.2.2.trans (hb3.mono H2.out.2.2.size))))
  clear hb3 H2
  have ch0 := H3.out.1.2 0 _ rfl; have ch1 := H3.out.1.2 1 _ rfl; have ch2 := H3.out.1.2 2 _ rfl; have ch3 := H3.out.1.2 3 _ rfl; have ch4 := H3.out.1.2 4 _ rfl; have ch5 := H3.out.1.2 5 _ rfl; have ch6 := H3.out.1.2 6 _ rfl; have ch7 := H3.out.1.2 7 _ rfl; have ch8 := H3.out.1.2 8 _ rfl; have ch9 := H3.out.1.2 9 _ rfl; have ch10 := H3.out.1.2 10 _ rfl; have ch11 := H3.out.1.2 11 _ rfl
  have cg0 := H3.out.2.1.2 0 _ rfl; have cg1 := H3.out.2.1.2 1 _ rfl; have cg2 := H3.out.2.1.2 2 _ rfl; have cg3 := H3.out.2.1.2 3 _ rfl; have cg4 := H3.out.2.1.2 4 _ rfl; have cg5 := H3.out.2.1.2 5 _ rfl; have cg6 := H3.out.2.1.2 6 _ rfl; have cg7 := H3.out.2.1.2 7 _ rfl; have cg8 := H3.out.2.1.2 8 _ rfl; have cg9 := H3.out.2.1.2 9 _ rfl; have cg10 := H3.out.2.1.2 10 _ rfl; have cg11 := H3.out.2.1.2 11 _ rfl
  by_cases hE : E = 0
  rotate_left
  · go_wp2_with fail
    go_ret
    exact ⟨rfl, H3.out.2.2⟩
  by_cases hF : F = 0
  rotate_left
  · go_wp2_with fail
    go_ret
    exact ⟨rfl, H3.out.2.2⟩
  by_cases hST : S = T
  · obtain ⟨⟨rfl, rfl, rfl, rfl, rfl, rfl, rfl, rfl, rfl, rfl, rfl, rfl⟩, rfl⟩ := HIN.out hE hF hST
    subst hE hF hST
    clear HIN HOUT HP1 HP2
    go_wp2_with fail
    go_ret
    exact ⟨rfl, H3.out.2.2⟩
  · have hno := Lib.hid (fun h => hST (HOUT.out h))
    subst hE hF
    clear HIN HOUT HP1 HP2
    have hs : (S.toList == T.toList) = false := by
      rw [beq_eq_false_iff_ne, toList_data, toList_data]
      exact fun h => hST (ByteArray.ext (Array.toList_inj.1 h))
    clear hST
    by_cases hab : a = b
    · subst hab
      go_wp2_with fail
      all_goals first
        | (go_ret; exact ⟨rfl, H3.out.2.2⟩)
        | exact absurd (by first | exact ⟨⟨by omega, by omega, by omega, by omega, by omega, by omega, by omega, by omega, by omega, by omega, by omega, by omega⟩, rfl⟩ | exact ⟨⟨by omega, by omega, by omega, by omega, by omega, by omega, by omega, by omega, by omega, by omega, by omega, by omega⟩, trivial⟩) hno.out
    · have hs2 : (a.toList == b.toList) = false := by
        rw [beq_eq_false_iff_ne, toList_data, toList_data]
        exact fun h => hab (ByteArray.ext (Array.toList_inj.1 h))
      clear hab hno
      go_wp2_with fail
      all_goals (go_ret; exact ⟨rfl, H3.out.2.2⟩)
end Go.Proofs.Ytmebodjofcomlaa

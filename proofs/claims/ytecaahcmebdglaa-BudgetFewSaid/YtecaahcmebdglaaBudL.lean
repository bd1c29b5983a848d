/- The walk of BudgetFew. -/
import Derived.Test.YtecaahcmebdglaaBudK
namespace Go.Proofs.Ytecaahcmebdglaa
open Go.RowKit
set_option linter.unusedVariables false
theorem wrapmod (a : Int) (R : Nat) (h0 : 0 < R) (h : R ≤ 300) : ∃ f : Nat, wrap64 ((IntKind.u64.wrap a).tmod (R : Int)) = (f : Int) ∧ f < R := by
  have e : IntKind.u64.wrap a = a % 18446744073709551616 := rfl
  have h1 := Int.emod_nonneg (a % 18446744073709551616) (b := (R : Int)) (by omega)
  have h2 := Int.emod_lt_of_pos (a % 18446744073709551616) (b := (R : Int)) (by omega)
  refine ⟨((a % 18446744073709551616) % (R : Int)).toNat, ?_, by omega⟩
  rw [e, Int.tmod_eq_emod_of_nonneg (by omega), Int.toNat_of_nonneg h1]
  exact IntWalk.wrap64_in _ (by omega)

set_option maxHeartbeats 8000000 in
set_option maxRecDepth 100000 in
theorem bfew_core (w : World) (a0 : Bool) (a1 : Int) (p2 : Option Addr) (cap2 : Nat) (l2 : List Int) (a3 : Int) (b1 : -9223372036854775808 ≤ a1 ∧ a1 ≤ 9223372036854775807) (h2 : IntsAt w p2 l2) (c2 : l2.length ≤ cap2) (m2 : cap2 ≤ maxLen) (t2 : ∀ x ∈ l2, -9223372036854775808 ≤ x ∧ x ≤ 9223372036854775807) (b3 : -9223372036854775808 ≤ a3 ∧ a3 ≤ 9223372036854775807) :
    Calls Try.prog 9 #[.bool a0, .int .i64 a1, .slice p2 l2.length cap2, .int .i64 a3] w fun e w' => e = .returned (.bool true) ∧ Below w.heap.size w w' := by
  obtain ⟨n2, hn2⟩ : ∃ n2, n2 = l2.length := ⟨_, rfl⟩
  have HN2 := Lib.hid hn2
  have HI2 := Lib.hid h2
  have HT2 := Lib.hid t2
  rw [← hn2] at c2 ⊢
  clear hn2 h2 t2
  cases a0 with
  | false =>
    go_enter Try.func9, Try.ntmps9
    go_wp2_with fail
    refine (awake25_any _).mono ?_
    rintro e w1 ⟨rfl, hb1⟩
    have HB1 := Lib.hid hb1
    clear hb1
    go_wp2_with fail
    obtain ⟨f, hf, hfR⟩ := wrapmod a1 (3 : Nat) (by decide) (by decide)
    obtain ⟨sl, hsl, hs8⟩ := wrapmod a3 (8 : Nat) (by decide) (by decide)
    rw [show ((3 : Nat) : Int) = 3 from rfl] at hf
    rw [show ((8 : Nat) : Int) = 8 from rfl] at hsl
    rw [hf, hsl]
    obtain ⟨w3, hw3⟩ : ∃ w3, w3 = (w1.alloc (.cells #[.int .i64 3, .int .i64 1] 29)).alloc (.cells #[] 34) := ⟨_, rfl⟩
    have HS3 : Hid (Bs w1 w3 3 1) := Lib.hid (by rw [hw3]; exact (Bs.start w1 3 1 _).later ((Below.refl _ _).alloc (Nat.le_refl _) _))
    have HO3 : Hid (OwnC (fun q => w1.heap.size < q) w3 (.slice (some ⟨w1.heap.size + 1, 0, none⟩) 0 0) 0 9 (bcells [])) := Lib.hid ⟨rfl, .inr ⟨w1.heap.size + 1, 0, 0, rfl, Nat.lt_succ_self _, by rw [hw3]; simp, Nat.le_refl _, fun j u hu => by simp [bcells] at hu, fun j hj => absurd hj (by omega)⟩⟩
    rw [← hw3]
    clear hw3 hf hsl
    obtain ⟨g0, hg0⟩ : ∃ g0, g0 = w1.heap.size + 1 := ⟨_, rfl⟩
    rw [← hg0] at HO3 ⊢
    clear hg0
    go_loopw [11, 12] (fun ov iv wr => ∃ (j : Nat) (x : Option Addr) (cp : Nat) (M : List Bst), j ≤ n2 ∧ j ≤ 40 ∧ iv = .int .i64 (j : Int) ∧ ov = .slice x j cp ∧ M.length = j ∧ Bud.Few 3 1 f M ∧ Bs w1 wr 3 1 ∧ OwnC (fun q => w1.heap.size < q) wr (.slice x j cp) j 9 (bcells M)) (fun _ iv _ => 41 - (intOf iv).toNat)
    case atStart => exact ⟨0, _, 0, [], by omega, by omega, rfl, rfl, rfl, Bud.Few.nil _ _ _, HS3.out, HO3.out⟩
    case round =>
      clear HS3 HO3
      obtain ⟨j, x, cp, M, hj, hj3, rfl, rfl, hM, hMs, hB, hO⟩ := hrel
      have HB := Lib.hid hB
      have HO := Lib.hid hO
      have HM := Lib.hid (And.intro hM hMs)
      clear hO hM hMs
      obtain ⟨s0, s1⟩ := hB.2.2
      have hszw := hB.2.1
      by_cases hlt : j < n2 ∧ j < 40
      · obtain ⟨hlt1, hlt2⟩ := hlt
        obtain ⟨y, hy⟩ : ∃ y, l2[j]? = some y := ⟨l2[j]'(by rw [← HN2.out]; exact hlt1), List.getElem?_eq_getElem _⟩
        obtain ⟨b2, off2, rfl, hcy⟩ := ints_at HI2.out j y hy
        have cy := (Below.cell (HB1.out.trans (hB.1.mono HB1.out.size)) (cell_lt hcy)).trans hcy
        obtain ⟨q, hq, hq16⟩ := wrapmod y (16 : Nat) (by decide) (by decide)
        rw [show ((16 : Nat) : Int) = 16 from rfl] at hq
        have HE : Hid ((⟨11, 1 + (f : Int) % 3, 0, 4 + (q : Int), 0, 1, 0, ⟨#[]⟩, none, 0, 0⟩ : Bst) = rotS ((1 + (f + 0) % 3 : Nat) : Int) ((4 + q : Nat) : Int)) := Lib.hid (by unfold rotS; congr 1 <;> omega)
        clear hy hcy
        go_wp2_with fail
        go_quiet (fail)
        go_wp2_with fail
        refine (lrot_any _ _ _).mono ?_
        rintro e w8 ⟨rfl, hb8⟩
        have HB8 := Lib.hid ((HB.out.later (Below.drewN2 (Below.refl _ _) _)).later hb8)
        have HO8 := Lib.hid ((HO.out.later (Below.drewN2 (Below.refl _ _) _)).later hb8)
        go_wp2_with (refine app_stp rfl (Operand.tmp 51) (Operand.tmp 62) rfl rfl _ _ _ (bcells M) rfl HO8.out ⟨11, 1 + (f : Int) % 3, 0, 4 + (q : Int), 0, 1, 0, ⟨#[]⟩, none, 0, 0⟩ _ rfl _ rfl rfl (by omega) ?_; intro x' cap' w' hO' hT')
        have HB' := Lib.hid (HB8.out.turned hT')
        have HO' : Hid (OwnC (fun q => w1.heap.size < q) w' (.slice x' (j + 1) cap') (j + 1) 9 (bcells (M ++ [⟨11, 1 + (f : Int) % 3, 0, 4 + (q : Int), 0, 1, 0, ⟨#[]⟩, none, 0, 0⟩]))) := Lib.hid (by
          rw [← bcells_one]
          exact hO'.mono (fun q h => h.elim id (fun h => Nat.lt_of_lt_of_le HB8.out.2.1 h)))
        have HM' : Hid ((M ++ [(⟨11, 1 + (f : Int) % 3, 0, 4 + (q : Int), 0, 1, 0, ⟨#[]⟩, none, 0, 0⟩ : Bst)]).length = j + 1 ∧ Bud.Few 3 1 f (M ++ [(⟨11, 1 + (f : Int) % 3, 0, 4 + (q : Int), 0, 1, 0, ⟨#[]⟩, none, 0, 0⟩ : Bst)])) := Lib.hid ⟨by rw [List.length_append, HM.out.1]; rfl, by
          rw [HE.out]
          exact HM.out.2.add (by omega) (by omega) (by omega)⟩
        clear hO' hT' HB8 HO8 HB HO HM HE
        go_wp2_with fail
        go_roundw
        case rel => first | exact ⟨j + 1, x', cap', _, by omega, by omega, by go_num, rfl, HM'.out.1, HM'.out.2, HB'.out, HO'.out⟩ | exact ⟨j + 1, by omega, by omega, by omega, x', cap', ⟨rfl, rfl, rfl⟩, _, HM'.out.1, HM'.out.2, HB'.out, HO'.out⟩
        case measure => simp [intOf]; omega
      · have hbr : (¬ j < n2) ∨ (j < n2 ∧ ¬ j < 40) := by omega
        clear hlt
        rcases hbr with q1 | ⟨q1, q2⟩
        · have HE0 := Lib.hid (And.intro (HM.out.1) HM.out.2)
          go_wp2_with fail
          go_loopw [11, 14] (fun ov iv wr2 => ∃ (i k : Nat) (x2 : Option Addr) (cp2 : Nat) (M2 : List Bst), i ≤ 1 ∧ k ≤ 40 + i ∧ iv = .int .i64 (i : Int) ∧ ov = .slice x2 k cp2 ∧ M2.length = k ∧ Bud.Few 3 1 f M2 ∧ (∀ t : Nat, t < i → rotS ((1 + (f + t) % 3 : Nat) : Int) ((4 + sl : Nat) : Int) ∈ M2) ∧ Bs w1 wr2 3 1 ∧ OwnC (fun q => w1.heap.size < q) wr2 (.slice x2 k cp2) k 9 (bcells M2)) (fun _ iv _ => 1 + 1 - (intOf iv).toNat)
          case atStart => exact ⟨0, j, x, cp, M, by omega, by omega, rfl, rfl, HM.out.1, HM.out.2, fun t ht => absurd ht (by omega), HB.out, HO.out⟩
          case round =>
            clear HB HO HM HE0 hB s0 s1 hszw
            obtain ⟨i, k, x2, cp2, M2, hi, hk, rfl, rfl, hM, hMs, hMt, hB, hO⟩ := hrel
            have HB := Lib.hid hB
            have HO := Lib.hid hO
            have HM := Lib.hid (And.intro hM (And.intro hMs hMt))
            clear hO hM hMs hMt
            obtain ⟨s0, s1⟩ := hB.2.2
            have hszw := hB.2.1
            by_cases hlt2 : i < 1
            · have HE : Hid ((⟨11, 1 + ((f : Int) + (i : Int)) % 3, 0, 4 + (sl : Int), 0, 1, 0, ⟨#[]⟩, none, 0, 0⟩ : Bst) = rotS ((1 + (f + i) % 3 : Nat) : Int) ((4 + sl : Nat) : Int)) := Lib.hid (by unfold rotS; congr 1 <;> omega)
              have hlt2i : (i : Int) < 1 := by omega
              go_wp2_with fail
              refine (lrot_any _ _ _).mono ?_
              rintro e w8 ⟨rfl, hb8⟩
              have HB8 := Lib.hid (HB.out.later hb8)
              have HO8 := Lib.hid (HO.out.later hb8)
          
              go_wp2_with (refine app_stp rfl (Operand.tmp 69) (Operand.tmp 80) rfl rfl _ _ _ (bcells M2) rfl HO8.out ⟨11, 1 + ((f : Int) + (i : Int)) % 3, 0, 4 + (sl : Int), 0, 1, 0, ⟨#[]⟩, none, 0, 0⟩ _ rfl _ rfl rfl (by omega) ?_; intro x' cap' w' hO' hT')
              have HB' := Lib.hid (HB8.out.turned hT')
              have HO' : Hid (OwnC (fun q => w1.heap.size < q) w' (.slice x' (k + 1) cap') (k + 1) 9 (bcells (M2 ++ [⟨11, 1 + ((f : Int) + (i : Int)) % 3, 0, 4 + (sl : Int), 0, 1, 0, ⟨#[]⟩, none, 0, 0⟩]))) := Lib.hid (by
                rw [← bcells_one]
                exact hO'.mono (fun q h => h.elim id (fun h => Nat.lt_of_lt_of_le HB8.out.2.1 h)))
              have HM' : Hid ((M2 ++ [(⟨11, 1 + ((f : Int) + (i : Int)) % 3, 0, 4 + (sl : Int), 0, 1, 0, ⟨#[]⟩, none, 0, 0⟩ : Bst)]).length = k + 1 ∧ Bud.Few 3 1 f (M2 ++ [(⟨11, 1 + ((f : Int) + (i : Int)) % 3, 0, 4 + (sl : Int), 0, 1, 0, ⟨#[]⟩, none, 0, 0⟩ : Bst)]) ∧ ∀ t : Nat, t < i + 1 → rotS ((1 + (f + t) % 3 : Nat) : Int) ((4 + sl : Nat) : Int) ∈ M2 ++ [(⟨11, 1 + ((f : Int) + (i : Int)) % 3, 0, 4 + (sl : Int), 0, 1, 0, ⟨#[]⟩, none, 0, 0⟩ : Bst)]) := Lib.hid (by
                rw [HE.out]
                refine ⟨by rw [List.length_append, HM.out.1]; rfl, HM.out.2.1.add (by omega) (by omega) (by omega), fun t ht => ?_⟩
                rw [List.mem_append]
                by_cases q : t = i
                · subst q; exact .inr (List.mem_singleton.2 rfl)
                · exact .inl (HM.out.2.2 t (by omega)))
              clear hO' hT' HB8 HO8 HB HO HM HE
              go_wp2_with fail
              go_roundw
              case rel => first | exact ⟨i + 1, k + 1, x', cap', _, by omega, by omega, by go_num, rfl, HM'.out.1, HM'.out.2.1, HM'.out.2.2, HB'.out, HO'.out⟩ | exact ⟨i + 1, k + 1, by omega, by omega, by omega, x', cap', ⟨rfl, rfl, rfl⟩, _, HM'.out.1, HM'.out.2.1, HM'.out.2.2, HB'.out, HO'.out⟩
              case measure => simp [intOf]; omega
            · obtain rfl : i = 1 := by omega
              have HA : Hid (∀ W, Below wr.heap.size wr W → (Calls Try.prog 27 #[.agg #[.int .i64 3, .int .i64 1], .slice x2 k cp2] W fun e w' => e = .returned (.bool true) ∧ Below W.heap.size W w') ∧ (Calls Try.prog 31 #[.agg #[.int .i64 3, .int .i64 1], .slice x2 k cp2] W fun e w' => e = .returned (.bool false) ∧ Below W.heap.size W w') ∧ Calls Try.prog 29 #[.agg #[.int .i64 3, .int .i64 1], .slice x2 k cp2] W fun e w' => e = .returned (.bool true) ∧ Below W.heap.size W w') := Lib.hid (fun W hb => by
                obtain ⟨h1, h2, h3⟩ := HM.out
                have hO := HO.out
                subst h1
                have h4 := hO.steps
                have e1 := bwithin_any 3 1 x2 cp2 M2 W (h4.1.later hb) (by omega) h4.2
                have e2 := bgrid_any 3 1 x2 cp2 M2 W (h4.1.later hb) (by omega) h4.2
                have e3 := brots_any 3 1 x2 cp2 M2 W (h4.1.later hb) (by omega) h4.2
                rw [show Bud.within 3 1 M2 = true from Bud.few_within (R := 3) (F := 1) (f := f) (by unfold Bud.RF; omega) hfR h2] at e1
                rw [show Bud.grid 3 1 M2 = false from Bud.few_grid (R := 3) h2] at e2
                rw [show Bud.rots 3 1 M2 = true from Bud.few_rots (R := 3) (F := 1) (by unfold Bud.RF; omega) (h3 0 (by omega)) (by omega) (by omega) (by omega)] at e3
                exact ⟨e1, e2, e3⟩)
              have HE : Hid ((⟨11, 1 + ((f : Int) + 1) % 3, 0, 12 + (sl : Int), 0, 1, 0, ⟨#[]⟩, none, 0, 0⟩ : Bst) = rotS ((1 + (f + 1) % 3 : Nat) : Int) ((12 + sl : Nat) : Int)) := Lib.hid (by unfold rotS; congr 1 <;> omega)
              have HX : Hid (∀ t : Nat, t < 1 + 1 → ∃ n : Nat, (n = 4 + sl ∨ n = 12 + sl) ∧ rotS ((1 + (f + t) % 3 : Nat) : Int) (n : Int) ∈ M2 ++ [(⟨11, 1 + ((f : Int) + 1) % 3, 0, 12 + (sl : Int), 0, 1, 0, ⟨#[]⟩, none, 0, 0⟩ : Bst)]) := Lib.hid (fun t ht => by
                rw [HE.out]
                by_cases q : t = 1
                · subst q; exact ⟨12 + sl, .inr rfl, List.mem_append.2 (.inr (List.mem_singleton.2 rfl))⟩
                · exact ⟨4 + sl, .inl rfl, List.mem_append.2 (.inl (HM.out.2.2 t (by omega)))⟩)
              go_wp2_with fail
              refine ((HA.out _ (Below.refl _ _)).1).mono ?_
              rintro e w4 ⟨rfl, hb4⟩
              have hS4 := HB.out.later hb4
              obtain ⟨s0, s1⟩ := hS4.2.2
              go_wp2_with fail
              refine ((HA.out _ hb4).2.1).mono ?_
              rintro e w5 ⟨rfl, hb5⟩
              have hS5 := hS4.later hb5
              have hb45 := hb4.trans (hb5.mono hb4.size)
              clear hb4 hb5 s0 s1 hS4
              obtain ⟨s0, s1⟩ := hS5.2.2
              go_wp2_with fail
              refine ((HA.out _ hb45).2.2).mono ?_
              rintro e w6 ⟨rfl, hb6⟩
              have HS6 := Lib.hid (hS5.later hb6)
              have HO6 := Lib.hid (HO.out.later (hb45.trans (hb6.mono hb45.size)))
              clear hb45 hb6 s0 s1 hS5 HA HO
              obtain ⟨s0, s1⟩ := HS6.out.2.2
              have hszw := HS6.out.2.1
              go_wp2_with fail
              refine (lrot_any _ _ _).mono ?_
              rintro e w8 ⟨rfl, hb8⟩
              have HB8 := Lib.hid (HS6.out.later hb8)
              have HO8 := Lib.hid (HO6.out.later hb8)
              go_wp2_with (refine app_stp rfl (Operand.tmp 97) (Operand.tmp 108) rfl rfl _ _ _ (bcells M2) rfl HO8.out ⟨11, 1 + ((f : Int) + 1) % 3, 0, 12 + (sl : Int), 0, 1, 0, ⟨#[]⟩, none, 0, 0⟩ _ rfl _ rfl rfl (by omega) ?_; intro x' cap' w' hO' hT'; obtain ⟨z0, z1⟩ := (HB8.out.turned hT').2.2)
              have HB' := Lib.hid (HB8.out.turned hT')
              have HL : Hid ((M2 ++ [(⟨11, 1 + ((f : Int) + 1) % 3, 0, 12 + (sl : Int), 0, 1, 0, ⟨#[]⟩, none, 0, 0⟩ : Bst)]).length = k + 1) := Lib.hid (by rw [List.length_append, HM.out.1]; rfl)
              have HO' := Lib.hid hO'
              clear hO' hT' HB8 HO8
              have HF : Hid (∀ W, Below w'.heap.size w' W → Calls Try.prog 27 #[.agg #[.int .i64 3, .int .i64 1], .slice x' (k + 1) cap'] W fun e w' => e = .returned (.bool false) ∧ Below W.heap.size W w') := Lib.hid (fun W hb => by
                have hO := HO'.out
                have hX := HX.out
                have hL := HL.out
                rw [bcells_one] at hO
                generalize M2 ++ [(⟨11, 1 + ((f : Int) + 1) % 3, 0, 12 + (sl : Int), 0, 1, 0, ⟨#[]⟩, none, 0, 0⟩ : Bst)] = M3 at *
                rw [← hL] at hO ⊢
                have h4 := hO.steps
                have e1 := bwithin_any 3 1 x' cap' M3 W (h4.1.later hb) (by omega) h4.2
                rwa [show Bud.within 3 1 M3 = false from Bud.few_too (R := 3) (F := 1) (f := f) (by unfold Bud.RF; omega) hfR hs8 hX] at e1)
              clear HX HE HL HO' HM
              refine (HF.out _ (Below.refl _ _)).mono ?_
              rintro e w9 ⟨rfl, hb9⟩
              go_wp2_with fail
              go_ret
              exact ⟨rfl, HB1.out.trans ((HB'.out.later hb9).1.mono HB1.out.size)⟩
        · have HE0 := Lib.hid (And.intro (HM.out.1) HM.out.2)
          go_wp2_with fail
          go_loopw [11, 14] (fun ov iv wr2 => ∃ (i k : Nat) (x2 : Option Addr) (cp2 : Nat) (M2 : List Bst), i ≤ 1 ∧ k ≤ 40 + i ∧ iv = .int .i64 (i : Int) ∧ ov = .slice x2 k cp2 ∧ M2.length = k ∧ Bud.Few 3 1 f M2 ∧ (∀ t : Nat, t < i → rotS ((1 + (f + t) % 3 : Nat) : Int) ((4 + sl : Nat) : Int) ∈ M2) ∧ Bs w1 wr2 3 1 ∧ OwnC (fun q => w1.heap.size < q) wr2 (.slice x2 k cp2) k 9 (bcells M2)) (fun _ iv _ => 1 + 1 - (intOf iv).toNat)
          case atStart => exact ⟨0, j, x, cp, M, by omega, by omega, rfl, rfl, HM.out.1, HM.out.2, fun t ht => absurd ht (by omega), HB.out, HO.out⟩
          case round =>
            clear HB HO HM HE0 hB s0 s1 hszw
            obtain ⟨i, k, x2, cp2, M2, hi, hk, rfl, rfl, hM, hMs, hMt, hB, hO⟩ := hrel
            have HB := Lib.hid hB
            have HO := Lib.hid hO
            have HM := Lib.hid (And.intro hM (And.intro hMs hMt))
            clear hO hM hMs hMt
            obtain ⟨s0, s1⟩ := hB.2.2
            have hszw := hB.2.1
            by_cases hlt2 : i < 1
            · have HE : Hid ((⟨11, 1 + ((f : Int) + (i : Int)) % 3, 0, 4 + (sl : Int), 0, 1, 0, ⟨#[]⟩, none, 0, 0⟩ : Bst) = rotS ((1 + (f + i) % 3 : Nat) : Int) ((4 + sl : Nat) : Int)) := Lib.hid (by unfold rotS; congr 1 <;> omega)
              have hlt2i : (i : Int) < 1 := by omega
              go_wp2_with fail
              refine (lrot_any _ _ _).mono ?_
              rintro e w8 ⟨rfl, hb8⟩
              have HB8 := Lib.hid (HB.out.later hb8)
              have HO8 := Lib.hid (HO.out.later hb8)
          
              go_wp2_with (refine app_stp rfl (Operand.tmp 69) (Operand.tmp 80) rfl rfl _ _ _ (bcells M2) rfl HO8.out ⟨11, 1 + ((f : Int) + (i : Int)) % 3, 0, 4 + (sl : Int), 0, 1, 0, ⟨#[]⟩, none, 0, 0⟩ _ rfl _ rfl rfl (by omega) ?_; intro x' cap' w' hO' hT')
              have HB' := Lib.hid (HB8.out.turned hT')
              have HO' : Hid (OwnC (fun q => w1.heap.size < q) w' (.slice x' (k + 1) cap') (k + 1) 9 (bcells (M2 ++ [⟨11, 1 + ((f : Int) + (i : Int)) % 3, 0, 4 + (sl : Int), 0, 1, 0, ⟨#[]⟩, none, 0, 0⟩]))) := Lib.hid (by
                rw [← bcells_one]
                exact hO'.mono (fun q h => h.elim id (fun h => Nat.lt_of_lt_of_le HB8.out.2.1 h)))
              have HM' : Hid ((M2 ++ [(⟨11, 1 + ((f : Int) + (i : Int)) % 3, 0, 4 + (sl : Int), 0, 1, 0, ⟨#[]⟩, none, 0, 0⟩ : Bst)]).length = k + 1 ∧ Bud.Few 3 1 f (M2 ++ [(⟨11, 1 + ((f : Int) + (i : Int)) % 3, 0, 4 + (sl : Int), 0, 1, 0, ⟨#[]⟩, none, 0, 0⟩ : Bst)]) ∧ ∀ t : Nat, t < i + 1 → rotS ((1 + (f + t) % 3 : Nat) : Int) ((4 + sl : Nat) : Int) ∈ M2 ++ [(⟨11, 1 + ((f : Int) + (i : Int)) % 3, 0, 4 + (sl : Int), 0, 1, 0, ⟨#[]⟩, none, 0, 0⟩ : Bst)]) := Lib.hid (by
                rw [HE.out]
                refine ⟨by rw [List.length_append, HM.out.1]; rfl, HM.out.2.1.add (by omega) (by omega) (by omega), fun t ht => ?_⟩
                rw [List.mem_append]
                by_cases q : t = i
                · subst q; exact .inr (List.mem_singleton.2 rfl)
                · exact .inl (HM.out.2.2 t (by omega)))
              clear hO' hT' HB8 HO8 HB HO HM HE
              go_wp2_with fail
              go_roundw
              case rel => first | exact ⟨i + 1, k + 1, x', cap', _, by omega, by omega, by go_num, rfl, HM'.out.1, HM'.out.2.1, HM'.out.2.2, HB'.out, HO'.out⟩ | exact ⟨i + 1, k + 1, by omega, by omega, by omega, x', cap', ⟨rfl, rfl, rfl⟩, _, HM'.out.1, HM'.out.2.1, HM'.out.2.2, HB'.out, HO'.out⟩
              case measure => simp [intOf]; omega
            · obtain rfl : i = 1 := by omega
              have HA : Hid (∀ W, Below wr.heap.size wr W → (Calls Try.prog 27 #[.agg #[.int .i64 3, .int .i64 1], .slice x2 k cp2] W fun e w' => e = .returned (.bool true) ∧ Below W.heap.size W w') ∧ (Calls Try.prog 31 #[.agg #[.int .i64 3, .int .i64 1], .slice x2 k cp2] W fun e w' => e = .returned (.bool false) ∧ Below W.heap.size W w') ∧ Calls Try.prog 29 #[.agg #[.int .i64 3, .int .i64 1], .slice x2 k cp2] W fun e w' => e = .returned (.bool true) ∧ Below W.heap.size W w') := Lib.hid (fun W hb => by
                obtain ⟨h1, h2, h3⟩ := HM.out
                have hO := HO.out
                subst h1
                have h4 := hO.steps
                have e1 := bwithin_any 3 1 x2 cp2 M2 W (h4.1.later hb) (by omega) h4.2
                have e2 := bgrid_any 3 1 x2 cp2 M2 W (h4.1.later hb) (by omega) h4.2
                have e3 := brots_any 3 1 x2 cp2 M2 W (h4.1.later hb) (by omega) h4.2
                rw [show Bud.within 3 1 M2 = true from Bud.few_within (R := 3) (F := 1) (f := f) (by unfold Bud.RF; omega) hfR h2] at e1
                rw [show Bud.grid 3 1 M2 = false from Bud.few_grid (R := 3) h2] at e2
                rw [show Bud.rots 3 1 M2 = true from Bud.few_rots (R := 3) (F := 1) (by unfold Bud.RF; omega) (h3 0 (by omega)) (by omega) (by omega) (by omega)] at e3
                exact ⟨e1, e2, e3⟩)
              have HE : Hid ((⟨11, 1 + ((f : Int) + 1) % 3, 0, 12 + (sl : Int), 0, 1, 0, ⟨#[]⟩, none, 0, 0⟩ : Bst) = rotS ((1 + (f + 1) % 3 : Nat) : Int) ((12 + sl : Nat) : Int)) := Lib.hid (by unfold rotS; congr 1 <;> omega)
              have HX : Hid (∀ t : Nat, t < 1 + 1 → ∃ n : Nat, (n = 4 + sl ∨ n = 12 + sl) ∧ rotS ((1 + (f + t) % 3 : Nat) : Int) (n : Int) ∈ M2 ++ [(⟨11, 1 + ((f : Int) + 1) % 3, 0, 12 + (sl : Int), 0, 1, 0, ⟨#[]⟩, none, 0, 0⟩ : Bst)]) := Lib.hid (fun t ht => by
                rw [HE.out]
                by_cases q : t = 1
                · subst q; exact ⟨12 + sl, .inr rfl, List.mem_append.2 (.inr (List.mem_singleton.2 rfl))⟩
                · exact ⟨4 + sl, .inl rfl, List.mem_append.2 (.inl (HM.out.2.2 t (by omega)))⟩)
              go_wp2_with fail
              refine ((HA.out _ (Below.refl _ _)).1).mono ?_
              rintro e w4 ⟨rfl, hb4⟩
              have hS4 := HB.out.later hb4
              obtain ⟨s0, s1⟩ := hS4.2.2
              go_wp2_with fail
              refine ((HA.out _ hb4).2.1).mono ?_
              rintro e w5 ⟨rfl, hb5⟩
              have hS5 := hS4.later hb5
              have hb45 := hb4.trans (hb5.mono hb4.size)
              clear hb4 hb5 s0 s1 hS4
              obtain ⟨s0, s1⟩ := hS5.2.2
              go_wp2_with fail
              refine ((HA.out _ hb45).2.2).mono ?_
              rintro e w6 ⟨rfl, hb6⟩
              have HS6 := Lib.hid (hS5.later hb6)
              have HO6 := Lib.hid (HO.out.later (hb45.trans (hb6.mono hb45.size)))
              clear hb45 hb6 s0 s1 hS5 HA HO
              obtain ⟨s0, s1⟩ := HS6.out.2.2
              have hszw := HS6.out.2.1
              go_wp2_with fail
              refine (lrot_any _ _ _).mono ?_
              rintro e w8 ⟨rfl, hb8⟩
              have HB8 := Lib.hid (HS6.out.later hb8)
              have HO8 := Lib.hid (HO6.out.later hb8)
              go_wp2_with (refine app_stp rfl (Operand.tmp 97) (Operand.tmp 108) rfl rfl _ _ _ (bcells M2) rfl HO8.out ⟨11, 1 + ((f : Int) + 1) % 3, 0, 12 + (sl : Int), 0, 1, 0, ⟨#[]⟩, none, 0, 0⟩ _ rfl _ rfl rfl (by omega) ?_; intro x' cap' w' hO' hT'; obtain ⟨z0, z1⟩ := (HB8.out.turned hT').2.2)
              have HB' := Lib.hid (HB8.out.turned hT')
              have HL : Hid ((M2 ++ [(⟨11, 1 + ((f : Int) + 1) % 3, 0, 12 + (sl : Int), 0, 1, 0, ⟨#[]⟩, none, 0, 0⟩ : Bst)]).length = k + 1) := Lib.hid (by rw [List.length_append, HM.out.1]; rfl)
              have HO' := Lib.hid hO'
              clear hO' hT' HB8 HO8
              have HF : Hid (∀ W, Below w'.heap.size w' W → Calls Try.prog 27 #[.agg #[.int .i64 3, .int .i64 1], .slice x' (k + 1) cap'] W fun e w' => e = .returned (.bool false) ∧ Below W.heap.size W w') := Lib.hid (fun W hb => by
                have hO := HO'.out
                have hX := HX.out
                have hL := HL.out
                rw [bcells_one] at hO
                generalize M2 ++ [(⟨11, 1 + ((f : Int) + 1) % 3, 0, 12 + (sl : Int), 0, 1, 0, ⟨#[]⟩, none, 0, 0⟩ : Bst)] = M3 at *
                rw [← hL] at hO ⊢
                have h4 := hO.steps
                have e1 := bwithin_any 3 1 x' cap' M3 W (h4.1.later hb) (by omega) h4.2
                rwa [show Bud.within 3 1 M3 = false from Bud.few_too (R := 3) (F := 1) (f := f) (by unfold Bud.RF; omega) hfR hs8 hX] at e1)
              clear HX HE HL HO' HM
              refine (HF.out _ (Below.refl _ _)).mono ?_
              rintro e w9 ⟨rfl, hb9⟩
              go_wp2_with fail
              go_ret
              exact ⟨rfl, HB1.out.trans ((HB'.out.later hb9).1.mono HB1.out.size)⟩
  | true =>
    go_enter Try.func9, Try.ntmps9
    go_wp2_with fail
    refine (awake25_any _).mono ?_
    rintro e w1 ⟨rfl, hb1⟩
    have HB1 := Lib.hid hb1
    clear hb1
    go_wp2_with fail
    obtain ⟨f, hf, hfR⟩ := wrapmod a1 (5 : Nat) (by decide) (by decide)
    obtain ⟨sl, hsl, hs8⟩ := wrapmod a3 (8 : Nat) (by decide) (by decide)
    rw [show ((5 : Nat) : Int) = 5 from rfl] at hf
    rw [show ((8 : Nat) : Int) = 8 from rfl] at hsl
    rw [hf, hsl]
    obtain ⟨w3, hw3⟩ : ∃ w3, w3 = (w1.alloc (.cells #[.int .i64 5, .int .i64 1] 29)).alloc (.cells #[] 34) := ⟨_, rfl⟩
    have HS3 : Hid (Bs w1 w3 5 1) := Lib.hid (by rw [hw3]; exact (Bs.start w1 5 1 _).later ((Below.refl _ _).alloc (Nat.le_refl _) _))
    have HO3 : Hid (OwnC (fun q => w1.heap.size < q) w3 (.slice (some ⟨w1.heap.size + 1, 0, none⟩) 0 0) 0 9 (bcells [])) := Lib.hid ⟨rfl, .inr ⟨w1.heap.size + 1, 0, 0, rfl, Nat.lt_succ_self _, by rw [hw3]; simp, Nat.le_refl _, fun j u hu => by simp [bcells] at hu, fun j hj => absurd hj (by omega)⟩⟩
    rw [← hw3]
    clear hw3 hf hsl
    obtain ⟨g0, hg0⟩ : ∃ g0, g0 = w1.heap.size + 1 := ⟨_, rfl⟩
    rw [← hg0] at HO3 ⊢
    clear hg0
    go_loopw [11, 12] (fun ov iv wr => ∃ (j : Nat) (x : Option Addr) (cp : Nat) (M : List Bst), j ≤ n2 ∧ j ≤ 40 ∧ iv = .int .i64 (j : Int) ∧ ov = .slice x j cp ∧ M.length = j ∧ Bud.Few 5 2 f M ∧ Bs w1 wr 5 1 ∧ OwnC (fun q => w1.heap.size < q) wr (.slice x j cp) j 9 (bcells M)) (fun _ iv _ => 41 - (intOf iv).toNat)
    case atStart => exact ⟨0, _, 0, [], by omega, by omega, rfl, rfl, rfl, Bud.Few.nil _ _ _, HS3.out, HO3.out⟩
    case round =>
      clear HS3 HO3
      obtain ⟨j, x, cp, M, hj, hj3, rfl, rfl, hM, hMs, hB, hO⟩ := hrel
      have HB := Lib.hid hB
      have HO := Lib.hid hO
      have HM := Lib.hid (And.intro hM hMs)
      clear hO hM hMs
      obtain ⟨s0, s1⟩ := hB.2.2
      have hszw := hB.2.1
      by_cases hlt : j < n2 ∧ j < 40
      · obtain ⟨hlt1, hlt2⟩ := hlt
        obtain ⟨y, hy⟩ : ∃ y, l2[j]? = some y := ⟨l2[j]'(by rw [← HN2.out]; exact hlt1), List.getElem?_eq_getElem _⟩
        obtain ⟨b2, off2, rfl, hcy⟩ := ints_at HI2.out j y hy
        have cy := (Below.cell (HB1.out.trans (hB.1.mono HB1.out.size)) (cell_lt hcy)).trans hcy
        obtain ⟨q, hq, hq16⟩ := wrapmod y (16 : Nat) (by decide) (by decide)
        rw [show ((16 : Nat) : Int) = 16 from rfl] at hq
        have HE : Hid ((⟨11, 1 + ((f : Int) + (j : Int) % 2) % 5, 0, 4 + (q : Int), 0, 1, 0, ⟨#[]⟩, none, 0, 0⟩ : Bst) = rotS ((1 + (f + j % 2) % 5 : Nat) : Int) ((4 + q : Nat) : Int)) := Lib.hid (by unfold rotS; congr 1 <;> omega)
        clear hy hcy
        go_wp2_with fail
        go_quiet (fail)
        go_wp2_with fail
        refine (lrot_any _ _ _).mono ?_
        rintro e w8 ⟨rfl, hb8⟩
        have HB8 := Lib.hid ((HB.out.later (Below.drewN2 (Below.refl _ _) _)).later hb8)
        have HO8 := Lib.hid ((HO.out.later (Below.drewN2 (Below.refl _ _) _)).later hb8)
        go_wp2_with (refine app_stp rfl (Operand.tmp 51) (Operand.tmp 62) rfl rfl _ _ _ (bcells M) rfl HO8.out ⟨11, 1 + ((f : Int) + (j : Int) % 2) % 5, 0, 4 + (q : Int), 0, 1, 0, ⟨#[]⟩, none, 0, 0⟩ _ rfl _ rfl rfl (by omega) ?_; intro x' cap' w' hO' hT')
        have HB' := Lib.hid (HB8.out.turned hT')
        have HO' : Hid (OwnC (fun q => w1.heap.size < q) w' (.slice x' (j + 1) cap') (j + 1) 9 (bcells (M ++ [⟨11, 1 + ((f : Int) + (j : Int) % 2) % 5, 0, 4 + (q : Int), 0, 1, 0, ⟨#[]⟩, none, 0, 0⟩]))) := Lib.hid (by
          rw [← bcells_one]
          exact hO'.mono (fun q h => h.elim id (fun h => Nat.lt_of_lt_of_le HB8.out.2.1 h)))
        have HM' : Hid ((M ++ [(⟨11, 1 + ((f : Int) + (j : Int) % 2) % 5, 0, 4 + (q : Int), 0, 1, 0, ⟨#[]⟩, none, 0, 0⟩ : Bst)]).length = j + 1 ∧ Bud.Few 5 2 f (M ++ [(⟨11, 1 + ((f : Int) + (j : Int) % 2) % 5, 0, 4 + (q : Int), 0, 1, 0, ⟨#[]⟩, none, 0, 0⟩ : Bst)])) := Lib.hid ⟨by rw [List.length_append, HM.out.1]; rfl, by
          rw [HE.out]
          exact HM.out.2.add (by omega) (by omega) (by omega)⟩
        clear hO' hT' HB8 HO8 HB HO HM HE
        go_wp2_with fail
        go_roundw
        case rel => first | exact ⟨j + 1, x', cap', _, by omega, by omega, by go_num, rfl, HM'.out.1, HM'.out.2, HB'.out, HO'.out⟩ | exact ⟨j + 1, by omega, by omega, by omega, x', cap', ⟨rfl, rfl, rfl⟩, _, HM'.out.1, HM'.out.2, HB'.out, HO'.out⟩
        case measure => simp [intOf]; omega
      · have hbr : (¬ j < n2) ∨ (j < n2 ∧ ¬ j < 40) := by omega
        clear hlt
        rcases hbr with q1 | ⟨q1, q2⟩
        · have HE0 := Lib.hid (And.intro (HM.out.1) HM.out.2)
          go_wp2_with fail
          go_loopw [11, 14] (fun ov iv wr2 => ∃ (i k : Nat) (x2 : Option Addr) (cp2 : Nat) (M2 : List Bst), i ≤ 2 ∧ k ≤ 40 + i ∧ iv = .int .i64 (i : Int) ∧ ov = .slice x2 k cp2 ∧ M2.length = k ∧ Bud.Few 5 2 f M2 ∧ (∀ t : Nat, t < i → rotS ((1 + (f + t) % 5 : Nat) : Int) ((4 + sl : Nat) : Int) ∈ M2) ∧ Bs w1 wr2 5 1 ∧ OwnC (fun q => w1.heap.size < q) wr2 (.slice x2 k cp2) k 9 (bcells M2)) (fun _ iv _ => 2 + 1 - (intOf iv).toNat)
          case atStart => exact ⟨0, j, x, cp, M, by omega, by omega, rfl, rfl, HM.out.1, HM.out.2, fun t ht => absurd ht (by omega), HB.out, HO.out⟩
          case round =>
            clear HB HO HM HE0 hB s0 s1 hszw
            obtain ⟨i, k, x2, cp2, M2, hi, hk, rfl, rfl, hM, hMs, hMt, hB, hO⟩ := hrel
            have HB := Lib.hid hB
            have HO := Lib.hid hO
            have HM := Lib.hid (And.intro hM (And.intro hMs hMt))
            clear hO hM hMs hMt
            obtain ⟨s0, s1⟩ := hB.2.2
            have hszw := hB.2.1
            by_cases hlt2 : i < 2
            · have HE : Hid ((⟨11, 1 + ((f : Int) + (i : Int)) % 5, 0, 4 + (sl : Int), 0, 1, 0, ⟨#[]⟩, none, 0, 0⟩ : Bst) = rotS ((1 + (f + i) % 5 : Nat) : Int) ((4 + sl : Nat) : Int)) := Lib.hid (by unfold rotS; congr 1 <;> omega)
              have hlt2i : (i : Int) < 2 := by omega
              go_wp2_with fail
              refine (lrot_any _ _ _).mono ?_
              rintro e w8 ⟨rfl, hb8⟩
              have HB8 := Lib.hid (HB.out.later hb8)
              have HO8 := Lib.hid (HO.out.later hb8)
          
              go_wp2_with (refine app_stp rfl (Operand.tmp 69) (Operand.tmp 80) rfl rfl _ _ _ (bcells M2) rfl HO8.out ⟨11, 1 + ((f : Int) + (i : Int)) % 5, 0, 4 + (sl : Int), 0, 1, 0, ⟨#[]⟩, none, 0, 0⟩ _ rfl _ rfl rfl (by omega) ?_; intro x' cap' w' hO' hT')
              have HB' := Lib.hid (HB8.out.turned hT')
              have HO' : Hid (OwnC (fun q => w1.heap.size < q) w' (.slice x' (k + 1) cap') (k + 1) 9 (bcells (M2 ++ [⟨11, 1 + ((f : Int) + (i : Int)) % 5, 0, 4 + (sl : Int), 0, 1, 0, ⟨#[]⟩, none, 0, 0⟩]))) := Lib.hid (by
                rw [← bcells_one]
                exact hO'.mono (fun q h => h.elim id (fun h => Nat.lt_of_lt_of_le HB8.out.2.1 h)))
              have HM' : Hid ((M2 ++ [(⟨11, 1 + ((f : Int) + (i : Int)) % 5, 0, 4 + (sl : Int), 0, 1, 0, ⟨#[]⟩, none, 0, 0⟩ : Bst)]).length = k + 1 ∧ Bud.Few 5 2 f (M2 ++ [(⟨11, 1 + ((f : Int) + (i : Int)) % 5, 0, 4 + (sl : Int), 0, 1, 0, ⟨#[]⟩, none, 0, 0⟩ : Bst)]) ∧ ∀ t : Nat, t < i + 1 → rotS ((1 + (f + t) % 5 : Nat) : Int) ((4 + sl : Nat) : Int) ∈ M2 ++ [(⟨11, 1 + ((f : Int) + (i : Int)) % 5, 0, 4 + (sl : Int), 0, 1, 0, ⟨#[]⟩, none, 0, 0⟩ : Bst)]) := Lib.hid (by
                rw [HE.out]
                refine ⟨by rw [List.length_append, HM.out.1]; rfl, HM.out.2.1.add (by omega) (by omega) (by omega), fun t ht => ?_⟩
                rw [List.mem_append]
                by_cases q : t = i
                · subst q; exact .inr (List.mem_singleton.2 rfl)
                · exact .inl (HM.out.2.2 t (by omega)))
              clear hO' hT' HB8 HO8 HB HO HM HE
              go_wp2_with fail
              go_roundw
              case rel => first | exact ⟨i + 1, k + 1, x', cap', _, by omega, by omega, by go_num, rfl, HM'.out.1, HM'.out.2.1, HM'.out.2.2, HB'.out, HO'.out⟩ | exact ⟨i + 1, k + 1, by omega, by omega, by omega, x', cap', ⟨rfl, rfl, rfl⟩, _, HM'.out.1, HM'.out.2.1, HM'.out.2.2, HB'.out, HO'.out⟩
              case measure => simp [intOf]; omega
            · obtain rfl : i = 2 := by omega
              have HA : Hid (∀ W, Below wr.heap.size wr W → (Calls Try.prog 27 #[.agg #[.int .i64 5, .int .i64 1], .slice x2 k cp2] W fun e w' => e = .returned (.bool true) ∧ Below W.heap.size W w') ∧ (Calls Try.prog 31 #[.agg #[.int .i64 5, .int .i64 1], .slice x2 k cp2] W fun e w' => e = .returned (.bool false) ∧ Below W.heap.size W w') ∧ Calls Try.prog 29 #[.agg #[.int .i64 5, .int .i64 1], .slice x2 k cp2] W fun e w' => e = .returned (.bool true) ∧ Below W.heap.size W w') := Lib.hid (fun W hb => by
                obtain ⟨h1, h2, h3⟩ := HM.out
                have hO := HO.out
                subst h1
                have h4 := hO.steps
                have e1 := bwithin_any 5 1 x2 cp2 M2 W (h4.1.later hb) (by omega) h4.2
                have e2 := bgrid_any 5 1 x2 cp2 M2 W (h4.1.later hb) (by omega) h4.2
                have e3 := brots_any 5 1 x2 cp2 M2 W (h4.1.later hb) (by omega) h4.2
                rw [show Bud.within 5 1 M2 = true from Bud.few_within (R := 5) (F := 2) (f := f) (by unfold Bud.RF; omega) hfR h2] at e1
                rw [show Bud.grid 5 1 M2 = false from Bud.few_grid (R := 5) h2] at e2
                rw [show Bud.rots 5 1 M2 = true from Bud.few_rots (R := 5) (F := 2) (by unfold Bud.RF; omega) (h3 0 (by omega)) (by omega) (by omega) (by omega)] at e3
                exact ⟨e1, e2, e3⟩)
              have HE : Hid ((⟨11, 1 + ((f : Int) + 2) % 5, 0, 12 + (sl : Int), 0, 1, 0, ⟨#[]⟩, none, 0, 0⟩ : Bst) = rotS ((1 + (f + 2) % 5 : Nat) : Int) ((12 + sl : Nat) : Int)) := Lib.hid (by unfold rotS; congr 1 <;> omega)
              have HX : Hid (∀ t : Nat, t < 2 + 1 → ∃ n : Nat, (n = 4 + sl ∨ n = 12 + sl) ∧ rotS ((1 + (f + t) % 5 : Nat) : Int) (n : Int) ∈ M2 ++ [(⟨11, 1 + ((f : Int) + 2) % 5, 0, 12 + (sl : Int), 0, 1, 0, ⟨#[]⟩, none, 0, 0⟩ : Bst)]) := Lib.hid (fun t ht => by
                rw [HE.out]
                by_cases q : t = 2
                · subst q; exact ⟨12 + sl, .inr rfl, List.mem_append.2 (.inr (List.mem_singleton.2 rfl))⟩
                · exact ⟨4 + sl, .inl rfl, List.mem_append.2 (.inl (HM.out.2.2 t (by omega)))⟩)
              go_wp2_with fail
              refine ((HA.out _ (Below.refl _ _)).1).mono ?_
              rintro e w4 ⟨rfl, hb4⟩
              have hS4 := HB.out.later hb4
              obtain ⟨s0, s1⟩ := hS4.2.2
              go_wp2_with fail
              refine ((HA.out _ hb4).2.1).mono ?_
              rintro e w5 ⟨rfl, hb5⟩
              have hS5 := hS4.later hb5
              have hb45 := hb4.trans (hb5.mono hb4.size)
              clear hb4 hb5 s0 s1 hS4
              obtain ⟨s0, s1⟩ := hS5.2.2
              go_wp2_with fail
              refine ((HA.out _ hb45).2.2).mono ?_
              rintro e w6 ⟨rfl, hb6⟩
              have HS6 := Lib.hid (hS5.later hb6)
              have HO6 := Lib.hid (HO.out.later (hb45.trans (hb6.mono hb45.size)))
              clear hb45 hb6 s0 s1 hS5 HA HO
              obtain ⟨s0, s1⟩ := HS6.out.2.2
              have hszw := HS6.out.2.1
              go_wp2_with fail
              refine (lrot_any _ _ _).mono ?_
              rintro e w8 ⟨rfl, hb8⟩
              have HB8 := Lib.hid (HS6.out.later hb8)
              have HO8 := Lib.hid (HO6.out.later hb8)
              go_wp2_with (refine app_stp rfl (Operand.tmp 97) (Operand.tmp 108) rfl rfl _ _ _ (bcells M2) rfl HO8.out ⟨11, 1 + ((f : Int) + 2) % 5, 0, 12 + (sl : Int), 0, 1, 0, ⟨#[]⟩, none, 0, 0⟩ _ rfl _ rfl rfl (by omega) ?_; intro x' cap' w' hO' hT'; obtain ⟨z0, z1⟩ := (HB8.out.turned hT').2.2)
              have HB' := Lib.hid (HB8.out.turned hT')
              have HL : Hid ((M2 ++ [(⟨11, 1 + ((f : Int) + 2) % 5, 0, 12 + (sl : Int), 0, 1, 0, ⟨#[]⟩, none, 0, 0⟩ : Bst)]).length = k + 1) := Lib.hid (by rw [List.length_append, HM.out.1]; rfl)
              have HO' := Lib.hid hO'
              clear hO' hT' HB8 HO8
              have HF : Hid (∀ W, Below w'.heap.size w' W → Calls Try.prog 27 #[.agg #[.int .i64 5, .int .i64 1], .slice x' (k + 1) cap'] W fun e w' => e = .returned (.bool false) ∧ Below W.heap.size W w') := Lib.hid (fun W hb => by
                have hO := HO'.out
                have hX := HX.out
                have hL := HL.out
                rw [bcells_one] at hO
                generalize M2 ++ [(⟨11, 1 + ((f : Int) + 2) % 5, 0, 12 + (sl : Int), 0, 1, 0, ⟨#[]⟩, none, 0, 0⟩ : Bst)] = M3 at *
                rw [← hL] at hO ⊢
                have h4 := hO.steps
                have e1 := bwithin_any 5 1 x' cap' M3 W (h4.1.later hb) (by omega) h4.2
                rwa [show Bud.within 5 1 M3 = false from Bud.few_too (R := 5) (F := 2) (f := f) (by unfold Bud.RF; omega) hfR hs8 hX] at e1)
              clear HX HE HL HO' HM
              refine (HF.out _ (Below.refl _ _)).mono ?_
              rintro e w9 ⟨rfl, hb9⟩
              go_wp2_with fail
              go_ret
              exact ⟨rfl, HB1.out.trans ((HB'.out.later hb9).1.mono HB1.out.size)⟩
        · have HE0 := Lib.hid (And.intro (HM.out.1) HM.out.2)
          go_wp2_with fail
          go_loopw [11, 14] (fun ov iv wr2 => ∃ (i k : Nat) (x2 : Option Addr) (cp2 : Nat) (M2 : List Bst), i ≤ 2 ∧ k ≤ 40 + i ∧ iv = .int .i64 (i : Int) ∧ ov = .slice x2 k cp2 ∧ M2.length = k ∧ Bud.Few 5 2 f M2 ∧ (∀ t : Nat, t < i → rotS ((1 + (f + t) % 5 : Nat) : Int) ((4 + sl : Nat) : Int) ∈ M2) ∧ Bs w1 wr2 5 1 ∧ OwnC (fun q => w1.heap.size < q) wr2 (.slice x2 k cp2) k 9 (bcells M2)) (fun _ iv _ => 2 + 1 - (intOf iv).toNat)
          case atStart => exact ⟨0, j, x, cp, M, by omega, by omega, rfl, rfl, HM.out.1, HM.out.2, fun t ht => absurd ht (by omega), HB.out, HO.out⟩
          case round =>
            clear HB HO HM HE0 hB s0 s1 hszw
            obtain ⟨i, k, x2, cp2, M2, hi, hk, rfl, rfl, hM, hMs, hMt, hB, hO⟩ := hrel
            have HB := Lib.hid hB
            have HO := Lib.hid hO
            have HM := Lib.hid (And.intro hM (And.intro hMs hMt))
            clear hO hM hMs hMt
            obtain ⟨s0, s1⟩ := hB.2.2
            have hszw := hB.2.1
            by_cases hlt2 : i < 2
            · have HE : Hid ((⟨11, 1 + ((f : Int) + (i : Int)) % 5, 0, 4 + (sl : Int), 0, 1, 0, ⟨#[]⟩, none, 0, 0⟩ : Bst) = rotS ((1 + (f + i) % 5 : Nat) : Int) ((4 + sl : Nat) : Int)) := Lib.hid (by unfold rotS; congr 1 <;> omega)
              have hlt2i : (i : Int) < 2 := by omega
              go_wp2_with fail
              refine (lrot_any _ _ _).mono ?_
              rintro e w8 ⟨rfl, hb8⟩
              have HB8 := Lib.hid (HB.out.later hb8)
              have HO8 := Lib.hid (HO.out.later hb8)
          
              go_wp2_with (refine app_stp rfl (Operand.tmp 69) (Operand.tmp 80) rfl rfl _ _ _ (bcells M2) rfl HO8.out ⟨11, 1 + ((f : Int) + (i : Int)) % 5, 0, 4 + (sl : Int), 0, 1, 0, ⟨#[]⟩, none, 0, 0⟩ _ rfl _ rfl rfl (by omega) ?_; intro x' cap' w' hO' hT')
              have HB' := Lib.hid (HB8.out.turned hT')
              have HO' : Hid (OwnC (fun q => w1.heap.size < q) w' (.slice x' (k + 1) cap') (k + 1) 9 (bcells (M2 ++ [⟨11, 1 + ((f : Int) + (i : Int)) % 5, 0, 4 + (sl : Int), 0, 1, 0, ⟨#[]⟩, none, 0, 0⟩]))) := Lib.hid (by
                rw [← bcells_one]
                exact hO'.mono (fun q h => h.elim id (fun h => Nat.lt_of_lt_of_le HB8.out.2.1 h)))
              have HM' : Hid ((M2 ++ [(⟨11, 1 + ((f : Int) + (i : Int)) % 5, 0, 4 + (sl : Int), 0, 1, 0, ⟨#[]⟩, none, 0, 0⟩ : Bst)]).length = k + 1 ∧ Bud.Few 5 2 f (M2 ++ [(⟨11, 1 + ((f : Int) + (i : Int)) % 5, 0, 4 + (sl : Int), 0, 1, 0, ⟨#[]⟩, none, 0, 0⟩ : Bst)]) ∧ ∀ t : Nat, t < i + 1 → rotS ((1 + (f + t) % 5 : Nat) : Int) ((4 + sl : Nat) : Int) ∈ M2 ++ [(⟨11, 1 + ((f : Int) + (i : Int)) % 5, 0, 4 + (sl : Int), 0, 1, 0, ⟨#[]⟩, none, 0, 0⟩ : Bst)]) := Lib.hid (by
                rw [HE.out]
                refine ⟨by rw [List.length_append, HM.out.1]; rfl, HM.out.2.1.add (by omega) (by omega) (by omega), fun t ht => ?_⟩
                rw [List.mem_append]
                by_cases q : t = i
                · subst q; exact .inr (List.mem_singleton.2 rfl)
                · exact .inl (HM.out.2.2 t (by omega)))
              clear hO' hT' HB8 HO8 HB HO HM HE
              go_wp2_with fail
              go_roundw
              case rel => first | exact ⟨i + 1, k + 1, x', cap', _, by omega, by omega, by go_num, rfl, HM'.out.1, HM'.out.2.1, HM'.out.2.2, HB'.out, HO'.out⟩ | exact ⟨i + 1, k + 1, by omega, by omega, by omega, x', cap', ⟨rfl, rfl, rfl⟩, _, HM'.out.1, HM'.out.2.1, HM'.out.2.2, HB'.out, HO'.out⟩
              case measure => simp [intOf]; omega
            · obtain rfl : i = 2 := by omega
              have HA : Hid (∀ W, Below wr.heap.size wr W → (Calls Try.prog 27 #[.agg #[.int .i64 5, .int .i64 1], .slice x2 k cp2] W fun e w' => e = .returned (.bool true) ∧ Below W.heap.size W w') ∧ (Calls Try.prog 31 #[.agg #[.int .i64 5, .int .i64 1], .slice x2 k cp2] W fun e w' => e = .returned (.bool false) ∧ Below W.heap.size W w') ∧ Calls Try.prog 29 #[.agg #[.int .i64 5, .int .i64 1], .slice x2 k cp2] W fun e w' => e = .returned (.bool true) ∧ Below W.heap.size W w') := Lib.hid (fun W hb => by
                obtain ⟨h1, h2, h3⟩ := HM.out
                have hO := HO.out
                subst h1
                have h4 := hO.steps
                have e1 := bwithin_any 5 1 x2 cp2 M2 W (h4.1.later hb) (by omega) h4.2
                have e2 := bgrid_any 5 1 x2 cp2 M2 W (h4.1.later hb) (by omega) h4.2
                have e3 := brots_any 5 1 x2 cp2 M2 W (h4.1.later hb) (by omega) h4.2
                rw [show Bud.within 5 1 M2 = true from Bud.few_within (R := 5) (F := 2) (f := f) (by unfold Bud.RF; omega) hfR h2] at e1
                rw [show Bud.grid 5 1 M2 = false from Bud.few_grid (R := 5) h2] at e2
                rw [show Bud.rots 5 1 M2 = true from Bud.few_rots (R := 5) (F := 2) (by unfold Bud.RF; omega) (h3 0 (by omega)) (by omega) (by omega) (by omega)] at e3
                exact ⟨e1, e2, e3⟩)
              have HE : Hid ((⟨11, 1 + ((f : Int) + 2) % 5, 0, 12 + (sl : Int), 0, 1, 0, ⟨#[]⟩, none, 0, 0⟩ : Bst) = rotS ((1 + (f + 2) % 5 : Nat) : Int) ((12 + sl : Nat) : Int)) := Lib.hid (by unfold rotS; congr 1 <;> omega)
              have HX : Hid (∀ t : Nat, t < 2 + 1 → ∃ n : Nat, (n = 4 + sl ∨ n = 12 + sl) ∧ rotS ((1 + (f + t) % 5 : Nat) : Int) (n : Int) ∈ M2 ++ [(⟨11, 1 + ((f : Int) + 2) % 5, 0, 12 + (sl : Int), 0, 1, 0, ⟨#[]⟩, none, 0, 0⟩ : Bst)]) := Lib.hid (fun t ht => by
                rw [HE.out]
                by_cases q : t = 2
                · subst q; exact ⟨12 + sl, .inr rfl, List.mem_append.2 (.inr (List.mem_singleton.2 rfl))⟩
                · exact ⟨4 + sl, .inl rfl, List.mem_append.2 (.inl (HM.out.2.2 t (by omega)))⟩)
              go_wp2_with fail
              refine ((HA.out _ (Below.refl _ _)).1).mono ?_
              rintro e w4 ⟨rfl, hb4⟩
              have hS4 := HB.out.later hb4
              obtain ⟨s0, s1⟩ := hS4.2.2
              go_wp2_with fail
              refine ((HA.out _ hb4).2.1).mono ?_
              rintro e w5 ⟨rfl, hb5⟩
              have hS5 := hS4.later hb5
              have hb45 := hb4.trans (hb5.mono hb4.size)
              clear hb4 hb5 s0 s1 hS4
              obtain ⟨s0, s1⟩ := hS5.2.2
              go_wp2_with fail
              refine ((HA.out _ hb45).2.2).mono ?_
              rintro e w6 ⟨rfl, hb6⟩
              have HS6 := Lib.hid (hS5.later hb6)
              have HO6 := Lib.hid (HO.out.later (hb45.trans (hb6.mono hb45.size)))
              clear hb45 hb6 s0 s1 hS5 HA HO
              obtain ⟨s0, s1⟩ := HS6.out.2.2
              have hszw := HS6.out.2.1
              go_wp2_with fail
              refine (lrot_any _ _ _).mono ?_
              rintro e w8 ⟨rfl, hb8⟩
              have HB8 := Lib.hid (HS6.out.later hb8)
              have HO8 := Lib.hid (HO6.out.later hb8)
              go_wp2_with (refine app_stp rfl (Operand.tmp 97) (Operand.tmp 108) rfl rfl _ _ _ (bcells M2) rfl HO8.out ⟨11, 1 + ((f : Int) + 2) % 5, 0, 12 + (sl : Int), 0, 1, 0, ⟨#[]⟩, none, 0, 0⟩ _ rfl _ rfl rfl (by omega) ?_; intro x' cap' w' hO' hT'; obtain ⟨z0, z1⟩ := (HB8.out.turned hT').2.2)
              have HB' := Lib.hid (HB8.out.turned hT')
              have HL : Hid ((M2 ++ [(⟨11, 1 + ((f : Int) + 2) % 5, 0, 12 + (sl : Int), 0, 1, 0, ⟨#[]⟩, none, 0, 0⟩ : Bst)]).length = k + 1) := Lib.hid (by rw [List.length_append, HM.out.1]; rfl)
              have HO' := Lib.hid hO'
              clear hO' hT' HB8 HO8
              have HF : Hid (∀ W, Below w'.heap.size w' W → Calls Try.prog 27 #[.agg #[.int .i64 5, .int .i64 1], .slice x' (k + 1) cap'] W fun e w' => e = .returned (.bool false) ∧ Below W.heap.size W w') := Lib.hid (fun W hb => by
                have hO := HO'.out
                have hX := HX.out
                have hL := HL.out
                rw [bcells_one] at hO
                generalize M2 ++ [(⟨11, 1 + ((f : Int) + 2) % 5, 0, 12 + (sl : Int), 0, 1, 0, ⟨#[]⟩, none, 0, 0⟩ : Bst)] = M3 at *
                rw [← hL] at hO ⊢
                have h4 := hO.steps
                have e1 := bwithin_any 5 1 x' cap' M3 W (h4.1.later hb) (by omega) h4.2
                rwa [show Bud.within 5 1 M3 = false from Bud.few_too (R := 5) (F := 2) (f := f) (by unfold Bud.RF; omega) hfR hs8 hX] at e1)
              clear HX HE HL HO' HM
              refine (HF.out _ (Below.refl _ _)).mono ?_
              rintro e w9 ⟨rfl, hb9⟩
              go_wp2_with fail
              go_ret
              exact ⟨rfl, HB1.out.trans ((HB'.out.later hb9).1.mono HB1.out.size)⟩
theorem walkBudgetFew (w : World) (a0 : Bool) (a1 : Int) (p2 : Option Addr) (cap2 : Nat) (l2 : List Int) (a3 : Int) (b1 : -9223372036854775808 ≤ a1 ∧ a1 ≤ 9223372036854775807) (h2 : IntsAt w p2 l2) (c2 : l2.length ≤ cap2) (m2 : cap2 ≤ maxLen) (t2 : ∀ x ∈ l2, -9223372036854775808 ≤ x ∧ x ≤ 9223372036854775807) (b3 : -9223372036854775808 ≤ a3 ∧ a3 ≤ 9223372036854775807) :
    Calls Try.prog 9 #[.bool a0, .int .i64 a1, .slice p2 l2.length cap2, .int .i64 a3] w fun e w' => e = .returned (.bool true) ∧ Below w.heap.size w w' := bfew_core w a0 a1 p2 cap2 l2 a3 b1 h2 c2 m2 t2 b3
end Go.Proofs.Ytecaahcmebdglaa

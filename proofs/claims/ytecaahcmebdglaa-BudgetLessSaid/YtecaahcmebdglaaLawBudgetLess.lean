/-
  For every input the law BudgetLess returns true, and each argument reads behind the call as it read before.
  Conditions: none but the row's own (the form's reach: each string, slice and map takes at most 2^47 - 4096 bytes).
-/
import Derived.Test.YtecaahcmebdglaaRows
import Derived.Test.YtecaahcmebdglaaSlS
import Derived.Test.YtecaahcmebdglaaAgg
import Derived.Test.YtecaahcmebdglaaBudJ
import Derived.WalkKit
import Derived.ProofKit
import Derived.OpenShut
import Derived.ShutString
import Derived.ChangeOld
import Derived.Below
import Derived.SizedLaws
namespace Go.Proofs.Ytecaahcmebdglaa.budgetLess
open Go.ChangeShapes Go.WideShapes Go.ChangeAt Go.RowKit
open Go.ChangeMaps (open_string shut_string)
set_option linter.unusedVariables false

theorem own : ownKnob Try.prog.godebug = none := by kernel_rfl
theorem laidOut : laidOutB Try.prog = true := by kernel_rfl

set_option maxRecDepth 100000 in
theorem lifted (os : Os) (started : os.Started) (H : Type) (enc : TypeId × Value → H) :
    ReturnsInHanded {} Try.checked os 7 .any (Rows.budgetLessSpec.pre6 enc Try.prog Try.f7 Rows.budgetLessRow.domain false) (Rows.budgetLessSpec.post enc Try.prog Try.f7 false true false false) := by
  refine returnsInHanded_of_change_sized (C := Try.checked) own started (by kernel_rfl) Try.func7
    (ChangeSpec.witness6 (enc := enc) (C := Try.checked) false ⟨#[], #[.agg #[.int .i64 0, .int .i64 0], .slice none 0 0, .slice none 0 0], []⟩ 8 (by kernel_rfl) (by kernel_rfl) (by kernel_rfl) (by kernel_rfl)) ?_
  intro W base args ds gs before hval0 hW hcnd hsz0 _
  have hsz : (DataW.weightsEach Try.prog (Try.f7.params.toList ++ Rows.budgetLessSpec.plain.varTypes Try.prog) (ds ++ gs)).all (· ≤ reachBytes) = true := hsz0
  clear hsz0
  have hval : ∀ (j : Nat) t v, Try.f7.params[j]? = some t → args[j]? = some v → Value.okWide Try.prog W .any base t v := hval0
  have hW' := hW
  obtain ⟨p, q, hA0, hV, rfl, hfz, hnd⟩ := hW
  have hA : DataW.TrodAll enc Try.prog W 0 (fun _ => true) true Try.f7.params.toList args.toList ds p := hA0
  rw [Try.params7] at hA hval hsz
  obtain ⟨v0, vs0, d0, ds0, p0, q0, hargs, rfl, rfl, h0, r0⟩ := trodAll_cons hA
  obtain ⟨v1, vs1, d1, ds1, p1, q1, rfl, rfl, rfl, h1, r1⟩ := trodAll_cons r0
  obtain ⟨v2, vs2, d2, ds2, p2, q2, rfl, rfl, rfl, h2, r2⟩ := trodAll_cons r1
  obtain ⟨rfl, rfl, rfl⟩ := trodAll_nil r2
  obtain rfl : args = #[v0, v1, v2] := by cases args; simp_all
  obtain ⟨rfl, rfl⟩ := trodVars_none hV
  have k0 := h0
  have lt0 : ∀ x ∈ p0, x.block < W.heap.size := by obtain ⟨m, hm⟩ := k0; exact DataW.trod_lt m _ _ _ hm
  have k1 := h1
  have lt1 : ∀ x ∈ p1, x.block < W.heap.size := by obtain ⟨m, hm⟩ := k1; exact DataW.trod_lt m _ _ _ hm
  have k2 := h2
  have lt2 : ∀ x ∈ p2, x.block < W.heap.size := by obtain ⟨m, hm⟩ := k2; exact DataW.trod_lt m _ _ _ hm
  obtain ⟨cs0, rfl, cl0, n0, ys0, rfl, rfl, yl0, f0⟩ := open_agg Try.underlying29 (by kernel_rfl) 2 rfl (by kernel_rfl) (hval 0 29 v0 rfl rfl) h0
  obtain ⟨z0_0, z0_1, rfl⟩ := list_of2 cs0 cl0
  obtain ⟨y0_0, e0_0, t0_0⟩ := f0 0 _ _ rfl rfl
  obtain ⟨a0_0, q0_0, -, w0_0⟩ := DataW.trod_int Try.underlying3 t0_0
  obtain rfl := (List.cons.inj q0_0).1
  have b0_0 := bounds_i64 w0_0
  obtain ⟨y0_1, e0_1, t0_1⟩ := f0 1 _ _ rfl rfl
  obtain ⟨a0_1, q0_1, -, w0_1⟩ := DataW.trod_int Try.underlying3 t0_1
  obtain rfl := (List.cons.inj q0_1).1
  have b0_1 := bounds_i64 w0_1
  obtain ⟨ad1, len1, cap1, rfl⟩ := okWide_slice Try.underlying30 (hval 1 30 v1 rfl rfl)
  obtain ⟨L1, rfl, cc1, mm1, hh1, uu1⟩ := open_structs Try.underlying30 Try.underlying34 (by kernel_rfl) 9 rfl (by kernel_rfl) h1
  have tt1 : ∀ r ∈ L1, ∃ (c0 : Int) (c1 : Int) (c2 : Int) (c3 : Int) (c4 : Int) (c5 : Int) (c6 : Int) (c7 : ByteArray) (c8 : Option Addr) (d8 : Nat) (g8 : Nat), r = [.int .i64 c0, .int .i64 c1, .int .i64 c2, .int .i64 c3, .int .i64 c4, .int .i64 c5, .int .i64 c6, .string c7, .slice c8 d8 g8] ∧ (-9223372036854775808 ≤ c0 ∧ c0 ≤ 9223372036854775807) ∧ (-9223372036854775808 ≤ c1 ∧ c1 ≤ 9223372036854775807) ∧ (-9223372036854775808 ≤ c2 ∧ c2 ≤ 9223372036854775807) ∧ (-9223372036854775808 ≤ c3 ∧ c3 ≤ 9223372036854775807) ∧ (-9223372036854775808 ≤ c4 ∧ c4 ≤ 9223372036854775807) ∧ (-9223372036854775808 ≤ c5 ∧ c5 ≤ 9223372036854775807) ∧ (-9223372036854775808 ≤ c6 ∧ c6 ≤ 9223372036854775807) := by
    intro r hr
    obtain ⟨hl, ff⟩ := uu1 r hr
    obtain ⟨e0, e1, e2, e3, e4, e5, e6, e7, e8, rfl⟩ := list_of9 r hl
    obtain ⟨y0, n0, t0⟩ := ff 0 _ _ rfl rfl
    obtain ⟨c0, q0, -, w0⟩ := DataW.trod_int Try.underlying3 t0
    obtain rfl := (List.cons.inj q0).1
    obtain ⟨y1, n1, t1⟩ := ff 1 _ _ rfl rfl
    obtain ⟨c1, q1, -, w1⟩ := DataW.trod_int Try.underlying3 t1
    obtain rfl := (List.cons.inj q1).1
    obtain ⟨y2, n2, t2⟩ := ff 2 _ _ rfl rfl
    obtain ⟨c2, q2, -, w2⟩ := DataW.trod_int Try.underlying3 t2
    obtain rfl := (List.cons.inj q2).1
    obtain ⟨y3, n3, t3⟩ := ff 3 _ _ rfl rfl
    obtain ⟨c3, q3, -, w3⟩ := DataW.trod_int Try.underlying3 t3
    obtain rfl := (List.cons.inj q3).1
    obtain ⟨y4, n4, t4⟩ := ff 4 _ _ rfl rfl
    obtain ⟨c4, q4, -, w4⟩ := DataW.trod_int Try.underlying3 t4
    obtain rfl := (List.cons.inj q4).1
    obtain ⟨y5, n5, t5⟩ := ff 5 _ _ rfl rfl
    obtain ⟨c5, q5, -, w5⟩ := DataW.trod_int Try.underlying3 t5
    obtain rfl := (List.cons.inj q5).1
    obtain ⟨y6, n6, t6⟩ := ff 6 _ _ rfl rfl
    obtain ⟨c6, q6, -, w6⟩ := DataW.trod_int Try.underlying3 t6
    obtain rfl := (List.cons.inj q6).1
    obtain ⟨y7, n7, t7⟩ := ff 7 _ _ rfl rfl
    obtain ⟨c7, q7, -⟩ := DataW.trod_string Try.underlying9 t7
    obtain rfl := (List.cons.inj q7).1
    obtain ⟨y8, n8, t8⟩ := ff 8 _ _ rfl rfl
    obtain ⟨c8, d8, g8, rfl⟩ := slice_cell Try.underlying31 t8
    exact ⟨_, _, _, _, _, _, _, _, _, _, _, rfl, bounds_i64 w0, bounds_i64 w1, bounds_i64 w2, bounds_i64 w3, bounds_i64 w4, bounds_i64 w5, bounds_i64 w6⟩
  obtain ⟨ad2, len2, cap2, rfl⟩ := okWide_slice Try.underlying31 (hval 2 31 v2 rfl rfl)
  obtain ⟨L2, nl2, hh2, cc2, mm2, tt2⟩ : ∃ L : List Int, len2 = L.length ∧ IntsAt W ad2 L ∧ L.length ≤ cap2 ∧ cap2 ≤ maxLen ∧ ∀ x ∈ L, -9223372036854775808 ≤ x ∧ x ≤ 9223372036854775807 := by
    obtain ⟨fuel, hf⟩ := h2
    rcases open_ints Try.underlying31 Try.underlying3 (by kernel_rfl) hf with ⟨hcs, _⟩ | ⟨x, l, c, zs, hcs, _, hl, hm, hz, hx, hcell, hwz⟩
    · simp [Value.cells] at hcs
      obtain ⟨rfl, rfl, rfl⟩ := hcs
      exact ⟨[], rfl, intsAt_nil W, Nat.le_refl _, by unfold maxLen; omega, fun x h => by cases h⟩
    · simp [Value.cells] at hcs
      obtain ⟨rfl, rfl, rfl⟩ := hcs
      have hz' : zs.length = cap2 := by simpa using hz
      obtain ⟨L, hL, hH, hB⟩ := intsAt_of hl hz' hcell hwz
      exact ⟨L, hL, hH, by omega, hm, hB⟩
  subst nl2
  clear hA0 hval0
  refine (walkBudgetLess W a0_0 a0_1 ad1 cap1 L1 ad2 cap2 L2 b0_0 b0_1 hh1 cc1 mm1 tt1 hh2 cc2 mm2 tt2).mono fun e W' ⟨he, bel⟩ => ?_
  subst he
  exact ⟨_, rfl, _, _, _, [], _, [], hW', trodAll_mk1 (shut_bool Try.underlying4 _), (trodAll_cons_mk (Below.trod laidOut (by kernel_rfl) (of_decide_eq_true (by kernel_rfl)) k0 bel lt0) (trodAll_cons_mk (Below.trod laidOut (by kernel_rfl) (of_decide_eq_true (by kernel_rfl)) k1 bel lt1) (trodAll_cons_mk (Below.trod laidOut (by kernel_rfl) (of_decide_eq_true (by kernel_rfl)) k2 bel lt2) trodAll_mk0))), rfl, bel.frame _, fun h => by cases h⟩

theorem over : Rows.budgetLessRow.holds Try.pinned (OpenSpec.ofChange Rows.budgetLessSpec) :=
  OpenClaim.holds_of_wide 7 Try.f7 rfl rfl rfl rfl rfl rfl rfl ⟨rfl, rfl, rfl, rfl, rfl⟩ rfl rfl rfl rfl rfl (by kernel_rfl) Try.func7 (by kernel_rfl)
    (of_decide_eq_true (by kernel_rfl)) (by unfold Func.isWrapper; first | (rw [if_pos (by decide +kernel)]; kernel_rfl) | (rw [if_neg (by decide +kernel)]; exact ⟨rfl, rfl⟩))
    (fun os started H enc _ => lifted os started H enc)

/-- The statement. -/
theorem proved : Rows.BudgetLessSaid := over
#print axioms proved
end Go.Proofs.Ytecaahcmebdglaa.budgetLess

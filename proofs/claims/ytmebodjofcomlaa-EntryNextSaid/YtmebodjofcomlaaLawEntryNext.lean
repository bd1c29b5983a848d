/-
  For every input the law EntryNext returns true, and each argument reads behind the call as it read before.
  Conditions: none but the row's own (the form's reach: each string, slice and map takes at most 2^47 - 4096 bytes).
-/
import Derived.Test.YtmebodjofcomlaaRows
import Derived.Test.YtmebodjofcomlaaAgg
import Derived.Test.YtmebodjofcomlaaEntE
import Derived.WalkKit
import Derived.ProofKit
import Derived.OpenShut
import Derived.ShutString
import Derived.ChangeOld
import Derived.Below
import Derived.SizedLaws
namespace Go.Proofs.Ytmebodjofcomlaa.entryNext
open Go.ChangeShapes Go.WideShapes Go.ChangeAt Go.RowKit
open Go.ChangeMaps (open_string shut_string)
set_option linter.unusedVariables false

theorem own : ownKnob Try.prog.godebug = none := by kernel_rfl
theorem laidOut : laidOutB Try.prog = true := by kernel_rfl

set_option maxRecDepth 100000 in
theorem lifted (os : Os) (started : os.Started) (H : Type) (enc : TypeId × Value → H) :
    ReturnsInHanded {} Try.checked os 3 .any (Rows.entryNextSpec.pre6 enc Try.prog Try.f3 Rows.entryNextRow.domain false) (Rows.entryNextSpec.post enc Try.prog Try.f3 false true false false) := by
  refine returnsInHanded_of_change_sized (C := Try.checked) own started (by kernel_rfl) Try.func3
    (ChangeSpec.witness6 (enc := enc) (C := Try.checked) false ⟨#[], #[.agg #[.int .i64 0, .int .i64 0, .int .u64 0], .agg #[.int .i64 0, .int .i64 0, .int .u64 0], .agg #[.int .i64 0, .int .i64 0, .int .i64 0, .int .u64 0, .int .i64 0, .int .i64 0, .int .i64 0, .int .i64 0, .string ByteArray.empty]], []⟩ 8 (by kernel_rfl) (by kernel_rfl) (by kernel_rfl) (by kernel_rfl)) ?_
  intro W base args ds gs before hval0 hW hcnd hsz0 _
  have hsz : (DataW.weightsEach Try.prog (Try.f3.params.toList ++ Rows.entryNextSpec.plain.varTypes Try.prog) (ds ++ gs)).all (· ≤ reachBytes) = true := hsz0
  clear hsz0
  have hval : ∀ (j : Nat) t v, Try.f3.params[j]? = some t → args[j]? = some v → Value.okWide Try.prog W .any base t v := hval0
  have hW' := hW
  obtain ⟨p, q, hA0, hV, rfl, hfz, hnd⟩ := hW
  have hA : DataW.TrodAll enc Try.prog W 0 (fun _ => true) true Try.f3.params.toList args.toList ds p := hA0
  rw [Try.params3] at hA hval hsz
  obtain ⟨v0, vs0, d0, ds0, p0, q0, hargs, rfl, rfl, h0, r0⟩ := trodAll_cons hA
  obtain ⟨v1, vs1, d1, ds1, p1, q1, rfl, rfl, rfl, h1, r1⟩ := trodAll_cons r0
  obtain ⟨v2, vs2, d2, ds2, p2, q2, rfl, rfl, rfl, h2, r2⟩ := trodAll_cons r1
  obtain ⟨rfl, rfl, rfl⟩ := trodAll_nil r2
  obtain rfl : args = #[v0, v1, v2] := by cases args; simp_all
  obtain ⟨rfl, rfl⟩ := trodVars_none hV
  have k0 := h0
  have lt0 : ∀ x ∈ p0, x.block < W.heap.size := by obtain ⟨m, hm⟩ := k0; exact DataW.trod_lt m _ _ _ hm
  have k1 := h1
  have lt1 : ∀ x ∈ p1, x.block < W.heap.size := by obtain ⟨m, hm⟩ := k1; exact DataW.trod_lt m _ _ _ hm
  have k2 := h2
  have lt2 : ∀ x ∈ p2, x.block < W.heap.size := by obtain ⟨m, hm⟩ := k2; exact DataW.trod_lt m _ _ _ hm
  obtain ⟨cs0, rfl, cl0, n0, ys0, rfl, rfl, yl0, f0⟩ := open_agg Try.underlying24 (by kernel_rfl) 3 rfl (by kernel_rfl) (hval 0 24 v0 rfl rfl) h0
  obtain ⟨z0_0, z0_1, z0_2, rfl⟩ := list_of3 cs0 cl0
  obtain ⟨y0_0, e0_0, t0_0⟩ := f0 0 _ _ rfl rfl
  obtain ⟨a0_0, q0_0, -, w0_0⟩ := DataW.trod_int Try.underlying3 t0_0
  obtain rfl := (List.cons.inj q0_0).1
  have b0_0 := bounds_i64 w0_0
  obtain ⟨y0_1, e0_1, t0_1⟩ := f0 1 _ _ rfl rfl
  obtain ⟨a0_1, q0_1, -, w0_1⟩ := DataW.trod_int Try.underlying3 t0_1
  obtain rfl := (List.cons.inj q0_1).1
  have b0_1 := bounds_i64 w0_1
  obtain ⟨y0_2, e0_2, t0_2⟩ := f0 2 _ _ rfl rfl
  obtain ⟨a0_2, q0_2, -, w0_2⟩ := DataW.trod_int Try.underlying22 t0_2
  obtain rfl := (List.cons.inj q0_2).1
  have b0_2 := bounds_u64 w0_2
  obtain ⟨cs1, rfl, cl1, n1, ys1, rfl, rfl, yl1, f1⟩ := open_agg Try.underlying24 (by kernel_rfl) 3 rfl (by kernel_rfl) (hval 1 24 v1 rfl rfl) h1
  obtain ⟨z1_0, z1_1, z1_2, rfl⟩ := list_of3 cs1 cl1
  obtain ⟨y1_0, e1_0, t1_0⟩ := f1 0 _ _ rfl rfl
  obtain ⟨a1_0, q1_0, -, w1_0⟩ := DataW.trod_int Try.underlying3 t1_0
  obtain rfl := (List.cons.inj q1_0).1
  have b1_0 := bounds_i64 w1_0
  obtain ⟨y1_1, e1_1, t1_1⟩ := f1 1 _ _ rfl rfl
  obtain ⟨a1_1, q1_1, -, w1_1⟩ := DataW.trod_int Try.underlying3 t1_1
  obtain rfl := (List.cons.inj q1_1).1
  have b1_1 := bounds_i64 w1_1
  obtain ⟨y1_2, e1_2, t1_2⟩ := f1 2 _ _ rfl rfl
  obtain ⟨a1_2, q1_2, -, w1_2⟩ := DataW.trod_int Try.underlying22 t1_2
  obtain rfl := (List.cons.inj q1_2).1
  have b1_2 := bounds_u64 w1_2
  obtain ⟨cs2, rfl, cl2, n2, ys2, rfl, rfl, yl2, f2⟩ := open_agg Try.underlying26 (by kernel_rfl) 9 rfl (by kernel_rfl) (hval 2 26 v2 rfl rfl) h2
  obtain ⟨z2_0, z2_1, z2_2, z2_3, z2_4, z2_5, z2_6, z2_7, z2_8, rfl⟩ := list_of9 cs2 cl2
  obtain ⟨y2_0, e2_0, t2_0⟩ := f2 0 _ _ rfl rfl
  obtain ⟨a2_0, q2_0, -, w2_0⟩ := DataW.trod_int Try.underlying3 t2_0
  obtain rfl := (List.cons.inj q2_0).1
  have b2_0 := bounds_i64 w2_0
  obtain ⟨y2_1, e2_1, t2_1⟩ := f2 1 _ _ rfl rfl
  obtain ⟨a2_1, q2_1, -, w2_1⟩ := DataW.trod_int Try.underlying3 t2_1
  obtain rfl := (List.cons.inj q2_1).1
  have b2_1 := bounds_i64 w2_1
  obtain ⟨y2_2, e2_2, t2_2⟩ := f2 2 _ _ rfl rfl
  obtain ⟨a2_2, q2_2, -, w2_2⟩ := DataW.trod_int Try.underlying3 t2_2
  obtain rfl := (List.cons.inj q2_2).1
  have b2_2 := bounds_i64 w2_2
  obtain ⟨y2_3, e2_3, t2_3⟩ := f2 3 _ _ rfl rfl
  obtain ⟨a2_3, q2_3, -, w2_3⟩ := DataW.trod_int Try.underlying22 t2_3
  obtain rfl := (List.cons.inj q2_3).1
  have b2_3 := bounds_u64 w2_3
  obtain ⟨y2_4, e2_4, t2_4⟩ := f2 4 _ _ rfl rfl
  obtain ⟨a2_4, q2_4, -, w2_4⟩ := DataW.trod_int Try.underlying3 t2_4
  obtain rfl := (List.cons.inj q2_4).1
  have b2_4 := bounds_i64 w2_4
  obtain ⟨y2_5, e2_5, t2_5⟩ := f2 5 _ _ rfl rfl
  obtain ⟨a2_5, q2_5, -, w2_5⟩ := DataW.trod_int Try.underlying3 t2_5
  obtain rfl := (List.cons.inj q2_5).1
  have b2_5 := bounds_i64 w2_5
  obtain ⟨y2_6, e2_6, t2_6⟩ := f2 6 _ _ rfl rfl
  obtain ⟨a2_6, q2_6, -, w2_6⟩ := DataW.trod_int Try.underlying3 t2_6
  obtain rfl := (List.cons.inj q2_6).1
  have b2_6 := bounds_i64 w2_6
  obtain ⟨y2_7, e2_7, t2_7⟩ := f2 7 _ _ rfl rfl
  obtain ⟨a2_7, q2_7, -, w2_7⟩ := DataW.trod_int Try.underlying3 t2_7
  obtain rfl := (List.cons.inj q2_7).1
  have b2_7 := bounds_i64 w2_7
  obtain ⟨y2_8, e2_8, t2_8⟩ := f2 8 _ _ rfl rfl
  obtain ⟨a2_8, q2_8, -, w2_8⟩ := DataW.trod_string Try.underlying9 t2_8
  obtain rfl := (List.cons.inj q2_8).1
  clear hA0 hval0
  refine (walkEntryNext a0_0 a0_1 a0_2 a1_0 a1_1 a1_2 a2_0 a2_1 a2_2 a2_3 a2_4 a2_5 a2_6 a2_7 a2_8 b0_0 b0_1 b0_2 b1_0 b1_1 b1_2 b2_0 b2_1 b2_2 b2_3 b2_4 b2_5 b2_6 b2_7 W).mono fun e W' ⟨he, bel⟩ => ?_
  subst he
  exact ⟨_, rfl, _, _, _, [], _, [], hW', trodAll_mk1 (shut_bool Try.underlying4 _), (trodAll_cons_mk (Below.trod laidOut (by kernel_rfl) (of_decide_eq_true (by kernel_rfl)) k0 bel lt0) (trodAll_cons_mk (Below.trod laidOut (by kernel_rfl) (of_decide_eq_true (by kernel_rfl)) k1 bel lt1) (trodAll_cons_mk (Below.trod laidOut (by kernel_rfl) (of_decide_eq_true (by kernel_rfl)) k2 bel lt2) trodAll_mk0))), rfl, bel.frame _, fun h => by cases h⟩

theorem over : Rows.entryNextRow.holds Try.pinned (OpenSpec.ofChange Rows.entryNextSpec) :=
  OpenClaim.holds_of_wide 3 Try.f3 rfl rfl rfl rfl rfl rfl rfl ⟨rfl, rfl, rfl, rfl, rfl⟩ rfl rfl rfl rfl rfl (by kernel_rfl) Try.func3 (by kernel_rfl)
    (of_decide_eq_true (by kernel_rfl)) (by unfold Func.isWrapper; first | (rw [if_pos (by decide +kernel)]; kernel_rfl) | (rw [if_neg (by decide +kernel)]; exact ⟨rfl, rfl⟩))
    (fun os started H enc _ => lifted os started H enc)

/-- The statement. -/
theorem proved : Rows.EntryNextSaid := over
#print axioms proved
end Go.Proofs.Ytmebodjofcomlaa.entryNext

/-
  For every input the law EntryFollows returns true, and each argument reads behind the call as it read before.
  Conditions: none but the row's own (the form's reach: each string, slice and map takes at most 2^47 - 4096 bytes).
-/
import Derived.Test.YtmebodjofcomlaaRows
import Derived.Test.YtmebodjofcomlaaAgg
import Derived.Test.YtmebodjofcomlaaEFoW
import Derived.WalkKit
import Derived.ProofKit
import Derived.OpenShut
import Derived.ShutString
import Derived.ChangeOld
import Derived.Below
import Derived.SizedLaws
namespace Go.Proofs.Ytmebodjofcomlaa.entryFollows
open Go.ChangeShapes Go.WideShapes Go.ChangeAt Go.RowKit
open Go.ChangeMaps (open_string shut_string)
set_option linter.unusedVariables false

theorem own : ownKnob Try.prog.godebug = none := by kernel_rfl
theorem laidOut : laidOutB Try.prog = true := by kernel_rfl

set_option maxRecDepth 100000 in
theorem lifted (os : Os) (started : os.Started) (H : Type) (enc : TypeId × Value → H) :
    ReturnsInHanded {} Try.checked os 7 .any (Rows.entryFollowsSpec.pre6 enc Try.prog Try.f7 Rows.entryFollowsRow.domain false) (Rows.entryFollowsSpec.post enc Try.prog Try.f7 false true false false) := by
  refine returnsInHanded_of_change_sized (C := Try.checked) own started (by kernel_rfl) Try.func7
    (ChangeSpec.witness6 (enc := enc) (C := Try.checked) false ⟨#[], #[.agg #[.int .i64 0, .int .i64 0, .int .u64 0], .agg #[.int .i64 0, .int .i64 0, .int .i64 0, .int .u64 0, .int .i64 0, .int .i64 0, .int .i64 0, .int .i64 0, .string ByteArray.empty]], []⟩ 8 (by kernel_rfl) (by kernel_rfl) (by kernel_rfl) (by kernel_rfl)) ?_
  intro W base args ds gs before hval0 hW hcnd hsz0 _
  have hsz : (DataW.weightsEach Try.prog (Try.f7.params.toList ++ Rows.entryFollowsSpec.plain.varTypes Try.prog) (ds ++ gs)).all (· ≤ reachBytes) = true := hsz0
  clear hsz0
  have hval : ∀ (j : Nat) t v, Try.f7.params[j]? = some t → args[j]? = some v → Value.okWide Try.prog W .any base t v := hval0
  have hW' := hW
  obtain ⟨p, q, hA0, hV, rfl, hfz, hnd⟩ := hW
  have hA : DataW.TrodAll enc Try.prog W 0 (fun _ => true) true Try.f7.params.toList args.toList ds p := hA0
  rw [Try.params7] at hA hval hsz
  obtain ⟨v0, vs0, d0, ds0, p0, q0, hargs, rfl, rfl, h0, r0⟩ := trodAll_cons hA
  obtain ⟨v1, vs1, d1, ds1, p1, q1, rfl, rfl, rfl, h1, r1⟩ := trodAll_cons r0
  obtain ⟨rfl, rfl, rfl⟩ := trodAll_nil r1
  obtain rfl : args = #[v0, v1] := by cases args; simp_all
  obtain ⟨rfl, rfl⟩ := trodVars_none hV
  have k0 := h0
  have lt0 : ∀ x ∈ p0, x.block < W.heap.size := by obtain ⟨m, hm⟩ := k0; exact DataW.trod_lt m _ _ _ hm
  have k1 := h1
  have lt1 : ∀ x ∈ p1, x.block < W.heap.size := by obtain ⟨m, hm⟩ := k1; exact DataW.trod_lt m _ _ _ hm
  obtain ⟨cs0, rfl, cl0, n0, ys0, rfl, rfl, yl0, f0⟩ := open_agg Try.underlying24 (by kernel_rfl) 3 rfl (by kernel_rfl) (hval 0 24 v0 rfl rfl) h0
  obtain ⟨z0_0, z0_1, z0_2, rfl⟩ := list_of3 cs0 cl0
  obtain ⟨y0_0, e0_0, t0_0⟩ := f0 0 _ _ rfl rfl
  obtain ⟨a0_0, q0_0, -, w0_0⟩ := DataW.trod_int Try.underlying3 t0_0
  obtain rfl := (List.cons.inj q0_0).1
  have b0_0 := bounds_i64 w0_0
  obtain ⟨y0_1, e0_1, t0_1⟩ := f0 1 _ _ rfl rfl
  obtain ⟨a0_1, q0_1, -, w0_1⟩ := DataW.trod_int Try.underlying3 t0_1
  obtain rfl := (List.cons.inj q0_1).1
  have b0_1 := bounds_i64 w0_1
  obtain ⟨y0_2, e0_2, t0_2⟩ := f0 2 _ _ rfl rfl
  obtain ⟨a0_2, q0_2, -, w0_2⟩ := DataW.trod_int Try.underlying22 t0_2
  obtain rfl := (List.cons.inj q0_2).1
  have b0_2 := bounds_u64 w0_2
  obtain ⟨cs1, rfl, cl1, n1, ys1, rfl, rfl, yl1, f1⟩ := open_agg Try.underlying26 (by kernel_rfl) 9 rfl (by kernel_rfl) (hval 1 26 v1 rfl rfl) h1
  obtain ⟨z1_0, z1_1, z1_2, z1_3, z1_4, z1_5, z1_6, z1_7, z1_8, rfl⟩ := list_of9 cs1 cl1
  obtain ⟨y1_0, e1_0, t1_0⟩ := f1 0 _ _ rfl rfl
  obtain ⟨a1_0, q1_0, -, w1_0⟩ := DataW.trod_int Try.underlying3 t1_0
  obtain rfl := (List.cons.inj q1_0).1
  have b1_0 := bounds_i64 w1_0
  obtain ⟨y1_1, e1_1, t1_1⟩ := f1 1 _ _ rfl rfl
  obtain ⟨a1_1, q1_1, -, w1_1⟩ := DataW.trod_int Try.underlying3 t1_1
  obtain rfl := (List.cons.inj q1_1).1
  have b1_1 := bounds_i64 w1_1
  obtain ⟨y1_2, e1_2, t1_2⟩ := f1 2 _ _ rfl rfl
  obtain ⟨a1_2, q1_2, -, w1_2⟩ := DataW.trod_int Try.underlying3 t1_2
  obtain rfl := (List.cons.inj q1_2).1
  have b1_2 := bounds_i64 w1_2
  obtain ⟨y1_3, e1_3, t1_3⟩ := f1 3 _ _ rfl rfl
  obtain ⟨a1_3, q1_3, -, w1_3⟩ := DataW.trod_int Try.underlying22 t1_3
  obtain rfl := (List.cons.inj q1_3).1
  have b1_3 := bounds_u64 w1_3
  obtain ⟨y1_4, e1_4, t1_4⟩ := f1 4 _ _ rfl rfl
  obtain ⟨a1_4, q1_4, -, w1_4⟩ := DataW.trod_int Try.underlying3 t1_4
  obtain rfl := (List.cons.inj q1_4).1
  have b1_4 := bounds_i64 w1_4
  obtain ⟨y1_5, e1_5, t1_5⟩ := f1 5 _ _ rfl rfl
  obtain ⟨a1_5, q1_5, -, w1_5⟩ := DataW.trod_int Try.underlying3 t1_5
  obtain rfl := (List.cons.inj q1_5).1
  have b1_5 := bounds_i64 w1_5
  obtain ⟨y1_6, e1_6, t1_6⟩ := f1 6 _ _ rfl rfl
  obtain ⟨a1_6, q1_6, -, w1_6⟩ := DataW.trod_int Try.underlying3 t1_6
  obtain rfl := (List.cons.inj q1_6).1
  have b1_6 := bounds_i64 w1_6
  obtain ⟨y1_7, e1_7, t1_7⟩ := f1 7 _ _ rfl rfl
  obtain ⟨a1_7, q1_7, -, w1_7⟩ := DataW.trod_int Try.underlying3 t1_7
  obtain rfl := (List.cons.inj q1_7).1
  have b1_7 := bounds_i64 w1_7
  obtain ⟨y1_8, e1_8, t1_8⟩ := f1 8 _ _ rfl rfl
  obtain ⟨a1_8, q1_8, -, w1_8⟩ := DataW.trod_string Try.underlying9 t1_8
  obtain rfl := (List.cons.inj q1_8).1
  clear hA0 hval0
  refine (walkEntryFollows a0_0 a0_1 a0_2 a1_0 a1_1 a1_2 a1_3 a1_4 a1_5 a1_6 a1_7 a1_8 b0_0 b0_1 b0_2 b1_0 b1_1 b1_2 b1_3 b1_4 b1_5 b1_6 b1_7 W).mono fun e W' ⟨he, bel⟩ => ?_
  subst he
  exact ⟨_, rfl, _, _, _, [], _, [], hW', trodAll_mk1 (shut_bool Try.underlying4 _), (trodAll_cons_mk (Below.trod laidOut (by kernel_rfl) (of_decide_eq_true (by kernel_rfl)) k0 bel lt0) (trodAll_cons_mk (Below.trod laidOut (by kernel_rfl) (of_decide_eq_true (by kernel_rfl)) k1 bel lt1) trodAll_mk0)), rfl, bel.frame _, fun h => by cases h⟩

theorem over : Rows.entryFollowsRow.holds Try.pinned (OpenSpec.ofChange Rows.entryFollowsSpec) :=
  OpenClaim.holds_of_wide 7 Try.f7 rfl rfl rfl rfl rfl rfl rfl ⟨rfl, rfl, rfl, rfl, rfl⟩ rfl rfl rfl rfl rfl (by kernel_rfl) Try.func7 (by kernel_rfl)
    (of_decide_eq_true (by kernel_rfl)) (by unfold Func.isWrapper; first | (rw [if_pos (by decide +kernel)]; kernel_rfl) | (rw [if_neg (by decide +kernel)]; exact ⟨rfl, rfl⟩))
    (fun os started H enc _ => lifted os started H enc)

/-- The statement. -/
theorem proved : Rows.EntryFollowsSaid := over
#print axioms proved
end Go.Proofs.Ytmebodjofcomlaa.entryFollows

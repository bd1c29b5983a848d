/-
  For every input the law HeadUnlike returns true, and each argument reads behind the call as it read before.
  Conditions: none but the row's own (the form's reach: each string, slice and map takes at most 2^47 - 4096 bytes).
-/
import Derived.Test.YtmebodjofcomlaaRows
import Derived.Test.YtmebodjofcomlaaAgg
import Derived.Test.YtmebodjofcomlaaHeadE
import Derived.WalkKit
import Derived.ProofKit
import Derived.OpenShut
import Derived.ShutString
import Derived.ChangeOld
import Derived.Below
import Derived.SizedLaws
namespace Go.Proofs.Ytmebodjofcomlaa.headUnlike
open Go.ChangeShapes Go.WideShapes Go.ChangeAt Go.RowKit
open Go.ChangeMaps (open_string shut_string)
set_option linter.unusedVariables false

theorem own : ownKnob Try.prog.godebug = none := by kernel_rfl
theorem laidOut : laidOutB Try.prog = true := by kernel_rfl

set_option maxRecDepth 100000 in
theorem lifted (os : Os) (started : os.Started) (H : Type) (enc : TypeId × Value → H) :
    ReturnsInHanded {} Try.checked os 4 .any (Rows.headUnlikeSpec.pre6 enc Try.prog Try.f4 Rows.headUnlikeRow.domain false) (Rows.headUnlikeSpec.post enc Try.prog Try.f4 false true false false) := by
  refine returnsInHanded_of_change_sized (C := Try.checked) own started (by kernel_rfl) Try.func4
    (ChangeSpec.witness6 (enc := enc) (C := Try.checked) false ⟨#[], #[.agg #[.int .i64 0, .int .i64 0, .int .i64 0, .int .i64 0, .int .i64 0, .int .i64 0, .int .i64 0, .int .i64 0, .int .i64 0, .int .i64 0, .int .i64 0, .int .u64 0], .agg #[.int .i64 0, .int .i64 0, .int .i64 0, .int .i64 0, .int .i64 0, .int .i64 0, .int .i64 0, .int .i64 0, .int .i64 0, .int .i64 0, .int .i64 0, .int .u64 0], .string ByteArray.empty, .string ByteArray.empty], []⟩ 8 (by kernel_rfl) (by kernel_rfl) (by kernel_rfl) (by kernel_rfl)) ?_
  intro W base args ds gs before hval0 hW hcnd hsz0 _
  have hsz : (DataW.weightsEach Try.prog (Try.f4.params.toList ++ Rows.headUnlikeSpec.plain.varTypes Try.prog) (ds ++ gs)).all (· ≤ reachBytes) = true := hsz0
  clear hsz0
  have hval : ∀ (j : Nat) t v, Try.f4.params[j]? = some t → args[j]? = some v → Value.okWide Try.prog W .any base t v := hval0
  have hW' := hW
  obtain ⟨p, q, hA0, hV, rfl, hfz, hnd⟩ := hW
  have hA : DataW.TrodAll enc Try.prog W 0 (fun _ => true) true Try.f4.params.toList args.toList ds p := hA0
  rw [Try.params4] at hA hval hsz
  obtain ⟨v0, vs0, d0, ds0, p0, q0, hargs, rfl, rfl, h0, r0⟩ := trodAll_cons hA
  obtain ⟨v1, vs1, d1, ds1, p1, q1, rfl, rfl, rfl, h1, r1⟩ := trodAll_cons r0
  obtain ⟨v2, vs2, d2, ds2, p2, q2, rfl, rfl, rfl, h2, r2⟩ := trodAll_cons r1
  obtain ⟨v3, vs3, d3, ds3, p3, q3, rfl, rfl, rfl, h3, r3⟩ := trodAll_cons r2
  obtain ⟨rfl, rfl, rfl⟩ := trodAll_nil r3
  obtain rfl : args = #[v0, v1, v2, v3] := by cases args; simp_all
  obtain ⟨rfl, rfl⟩ := trodVars_none hV
  have k0 := h0
  have lt0 : ∀ x ∈ p0, x.block < W.heap.size := by obtain ⟨m, hm⟩ := k0; exact DataW.trod_lt m _ _ _ hm
  have k1 := h1
  have lt1 : ∀ x ∈ p1, x.block < W.heap.size := by obtain ⟨m, hm⟩ := k1; exact DataW.trod_lt m _ _ _ hm
  have k2 := h2
  have lt2 : ∀ x ∈ p2, x.block < W.heap.size := by obtain ⟨m, hm⟩ := k2; exact DataW.trod_lt m _ _ _ hm
  have k3 := h3
  have lt3 : ∀ x ∈ p3, x.block < W.heap.size := by obtain ⟨m, hm⟩ := k3; exact DataW.trod_lt m _ _ _ hm
  obtain ⟨cs0, rfl, cl0, n0, ys0, rfl, rfl, yl0, f0⟩ := open_agg Try.underlying34 (by kernel_rfl) 12 rfl (by kernel_rfl) (hval 0 34 v0 rfl rfl) h0
  obtain ⟨z0_0, z0_1, z0_2, z0_3, z0_4, z0_5, z0_6, z0_7, z0_8, z0_9, z0_10, z0_11, rfl⟩ := list_of12 cs0 cl0
  obtain ⟨y0_0, e0_0, t0_0⟩ := f0 0 _ _ rfl rfl
  obtain ⟨a0_0, q0_0, -, w0_0⟩ := DataW.trod_int Try.underlying3 t0_0
  obtain rfl := (List.cons.inj q0_0).1
  have b0_0 := bounds_i64 w0_0
  obtain ⟨y0_1, e0_1, t0_1⟩ := f0 1 _ _ rfl rfl
  obtain ⟨a0_1, q0_1, -, w0_1⟩ := DataW.trod_int Try.underlying3 t0_1
  obtain rfl := (List.cons.inj q0_1).1
  have b0_1 := bounds_i64 w0_1
  obtain ⟨y0_2, e0_2, t0_2⟩ := f0 2 _ _ rfl rfl
  obtain ⟨a0_2, q0_2, -, w0_2⟩ := DataW.trod_int Try.underlying3 t0_2
  obtain rfl := (List.cons.inj q0_2).1
  have b0_2 := bounds_i64 w0_2
  obtain ⟨y0_3, e0_3, t0_3⟩ := f0 3 _ _ rfl rfl
  obtain ⟨a0_3, q0_3, -, w0_3⟩ := DataW.trod_int Try.underlying3 t0_3
  obtain rfl := (List.cons.inj q0_3).1
  have b0_3 := bounds_i64 w0_3
  obtain ⟨y0_4, e0_4, t0_4⟩ := f0 4 _ _ rfl rfl
  obtain ⟨a0_4, q0_4, -, w0_4⟩ := DataW.trod_int Try.underlying3 t0_4
  obtain rfl := (List.cons.inj q0_4).1
  have b0_4 := bounds_i64 w0_4
  obtain ⟨y0_5, e0_5, t0_5⟩ := f0 5 _ _ rfl rfl
  obtain ⟨a0_5, q0_5, -, w0_5⟩ := DataW.trod_int Try.underlying3 t0_5
  obtain rfl := (List.cons.inj q0_5).1
  have b0_5 := bounds_i64 w0_5
  obtain ⟨y0_6, e0_6, t0_6⟩ := f0 6 _ _ rfl rfl
  obtain ⟨a0_6, q0_6, -, w0_6⟩ := DataW.trod_int Try.underlying3 t0_6
  obtain rfl := (List.cons.inj q0_6).1
  have b0_6 := bounds_i64 w0_6
  obtain ⟨y0_7, e0_7, t0_7⟩ := f0 7 _ _ rfl rfl
  obtain ⟨a0_7, q0_7, -, w0_7⟩ := DataW.trod_int Try.underlying3 t0_7
  obtain rfl := (List.cons.inj q0_7).1
  have b0_7 := bounds_i64 w0_7
  obtain ⟨y0_8, e0_8, t0_8⟩ := f0 8 _ _ rfl rfl
  obtain ⟨a0_8, q0_8, -, w0_8⟩ := DataW.trod_int Try.underlying3 t0_8
  obtain rfl := (List.cons.inj q0_8).1
  have b0_8 := bounds_i64 w0_8
  obtain ⟨y0_9, e0_9, t0_9⟩ := f0 9 _ _ rfl rfl
  obtain ⟨a0_9, q0_9, -, w0_9⟩ := DataW.trod_int Try.underlying3 t0_9
  obtain rfl := (List.cons.inj q0_9).1
  have b0_9 := bounds_i64 w0_9
  obtain ⟨y0_10, e0_10, t0_10⟩ := f0 10 _ _ rfl rfl
  obtain ⟨a0_10, q0_10, -, w0_10⟩ := DataW.trod_int Try.underlying3 t0_10
  obtain rfl := (List.cons.inj q0_10).1
  have b0_10 := bounds_i64 w0_10
  obtain ⟨y0_11, e0_11, t0_11⟩ := f0 11 _ _ rfl rfl
  obtain ⟨a0_11, q0_11, -, w0_11⟩ := DataW.trod_int Try.underlying22 t0_11
  obtain rfl := (List.cons.inj q0_11).1
  have b0_11 := bounds_u64 w0_11
  obtain ⟨cs1, rfl, cl1, n1, ys1, rfl, rfl, yl1, f1⟩ := open_agg Try.underlying34 (by kernel_rfl) 12 rfl (by kernel_rfl) (hval 1 34 v1 rfl rfl) h1
  obtain ⟨z1_0, z1_1, z1_2, z1_3, z1_4, z1_5, z1_6, z1_7, z1_8, z1_9, z1_10, z1_11, rfl⟩ := list_of12 cs1 cl1
  obtain ⟨y1_0, e1_0, t1_0⟩ := f1 0 _ _ rfl rfl
  obtain ⟨a1_0, q1_0, -, w1_0⟩ := DataW.trod_int Try.underlying3 t1_0
  obtain rfl := (List.cons.inj q1_0).1
  have b1_0 := bounds_i64 w1_0
  obtain ⟨y1_1, e1_1, t1_1⟩ := f1 1 _ _ rfl rfl
  obtain ⟨a1_1, q1_1, -, w1_1⟩ := DataW.trod_int Try.underlying3 t1_1
  obtain rfl := (List.cons.inj q1_1).1
  have b1_1 := bounds_i64 w1_1
  obtain ⟨y1_2, e1_2, t1_2⟩ := f1 2 _ _ rfl rfl
  obtain ⟨a1_2, q1_2, -, w1_2⟩ := DataW.trod_int Try.underlying3 t1_2
  obtain rfl := (List.cons.inj q1_2).1
  have b1_2 := bounds_i64 w1_2
  obtain ⟨y1_3, e1_3, t1_3⟩ := f1 3 _ _ rfl rfl
  obtain ⟨a1_3, q1_3, -, w1_3⟩ := DataW.trod_int Try.underlying3 t1_3
  obtain rfl := (List.cons.inj q1_3).1
  have b1_3 := bounds_i64 w1_3
  obtain ⟨y1_4, e1_4, t1_4⟩ := f1 4 _ _ rfl rfl
  obtain ⟨a1_4, q1_4, -, w1_4⟩ := DataW.trod_int Try.underlying3 t1_4
  obtain rfl := (List.cons.inj q1_4).1
  have b1_4 := bounds_i64 w1_4
  obtain ⟨y1_5, e1_5, t1_5⟩ := f1 5 _ _ rfl rfl
  obtain ⟨a1_5, q1_5, -, w1_5⟩ := DataW.trod_int Try.underlying3 t1_5
  obtain rfl := (List.cons.inj q1_5).1
  have b1_5 := bounds_i64 w1_5
  obtain ⟨y1_6, e1_6, t1_6⟩ := f1 6 _ _ rfl rfl
  obtain ⟨a1_6, q1_6, -, w1_6⟩ := DataW.trod_int Try.underlying3 t1_6
  obtain rfl := (List.cons.inj q1_6).1
  have b1_6 := bounds_i64 w1_6
  obtain ⟨y1_7, e1_7, t1_7⟩ := f1 7 _ _ rfl rfl
  obtain ⟨a1_7, q1_7, -, w1_7⟩ := DataW.trod_int Try.underlying3 t1_7
  obtain rfl := (List.cons.inj q1_7).1
  have b1_7 := bounds_i64 w1_7
  obtain ⟨y1_8, e1_8, t1_8⟩ := f1 8 _ _ rfl rfl
  obtain ⟨a1_8, q1_8, -, w1_8⟩ := DataW.trod_int Try.underlying3 t1_8
  obtain rfl := (List.cons.inj q1_8).1
  have b1_8 := bounds_i64 w1_8
  obtain ⟨y1_9, e1_9, t1_9⟩ := f1 9 _ _ rfl rfl
  obtain ⟨a1_9, q1_9, -, w1_9⟩ := DataW.trod_int Try.underlying3 t1_9
  obtain rfl := (List.cons.inj q1_9).1
  have b1_9 := bounds_i64 w1_9
  obtain ⟨y1_10, e1_10, t1_10⟩ := f1 10 _ _ rfl rfl
  obtain ⟨a1_10, q1_10, -, w1_10⟩ := DataW.trod_int Try.underlying3 t1_10
  obtain rfl := (List.cons.inj q1_10).1
  have b1_10 := bounds_i64 w1_10
  obtain ⟨y1_11, e1_11, t1_11⟩ := f1 11 _ _ rfl rfl
  obtain ⟨a1_11, q1_11, -, w1_11⟩ := DataW.trod_int Try.underlying22 t1_11
  obtain rfl := (List.cons.inj q1_11).1
  have b1_11 := bounds_u64 w1_11
  obtain ⟨a2, rfl, rfl, rfl, w2⟩ := open_string Try.underlying9 (hval 2 9 v2 rfl rfl) h2
  have b2 : a2.size ≤ 140737488351232 := by
    have h := sized_string hsz (j := 2) (t := 9) rfl rfl
    simpa [reachBytes] using h
  obtain ⟨a3, rfl, rfl, rfl, w3⟩ := open_string Try.underlying9 (hval 3 9 v3 rfl rfl) h3
  have b3 : a3.size ≤ 140737488351232 := by
    have h := sized_string hsz (j := 3) (t := 9) rfl rfl
    simpa [reachBytes] using h
  clear hA0 hval0
  refine (walkHeadUnlike a0_0 a0_1 a0_2 a0_3 a0_4 a0_5 a0_6 a0_7 a0_8 a0_9 a0_10 a0_11 a1_0 a1_1 a1_2 a1_3 a1_4 a1_5 a1_6 a1_7 a1_8 a1_9 a1_10 a1_11 a2 a3 b0_0 b0_1 b0_2 b0_3 b0_4 b0_5 b0_6 b0_7 b0_8 b0_9 b0_10 b0_11 b1_0 b1_1 b1_2 b1_3 b1_4 b1_5 b1_6 b1_7 b1_8 b1_9 b1_10 b1_11 b2 b3 W).mono fun e W' ⟨he, bel⟩ => ?_
  subst he
  exact ⟨_, rfl, _, _, _, [], _, [], hW', trodAll_mk1 (shut_bool Try.underlying4 _), (trodAll_cons_mk (Below.trod laidOut (by kernel_rfl) (of_decide_eq_true (by kernel_rfl)) k0 bel lt0) (trodAll_cons_mk (Below.trod laidOut (by kernel_rfl) (of_decide_eq_true (by kernel_rfl)) k1 bel lt1) (trodAll_cons_mk (Below.trod laidOut (by kernel_rfl) (of_decide_eq_true (by kernel_rfl)) k2 bel lt2) (trodAll_cons_mk (Below.trod laidOut (by kernel_rfl) (of_decide_eq_true (by kernel_rfl)) k3 bel lt3) trodAll_mk0)))), rfl, bel.frame _, fun h => by cases h⟩

theorem over : Rows.headUnlikeRow.holds Try.pinned (OpenSpec.ofChange Rows.headUnlikeSpec) :=
  OpenClaim.holds_of_wide 4 Try.f4 rfl rfl rfl rfl rfl rfl rfl ⟨rfl, rfl, rfl, rfl, rfl⟩ rfl rfl rfl rfl rfl (by kernel_rfl) Try.func4 (by kernel_rfl)
    (of_decide_eq_true (by kernel_rfl)) (by unfold Func.isWrapper; first | (rw [if_pos (by decide +kernel)]; kernel_rfl) | (rw [if_neg (by decide +kernel)]; exact ⟨rfl, rfl⟩))
    (fun os started H enc _ => lifted os started H enc)

/-- The statement. -/
theorem proved : Rows.HeadUnlikeSaid := over
#print axioms proved
end Go.Proofs.Ytmebodjofcomlaa.headUnlike

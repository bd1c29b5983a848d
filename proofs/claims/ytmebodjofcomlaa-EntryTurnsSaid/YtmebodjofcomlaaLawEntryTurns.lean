/-
  For every input the law EntryTurns returns true, and each argument reads behind the call as it read before.
  Conditions: none but the row's own (the form's reach: each string, slice and map takes at most 2^47 - 4096 bytes).
-/
import Derived.Test.YtmebodjofcomlaaRows
import Derived.Test.YtmebodjofcomlaaAgg
import Derived.Test.YtmebodjofcomlaaETuW
import Derived.WalkKit
import Derived.ProofKit
import Derived.OpenShut
import Derived.ShutString
import Derived.ChangeOld
import Derived.Below
import Derived.SizedLaws
namespace Go.Proofs.Ytmebodjofcomlaa.entryTurns
open Go.ChangeShapes Go.WideShapes Go.ChangeAt Go.RowKit
open Go.ChangeMaps (open_string shut_string)
set_option linter.unusedVariables false

theorem own : ownKnob Try.prog.godebug = none := by kernel_rfl
theorem laidOut : laidOutB Try.prog = true := by kernel_rfl

set_option maxRecDepth 100000 in
theorem lifted (os : Os) (started : os.Started) (H : Type) (enc : TypeId × Value → H) :
    ReturnsInHanded {} Try.checked os 10 .any (Rows.entryTurnsSpec.pre6 enc Try.prog Try.f10 Rows.entryTurnsRow.domain false) (Rows.entryTurnsSpec.post enc Try.prog Try.f10 false true false false) := by
  refine returnsInHanded_of_change_sized (C := Try.checked) own started (by kernel_rfl) Try.func10
    (ChangeSpec.witness6 (enc := enc) (C := Try.checked) false ⟨#[], #[.agg #[.int .i64 0, .int .i64 0, .int .i64 0, .int .u64 0, .int .i64 0, .int .i64 0, .int .i64 0, .int .i64 0, .string ByteArray.empty], .int .i64 0, .int .u8 0], []⟩ 8 (by kernel_rfl) (by kernel_rfl) (by kernel_rfl) (by kernel_rfl)) ?_
  intro W base args ds gs before hval0 hW hcnd hsz0 _
  have hsz : (DataW.weightsEach Try.prog (Try.f10.params.toList ++ Rows.entryTurnsSpec.plain.varTypes Try.prog) (ds ++ gs)).all (· ≤ reachBytes) = true := hsz0
  clear hsz0
  have hval : ∀ (j : Nat) t v, Try.f10.params[j]? = some t → args[j]? = some v → Value.okWide Try.prog W .any base t v := hval0
  have hW' := hW
  obtain ⟨p, q, hA0, hV, rfl, hfz, hnd⟩ := hW
  have hA : DataW.TrodAll enc Try.prog W 0 (fun _ => true) true Try.f10.params.toList args.toList ds p := hA0
  rw [Try.params10] at hA hval hsz
  obtain ⟨v0, vs0, d0, ds0, p0, q0, hargs, rfl, rfl, h0, r0⟩ := trodAll_cons hA
  obtain ⟨v1, vs1, d1, ds1, p1, q1, rfl, rfl, rfl, h1, r1⟩ := trodAll_cons r0
  obtain ⟨v2, vs2, d2, ds2, p2, q2, rfl, rfl, rfl, h2, r2⟩ := trodAll_cons r1
  obtain ⟨rfl, rfl, rfl⟩ := trodAll_nil r2
  obtain rfl : args = #[v0, v1, v2] := by cases args; simp_all
  obtain ⟨rfl, rfl⟩ := trodVars_none hV
  have k0 := h0
  have lt0 : ∀ x ∈ p0, x.block < W.heap.size := by obtain ⟨m, hm⟩ := k0; exact DataW.trod_lt m _ _ _ hm
  have k1 := h1
  have lt1 : ∀ x ∈ p1, x.block < W.heap.size := by obtain ⟨m, hm⟩ := k1; exact DataW.trod_lt m _ _ _ hm
  have k2 := h2
  have lt2 : ∀ x ∈ p2, x.block < W.heap.size := by obtain ⟨m, hm⟩ := k2; exact DataW.trod_lt m _ _ _ hm
  obtain ⟨cs0, rfl, cl0, n0, ys0, rfl, rfl, yl0, f0⟩ := open_agg Try.underlying26 (by kernel_rfl) 9 rfl (by kernel_rfl) (hval 0 26 v0 rfl rfl) h0
  obtain ⟨z0_0, z0_1, z0_2, z0_3, z0_4, z0_5, z0_6, z0_7, z0_8, rfl⟩ := list_of9 cs0 cl0
  obtain ⟨y0_0, e0_0, t0_0⟩ := f0 0 _ _ rfl rfl
  obtain ⟨a0_0, q0_0, -, w0_0⟩ := DataW.trod_int Try.underlying3 t0_0
  obtain rfl := (List.cons.inj q0_0).1
  have b0_0 := bounds_i64 w0_0
  obtain ⟨y0_1, e0_1, t0_1⟩ := f0 1 _ _ rfl rfl
  obtain ⟨a0_1, q0_1, -, w0_1⟩ := DataW.trod_int Try.underlying3 t0_1
  obtain rfl := (List.cons.inj q0_1).1
  have b0_1 := bounds_i64 w0_1
  obtain ⟨y0_2, e0_2, t0_2⟩ := f0 2 _ _ rfl rfl
  obtain ⟨a0_2, q0_2, -, w0_2⟩ := DataW.trod_int Try.underlying3 t0_2
  obtain rfl := (List.cons.inj q0_2).1
  have b0_2 := bounds_i64 w0_2
  obtain ⟨y0_3, e0_3, t0_3⟩ := f0 3 _ _ rfl rfl
  obtain ⟨a0_3, q0_3, -, w0_3⟩ := DataW.trod_int Try.underlying22 t0_3
  obtain rfl := (List.cons.inj q0_3).1
  have b0_3 := bounds_u64 w0_3
  obtain ⟨y0_4, e0_4, t0_4⟩ := f0 4 _ _ rfl rfl
  obtain ⟨a0_4, q0_4, -, w0_4⟩ := DataW.trod_int Try.underlying3 t0_4
  obtain rfl := (List.cons.inj q0_4).1
  have b0_4 := bounds_i64 w0_4
  obtain ⟨y0_5, e0_5, t0_5⟩ := f0 5 _ _ rfl rfl
  obtain ⟨a0_5, q0_5, -, w0_5⟩ := DataW.trod_int Try.underlying3 t0_5
  obtain rfl := (List.cons.inj q0_5).1
  have b0_5 := bounds_i64 w0_5
  obtain ⟨y0_6, e0_6, t0_6⟩ := f0 6 _ _ rfl rfl
  obtain ⟨a0_6, q0_6, -, w0_6⟩ := DataW.trod_int Try.underlying3 t0_6
  obtain rfl := (List.cons.inj q0_6).1
  have b0_6 := bounds_i64 w0_6
  obtain ⟨y0_7, e0_7, t0_7⟩ := f0 7 _ _ rfl rfl
  obtain ⟨a0_7, q0_7, -, w0_7⟩ := DataW.trod_int Try.underlying3 t0_7
  obtain rfl := (List.cons.inj q0_7).1
  have b0_7 := bounds_i64 w0_7
  obtain ⟨y0_8, e0_8, t0_8⟩ := f0 8 _ _ rfl rfl
  obtain ⟨a0_8, q0_8, -, w0_8⟩ := DataW.trod_string Try.underlying9 t0_8
  obtain rfl := (List.cons.inj q0_8).1
  obtain ⟨a1, rfl, rfl, rfl, w1⟩ := open_int Try.underlying3 (hval 1 3 v1 rfl rfl) h1
  have b1 := bounds_i64 w1
  obtain ⟨a2, rfl, rfl, rfl, w2⟩ := open_int Try.underlying5 (hval 2 5 v2 rfl rfl) h2
  have b2 := bounds_u8 w2
  clear hA0 hval0
  refine (walkEntryTurns a0_0 a0_1 a0_2 a0_3 a0_4 a0_5 a0_6 a0_7 a0_8 a1 a2 b0_0 b0_1 b0_2 b0_3 b0_4 b0_5 b0_6 b0_7 b1 b2 W).mono fun e W' ⟨he, bel⟩ => ?_
  subst he
  exact ⟨_, rfl, _, _, _, [], _, [], hW', trodAll_mk1 (shut_bool Try.underlying4 _), (trodAll_cons_mk (Below.trod laidOut (by kernel_rfl) (of_decide_eq_true (by kernel_rfl)) k0 bel lt0) (trodAll_cons_mk (Below.trod laidOut (by kernel_rfl) (of_decide_eq_true (by kernel_rfl)) k1 bel lt1) (trodAll_cons_mk (Below.trod laidOut (by kernel_rfl) (of_decide_eq_true (by kernel_rfl)) k2 bel lt2) trodAll_mk0))), rfl, bel.frame _, fun h => by cases h⟩

theorem over : Rows.entryTurnsRow.holds Try.pinned (OpenSpec.ofChange Rows.entryTurnsSpec) :=
  OpenClaim.holds_of_wide 10 Try.f10 rfl rfl rfl rfl rfl rfl rfl ⟨rfl, rfl, rfl, rfl, rfl⟩ rfl rfl rfl rfl rfl (by kernel_rfl) Try.func10 (by kernel_rfl)
    (of_decide_eq_true (by kernel_rfl)) (by unfold Func.isWrapper; first | (rw [if_pos (by decide +kernel)]; kernel_rfl) | (rw [if_neg (by decide +kernel)]; exact ⟨rfl, rfl⟩))
    (fun os started H enc _ => lifted os started H enc)

/-- The statement. -/
theorem proved : Rows.EntryTurnsSaid := over
#print axioms proved
end Go.Proofs.Ytmebodjofcomlaa.entryTurns

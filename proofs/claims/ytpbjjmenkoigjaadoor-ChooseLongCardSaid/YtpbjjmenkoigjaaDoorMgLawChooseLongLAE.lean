/- For every input the law ChooseLong returns true, and each argument reads behind the call as it read before; the card, the listed variable tied to the program's text. Conditions: none but the row's own. -/
import Derived.Test.YtpbjjmenkoigjaaDoorRows
import Derived.Test.YtpbjjmenkoigjaaDoorTie
import Derived.Test.YtpbjjmenkoigjaaDoorCards
import Derived.Test.YtpbjjmenkoigjaaDoorMgLawChooseLongLAD
import Derived.WalkKit
import Derived.ProofKit
import Derived.LaidMore
import Derived.OpenShut
import Derived.ShutString
import Derived.ChangeOld
import Derived.Below
import Derived.SizedLaws
import Derived.Stop.Joined
import Derived.SevenTiedAt
namespace Go.Proofs.YtpbjjmenkoigjaaDoor.chooseLong
open Go.ChangeShapes Go.WideShapes Go.ChangeAt Go.RowKit
open Go.ChangeMaps (open_string shut_string)
set_option linter.unusedVariables false

theorem own : ownKnob Tryd.prog.godebug = none := by kernel_rfl
theorem laidOut : laidOutB Tryd.prog = true := by kernel_rfl
theorem gAll : Tryd.prog.globalNamed "comptor/msg.all" = some 0 := by kernel_rfl
theorem tAll : (Tryd.prog.globals[0]?).map (·.type) = some 102 := by kernel_rfl
theorem uAll : Tryd.prog.underlying 102 = some (.array 16 9) := by kernel_rfl
def laidL : List (String × DataW Unit) := [("comptor/msg.all", Rows.laid_comptor_msg_all)]
/-- The door's own heap meets the condition. -/
theorem door_met (os : Os) (args : Array Value) : laidMetH Tryd.prog laidL ((World.doorLaid Tryd.prog 400 os).forCall (fun _ _ => 0) ⟨#[], args, []⟩).memory :=
  laidMetH_of_parts3 (fuel := 8) (laidMet_of_run' 8 (by kernel_rfl) (by kernel_rfl)) (by kernel_rfl) (by kernel_rfl)
set_option maxRecDepth 100000 in
theorem of_laid {W : World} (h : laidMetH Tryd.prog laidL W) : Gl W := by
  rw [MakeChecks.laidMetH_plain _ _ _ (by kernel_rfl)] at h
  obtain ⟨ps, ⟨g0, t0, cs0, f0, p0, q0, hg0, ht0, hv0, hd0, _, _⟩, _, _⟩ := h
  obtain rfl := Option.some.inj (gAll.symm.trans hg0)
  obtain rfl := Option.some.inj (tAll.symm.trans ht0)
  obtain ⟨xs, m, _, hx, hlen, hxl, hf⟩ := DataW.trod_array uAll hd0
  have c9 : Tryd.prog.cellsOf 9 = 1 := by kernel_rfl
  have c16 : Tryd.prog.cellsOf 102 = 16 := by kernel_rfl
  rw [c9] at hf
  rw [c16] at hlen
  have h6 := (hf 6 (by decide)).trans (List.getElem?_eq_getElem (by rw [hxl]; decide))
  obtain ⟨s, hs, hy, _⟩ := DataW.trod_string Tryd.underlying9 h6
  have hc := World.var?_cell hg0 hv0 6
  have hsd : s = ⟨#[118, 108, 99, 67, 73]⟩ := by
    simp only [Prod.mk.injEq] at hx
    have hmap := hx.1
    unfold Rows.laid_comptor_msg_all at hmap
    injection hmap with hmap
    have h7 : (xs.map (·.1))[6]? = some (.lit (.string [118, 108, 99, 67, 73])) := by rw [← hmap]; rfl
    rw [List.getElem?_map, List.getElem?_eq_getElem (by rw [hxl]; decide), hy] at h7
    simp at h7
    obtain ⟨⟨d⟩⟩ := s
    simp at h7
    rw [h7]
  subst hsd
  unfold Gl
  have hl0 : cs0.toList[6]? = some (.string ⟨#[118, 108, 99, 67, 73]⟩) := by
    have h8 : ((cs0.toList.drop (6 * 1)).take 1)[0]? = some (.string ⟨#[118, 108, 99, 67, 73]⟩) := by rw [hs]; rfl
    rw [List.getElem?_take_of_lt (by decide), List.getElem?_drop] at h8
    simpa using h8
  rw [hc]
  simpa using hl0

set_option maxRecDepth 100000 in
theorem lifted (os : Os) (started : os.Started) (H : Type) (enc : TypeId × Value → H) :
    ReturnsInHanded {} Tryd.checked os 7 .any (fun w args => (Rows.chooseLongSpec.pre enc Tryd.prog Tryd.f7 [] false w args ∧ laidMetH Tryd.prog laidL w) ∧ sizedMet enc Tryd.prog Tryd.f7 (OpenSpec.ofChange Rows.chooseLongSpec) false w args) (Rows.chooseLongSpec.post enc Tryd.prog Tryd.f7 false true false false) := by
  refine returnsInHanded_of_change_and (C := Tryd.checked) (X := fun w _ => laidMetH Tryd.prog laidL w) (fun _ _ _ hh h => h.of_heap hh) own started (by kernel_rfl) Tryd.func7
    (ChangeSpec.witness_shaped (enc := enc) (C := Tryd.checked) (os := os) (X := fun w _ => laidMetH Tryd.prog laidL w) false (World.doorLaid Tryd.prog 400 os) #[.int .i64 0, .slice none 0 0, .slice none 0 0, .int .i64 0] 8 rfl (World.shaped_of_RefB (by kernel_rfl) (by kernel_rfl)) (by kernel_rfl) (by kernel_rfl) (by kernel_rfl) (door_met os _)) ?_
  intro W base args ds gs before hval0 hW _ _ hL _
  have hG := of_laid hL
  have hval : ∀ (j : Nat) t v, Tryd.f7.params[j]? = some t → args[j]? = some v → Value.okWide Tryd.prog W .any base t v := hval0
  have hW' := hW
  obtain ⟨p, q, hA0, hV, rfl, hfz, hnd⟩ := hW
  have hA : DataW.TrodAll enc Tryd.prog W 0 (fun _ => true) true Tryd.f7.params.toList args.toList ds p := hA0
  rw [Tryd.params7] at hA hval
  obtain ⟨v0, vs0, d0, ds0, p0, q0, hargs, rfl, rfl, h0, r0⟩ := trodAll_cons hA
  obtain ⟨v1, vs1, d1, ds1, p1, q1, rfl, rfl, rfl, h1, r1⟩ := trodAll_cons r0
  obtain ⟨v2, vs2, d2, ds2, p2, q2, rfl, rfl, rfl, h2, r2⟩ := trodAll_cons r1
  obtain ⟨v3, vs3, d3, ds3, p3, q3, rfl, rfl, rfl, h3, r3⟩ := trodAll_cons r2
  obtain ⟨rfl, rfl, rfl⟩ := trodAll_nil r3
  obtain rfl : args = #[v0, v1, v2, v3] := by cases args; simp_all
  obtain ⟨rfl, rfl⟩ := trodVars_none hV
  have k0 := h0
  have lt0 : ∀ x ∈ p0, x.block < W.heap.size := by obtain ⟨m, hm⟩ := k0; exact DataW.trod_lt m _ _ _ hm
  have k1 := h1
  have lt1 : ∀ x ∈ p1, x.block < W.heap.size := by obtain ⟨m, hm⟩ := k1; exact DataW.trod_lt m _ _ _ hm
  have k2 := h2
  have lt2 : ∀ x ∈ p2, x.block < W.heap.size := by obtain ⟨m, hm⟩ := k2; exact DataW.trod_lt m _ _ _ hm
  have k3 := h3
  have lt3 : ∀ x ∈ p3, x.block < W.heap.size := by obtain ⟨m, hm⟩ := k3; exact DataW.trod_lt m _ _ _ hm
  obtain ⟨a0, rfl, rfl, rfl, w0⟩ := open_int Tryd.underlying3 (hval 0 3 v0 rfl rfl) h0
  obtain ⟨ad1, len1, cap1, rfl⟩ := okWide_slice Tryd.underlying28 (hval 1 28 v1 rfl rfl)
  obtain ⟨L1, rfl, hc1, hl1, hr1, hi1⟩ := open_ents Tryd.underlying28 h1
  obtain ⟨ad2, len2, cap2, rfl⟩ := okWide_slice Tryd.underlying54 (hval 2 54 v2 rfl rfl)
  obtain ⟨L2, rfl, hc2, hl2, hr2⟩ := open_nums Tryd.underlying54 h2
  obtain ⟨a3, rfl, rfl, rfl, w3⟩ := open_int Tryd.underlying3 (hval 3 3 v3 rfl rfl) h3
  clear hA0 hval0
  refine (long_walk a0 ad1 ad2 cap1 cap2 L1 L2 a3 W hr1 hc1 hi1 hr2 hc2 hl1 hl2 hG).mono fun e W' ⟨he, bel⟩ => ?_
  subst he
  exact ⟨_, rfl, _, _, _, [], _, [], hW', trodAll_mk1 (shut_bool Tryd.underlying4 _), (trodAll_cons_mk (Below.trod laidOut (by kernel_rfl) (of_decide_eq_true (by kernel_rfl)) k0 bel lt0) (trodAll_cons_mk (Below.trod laidOut (by kernel_rfl) (of_decide_eq_true (by kernel_rfl)) k1 bel lt1) (trodAll_cons_mk (Below.trod laidOut (by kernel_rfl) (of_decide_eq_true (by kernel_rfl)) k2 bel lt2) (trodAll_cons_mk (Below.trod laidOut (by kernel_rfl) (of_decide_eq_true (by kernel_rfl)) k3 bel lt3) trodAll_mk0)))), rfl, bel.frame _, fun h => by cases h⟩

theorem over : Rows.chooseLongRow.holds Tryd.pinned (OpenSpec.ofChange Rows.chooseLongSpec) :=
  OpenClaim.holds_of_wide 7 Tryd.f7 rfl rfl rfl rfl rfl rfl rfl ⟨rfl, rfl, rfl, rfl, rfl⟩ rfl rfl rfl rfl rfl (by kernel_rfl) Tryd.func7 (by kernel_rfl)
    (of_decide_eq_true (by kernel_rfl)) (by unfold Func.isWrapper; first | (rw [if_pos (by decide +kernel)]; kernel_rfl) | (rw [if_neg (by decide +kernel)]; exact ⟨rfl, rfl⟩))
    (fun os started H enc _ => lifted os started H enc)

/-- The statement. -/
theorem proved : Rows.ChooseLongCardSaid :=
  Claim7.holds_tied_plain_at .later [] [.data] true (true, "91fc2f8fd9d5b906b7424cb51c136dfd2fb96440144b4bb0b9368a42e7a13d5b") false
    over (fun _ h => by cases h) (by kernel_rfl) (fun _ h => by cases h) chooseLong_row_tie rfl ⟨rfl, rfl⟩ (by kernel_rfl) rfl
    (fun f fn hf hfn => by
      obtain rfl : f = 7 := Option.some.inj ((show Tryd.prog.funcNamed "comptor/comptorlaw18.ChooseLong" = some 7 by kernel_rfl).symm.trans hf) |>.symm
      obtain rfl : fn = Tryd.f7 := (Option.some.inj (Tryd.func7.symm.trans hfn)).symm
      exact ⟨by kernel_rfl, fun j t ht => by
        rw [Tryd.params7] at ht
        have hm : t ∈ [3, 28, 54, 3] := by simpa using Array.mem_of_getElem? ht
        have hall : ([3, 28, 54, 3].all fun u => !Tryd.prog.wantsStandIn u) = true := by kernel_rfl
        exact (show Tryd.prog.wantsStandIn t = false by simpa using List.all_eq_true.1 hall t hm)⟩)
    (by kernel_rfl)
#print axioms proved
end Go.Proofs.YtpbjjmenkoigjaaDoor.chooseLong

/- The kit's walk at one frame of an ordinary call; a select of one case with a default, as a step of such a walk. -/
import Derived.Test.YtnldjddmchfcoaaProg
import Derived.WalkKit
import Derived.Scope
import Derived.Conc.LoneSelect
import Derived.Conc.LoneSelectN
namespace Go.Proofs.Ytnldjddmchfcoaa
open Go.RowKit Go.Conc
set_option linter.unusedVariables false
/-- As Code.wp, at the frame b alone. -/
def wpA (b : Frame) (P : Program) (c : Code) (Q : Exit → Act → World → Prop) (a : Act) (w : World) : Prop :=
  ∀ (k : List Item) (cs : List Frame), ∃ e a' w', Q e a' w' ∧ Arrives P (lone (b.at a (.code c :: k)) cs w) b k cs e a' w'
section
variable {b : Frame} {P : Program} {Q : Exit → Act → World → Prop} {a : Act} {w : World}
theorem wpA_of_wp {c : Code} (h : c.wp P Q a w) : wpA b P c Q a w := h b
theorem wpA_seq {x y : Code} (h : wpA b P x (Exit.then (wpA b P y Q) Q) a w) : wpA b P (Code.seq x y) Q a w := by
  intro k cs
  obtain ⟨e, a₁, w₁, hq, harr⟩ := h (.code y :: k) cs
  cases e with
  | normal =>
    obtain ⟨e₂, a₂, w₂, hq₂, harr₂⟩ := hq k cs
    exact ⟨e₂, a₂, w₂, hq₂, .of_steps (.head step_seq harr) harr₂⟩
  | exit id => exact ⟨_, a₁, w₁, hq, .of_steps (.one step_seq) (.pass (x := .code y) rfl (fun _ _ => .inl (by simp)) harr)⟩
  | goto l => exact ⟨_, a₁, w₁, hq, .of_steps (.one step_seq) (.pass (x := .code y) rfl (fun _ _ => .inl (by simp)) harr)⟩
  | ret => exact ⟨_, a₁, w₁, hq, .of_steps (.one step_seq) (.pass (x := .code y) rfl (fun _ _ => .inl (by simp)) harr)⟩
  | panic ch => exact ⟨_, a₁, w₁, hq, .of_steps (.one step_seq) (.pass (x := .code y) rfl (fun _ _ => .inl (by simp)) harr)⟩
  | outgrown => exact ⟨_, a₁, w₁, hq, .of_steps (.one step_seq) (.pass (x := .code y) rfl (fun _ _ => .inl (by simp)) harr)⟩
theorem wpA_seq_k {x y : Code} (h : ∀ K : Act → World → Prop, (∀ a w, wpA b P y Q a w → K a w) → x.wp P (Exit.then K Q) a w) : wpA b P (Code.seq x y) Q a w :=
  wpA_seq (wpA_of_wp (h _ fun _ _ h => h))
theorem wpA_block {id : Nat} {c : Code} (h : wpA b P c (Exit.inBlock id Q) a w) : wpA b P (Code.block id c) Q a w := by
  intro k cs
  obtain ⟨e, a₁, w₁, hq, harr⟩ := h (.inBlock id :: k) cs
  cases e with
  | normal => exact ⟨.normal, a₁, w₁, hq, .head step_block (Steps.trans harr (.one step_inBlock))⟩
  | exit id' =>
    by_cases hid : id' = id
    · simp only [Exit.inBlock, hid, if_true] at hq
      exact ⟨.normal, a₁, w₁, hq, .head step_block (harr k (by simp [exitTo, hid]))⟩
    · simp only [Exit.inBlock, hid, if_false] at hq
      refine ⟨.exit id', a₁, w₁, hq, fun k' hk => .head step_block (harr k' ?_)⟩
      have : (id == id') = false := by simp; exact fun h => hid h.symm
      simp [exitTo, this, hk]
  | goto l => exact ⟨_, a₁, w₁, hq, fun k' hk => .head step_block (harr k' (by simp [gotoIn, hk]))⟩
  | ret => exact ⟨_, a₁, w₁, hq, .of_steps (.one step_block) harr⟩
  | panic ch => exact ⟨_, a₁, w₁, hq, .of_steps (.one step_block) harr⟩
  | outgrown => exact ⟨_, a₁, w₁, hq, .of_steps (b := b) (k := k) (cs := cs) (e := .outgrown) (.one step_block) harr⟩
theorem wpA_loop {c : Code} (I : Act → World → Prop) (μ : Act → World → Nat) (h₀ : I a w)
    (round : ∀ a w, I a w → wpA b P c (Exit.then (fun a' w' => I a' w' ∧ μ a' w' < μ a w) Q) a w) : wpA b P (Code.loop c) Q a w := by
  intro k cs
  have key : ∀ n a w, μ a w = n → I a w →
      ∃ e a' w', Q e a' w' ∧ Arrives P (lone (b.at a (.code c :: .inLoop c :: k)) cs w) b k cs e a' w' := by
    intro n
    induction n using Nat.strongRecOn with
    | _ n ih =>
      intro a w hn hI
      obtain ⟨e, a₁, w₁, hq, harr⟩ := round a w hI (.inLoop c :: k) cs
      cases e with
      | normal =>
        obtain ⟨hI₁, hlt⟩ := hq
        obtain ⟨e₂, a₂, w₂, hq₂, harr₂⟩ := ih (μ a₁ w₁) (hn ▸ hlt) a₁ w₁ rfl hI₁
        exact ⟨e₂, a₂, w₂, hq₂, .of_steps (Steps.trans harr (.one step_inLoop)) harr₂⟩
      | exit id => exact ⟨_, a₁, w₁, hq, .pass (x := .inLoop c) rfl (fun _ _ => .inl (by simp)) harr⟩
      | goto l => exact ⟨_, a₁, w₁, hq, .pass (x := .inLoop c) rfl (fun _ _ => .inl (by simp)) harr⟩
      | ret => exact ⟨_, a₁, w₁, hq, .pass (x := .inLoop c) rfl (fun _ _ => .inl (by simp)) harr⟩
      | panic ch => exact ⟨_, a₁, w₁, hq, .pass (x := .inLoop c) rfl (fun _ _ => .inl (by simp)) harr⟩
      | outgrown => exact ⟨_, a₁, w₁, hq, .pass (x := .inLoop c) rfl (fun _ _ => .inl (by simp)) harr⟩
  obtain ⟨e, a', w', hq, harr⟩ := key _ a w rfl h₀
  exact ⟨e, a', w', hq, .of_steps (.one step_loop) harr⟩
theorem wpA_scope {c : Code} (h : wpA b P c (Exit.noGoto Q) a w) : wpA b P (Code.scope c) Q a w := by
  intro k cs
  obtain ⟨e, a₁, w₁, hq, harr⟩ := h (.inScope c :: k) cs
  cases e with
  | normal => exact ⟨.normal, a₁, w₁, hq, .head step_scope (Steps.trans harr (.one step_inScope))⟩
  | exit id => exact ⟨.exit id, a₁, w₁, hq, fun k' hk => .head step_scope (harr k' (by simp [exitTo, hk]))⟩
  | goto l => exact hq.elim
  | ret => exact ⟨_, a₁, w₁, hq, .of_steps (.one step_scope) harr⟩
  | panic ch => exact ⟨_, a₁, w₁, hq, .of_steps (.one step_scope) harr⟩
  | outgrown => exact ⟨_, a₁, w₁, hq, .of_steps (.one step_scope) harr⟩
/-- A region whose first operation is one step of the machine's. -/
theorem wpA_region {id : Nat} {o : Oper} {l : List Oper} {v : Value} {w' : World}
    (hstep : ∀ (k : List Item) (cs : List Frame), step P (solo (G (b.at a (.inRegion (o :: l).toArray (0 :: List.range' 1 l.length) :: k)) cs) w) = .next (solo (G ((b.at a (.inRegion (o :: l).toArray (0 :: List.range' 1 l.length) :: k)).finish v) cs) w'))
    (h : wpList P (o :: l).toArray Q l (a.put o.dst v) w') : wpA b P (Code.region id (o :: l).toArray false) Q a w := by
  intro k cs
  have hops : wpOps P (o :: l).toArray Q (List.range' 1 l.length) = wpList P (o :: l).toArray Q l := wpOps_eq_wpList l 1 (fun j => by simp [Nat.add_comm 1 j])
  obtain ⟨e, a', w₂, q, r⟩ := wp_ops (List.range' 1 l.length) _ w' (by rw [hops]; exact h) b k cs
  refine ⟨e, a', w₂, q, .of_steps (.head step_region (.one ?_)) r⟩
  have hr : List.range (o :: l).toArray.size = 0 :: List.range' 1 l.length := by
    rw [List.range_eq_range']
    simp [List.range'_succ]
  have := hstep k cs
  rw [Frame.finish_at] at this
  rw [hr]
  simp only [List.getElem?_toArray, List.getElem?_cons_zero, Option.bind_some] at this
  exact this
section
variable {id : Nat} {o : Oper} {l : List Oper} {c cap s r : Nat} {buf : Array Value} {closed tm : Bool} {v z : Value}
theorem wpA_sel_recv (hb : b.kind ≠ .early) (hg : o.guard = none) (hr : (execOp a.eval o).run P w = .ok (.comm #[rcase c z] false .select) w) (hc : w.heap[c]? = some (.chan cap buf closed s r tm)) (hsome : 0 < buf.size)
    (h : wpList P (o :: l).toArray Q l (a.put o.dst (.tuple #[goInt 0, .bool true, buf.getD 0 undef])) (w.setChan c cap (buf.extract 1 buf.size) closed s (r + 1) tm)) : wpA b P (Code.region id (o :: l).toArray false) Q a w :=
  wpA_region (fun k cs => step_lone_select_recv_buf (stepG_comm rfl (by simp [Region.wanted, hg]) hb hr) hc hsome) h
theorem wpA_sel_none (hb : b.kind ≠ .early) (hg : o.guard = none) (hr : (execOp a.eval o).run P w = .ok (.comm #[rcase c z] false .select) w) (hc : w.heap[c]? = some (.chan cap #[] false s r tm))
    (h : wpList P (o :: l).toArray Q l (a.put o.dst (.tuple #[goInt (-1), .bool false, z])) w) : wpA b P (Code.region id (o :: l).toArray false) Q a w :=
  wpA_region (fun k cs => step_lone_select_default (stepG_comm rfl (by simp [Region.wanted, hg]) hb hr) hc) h
theorem wpA_sel_send (hb : b.kind ≠ .early) (hg : o.guard = none) (hr : (execOp a.eval o).run P w = .ok (.comm #[scase c v z] false .select) w) (hc : w.heap[c]? = some (.chan cap buf false s r tm)) (hroom : buf.size < cap)
    (h : wpList P (o :: l).toArray Q l (a.put o.dst (.tuple #[goInt 0, .bool false])) (w.setChan c cap (buf.push v) false (s + 1) r tm)) : wpA b P (Code.region id (o :: l).toArray false) Q a w :=
  wpA_region (fun k cs => step_lone_select_send_room (stepG_comm rfl (by simp [Region.wanted, hg]) hb hr) hc hroom) h
theorem wpA_sel_full (hb : b.kind ≠ .early) (hg : o.guard = none) (hr : (execOp a.eval o).run P w = .ok (.comm #[scase c v z] false .select) w) (hc : w.heap[c]? = some (.chan cap buf false s r tm)) (hfull : cap ≤ buf.size)
    (h : wpList P (o :: l).toArray Q l (a.put o.dst (.tuple #[goInt (-1), .bool false])) w) : wpA b P (Code.region id (o :: l).toArray false) Q a w :=
  wpA_region (fun k cs => step_lone_select_send_full (stepG_comm rfl (by simp [Region.wanted, hg]) hb hr) hc hfull) h
end
end
/-- The frame of an ordinary call. -/
def frm (f : FuncId) : Frame := { (default : Frame) with fn := f, kind := .normal }
theorem frm_kind (f : FuncId) : (frm f).kind ≠ .early := by simp [frm]
theorem calls_of_wpA {P : Program} {f : FuncId} {fn : Func} {c : Code} {args : Array Value} {w : World} {R : Ending → World → Prop}
    (hf : P.funcs[f]? = some fn) (hb : fn.body = some c)
    (h : wpA (frm f) P c (bodyPost P fn R) { tmps := args ++ Array.replicate (fn.ntmps - args.size) undef, defers := [] } w) :
    Calls P f args w R := by
  intro cs
  have henter : Frame.enter P f args .normal =
      (frm f).at { tmps := args ++ Array.replicate (fn.ntmps - args.size) undef, defers := [] } [.code c] := by
    simp [Frame.enter, Frame.at, hf, hb, frm]
  obtain ⟨e, a', w', hq, harr⟩ := h [] cs
  rw [← henter] at harr
  cases e with
  | normal =>
    obtain ⟨hd, v, hr, hR⟩ := hq
    exact ⟨.returned v, w', _, hR, Steps.trans harr (.one step_end), rfl, rfl, hd, rfl, fn, hf, hr⟩
  | ret =>
    obtain ⟨hd, v, hr, hR⟩ := hq
    obtain ⟨todo, hs⟩ := harr
    exact ⟨.returned v, w', _, hR, hs, rfl, rfl, hd, rfl, fn, hf, hr⟩
  | panic chain =>
    obtain ⟨hd, hR⟩ := hq
    obtain ⟨todo, hs⟩ := harr
    exact ⟨.panicked chain, w', _, hR, hs, rfl, rfl, hd, fn, hf⟩
  | exit id => exact hq.elim
  | goto l => exact hq.elim
  | outgrown => exact ⟨.outgrown, w', frm f, hq, harr.resolve_left (by simp [frm]), rfl, trivial⟩
end Go.Proofs.Ytnldjddmchfcoaa

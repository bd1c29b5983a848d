/- A box and two lists of one's own. -/
import Derived.Test.YtnldjddmchfcoaaMailH
namespace Go.Proofs.Ytnldjddmchfcoaa
open Go.RowKit Go.Conc
set_option linter.unusedVariables false
theorem OwnC.lt {Y : Nat → Prop} {w : World} {v : Value} {n size : Nat} {cs : List Value} (h : OwnC Y w v n size cs) : OwnC (fun q => Y q ∧ q < w.heap.size) w v n size cs := by
  obtain ⟨h1, h2⟩ := h
  refine ⟨h1, ?_⟩
  rcases h2 with h | ⟨b, off, cap, hv, hb, hlt, r⟩
  · exact .inl h
  · exact .inr ⟨b, off, cap, hv, ⟨hb, hlt⟩, hlt, r⟩
/-- A box behind w0; what went in, what came out. -/
def OS (w0 W : World) (g c cap : Nat) (L : List Ltr) (vi vo : Value) (I O : List Ltr) : Prop :=
  Bx W g c cap L ∧ (w0.heap.size ≤ g ∧ w0.heap.size ≤ c) ∧ Below w0.heap.size w0 W ∧ ∃ Yi Yo : Nat → Prop, OwnC Yi W vi I.length 3 (lcells I) ∧ OwnC Yo W vo O.length 3 (lcells O) ∧ (∀ q, Yi q → ¬ Yo q) ∧
    (∀ q, Yi q → q ≠ g ∧ q ≠ c ∧ w0.heap.size ≤ q ∧ q < W.heap.size) ∧ (∀ q, Yo q → q ≠ g ∧ q ≠ c ∧ w0.heap.size ≤ q ∧ q < W.heap.size)
section
variable {w0 W W' : World} {g c cap : Nat} {L I O : List Ltr} {vi vo : Value}
theorem OS.later (h : OS w0 W g c cap L vi vo I O) (hb : Below W.heap.size W W') : OS w0 W' g c cap L vi vo I O := by
  obtain ⟨h1, h2, h3, Yi, Yo, h4, h5, h6, h7, h8⟩ := h
  exact ⟨h1.later hb, h2, h3.trans (hb.mono h3.size), Yi, Yo, h4.later hb, h5.later hb, h6, fun q hq => ⟨(h7 q hq).1, (h7 q hq).2.1, (h7 q hq).2.2.1, Nat.lt_of_lt_of_le (h7 q hq).2.2.2 hb.size⟩, fun q hq => ⟨(h8 q hq).1, (h8 q hq).2.1, (h8 q hq).2.2.1, Nat.lt_of_lt_of_le (h8 q hq).2.2.2 hb.size⟩⟩
theorem OS.below (h : OS w0 W g c cap L vi vo I O) : Below w0.heap.size w0 W := h.2.2.1
theorem OS.cell (h : OS w0 W g c cap L vi vo I O) {p : Addr} {v : Value} (hc : w0.cell? p = some v) : W.cell? p = some v := (h.below.cell (cell_lt hc)).trans hc
theorem OS.box {L' : List Ltr} (h : OS w0 W g c cap L vi vo I O) (hB : Bx W' g c cap L') (hT : Turned (fun q => q = c ∨ W.heap.size ≤ q) W W') : OS w0 W' g c cap L' vi vo I O := by
  obtain ⟨h1, h2, h3, Yi, Yo, h4, h5, h6, h7, h8⟩ := h
  have hx : ∀ q, (q ≠ g ∧ q ≠ c ∧ w0.heap.size ≤ q ∧ q < W.heap.size) → ¬ (q = c ∨ W.heap.size ≤ q) := fun q hq e => by
    rcases e with e | e
    · exact hq.2.1 e
    · omega
  refine ⟨hB, h2, h3.trans (hT.below (fun q h => ?_) h3.size), Yi, Yo, h4.turned hT (fun q hq => hx q (h7 q hq)), h5.turned hT (fun q hq => hx q (h8 q hq)), h6, fun q hq => ⟨(h7 q hq).1, (h7 q hq).2.1, (h7 q hq).2.2.1, Nat.lt_of_lt_of_le (h7 q hq).2.2.2 hT.size⟩, fun q hq => ⟨(h8 q hq).1, (h8 q hq).2.1, (h8 q hq).2.2.1, Nat.lt_of_lt_of_le (h8 q hq).2.2.2 hT.size⟩⟩
  rcases h with rfl | h
  · exact h2.2
  · exact Nat.le_trans h3.size h
/-- Behind an append to the first list, out of a world W. -/
theorem OS.into {vi' : Value} {I' : List Ltr} (h : OS w0 W g c cap L vi vo I O) (hf : ∀ Y : Nat → Prop, OwnC Y W vi I.length 3 (lcells I) → OwnC (fun q => Y q ∨ W.heap.size ≤ q) W' vi' I'.length 3 (lcells I') ∧ Turned Y W W') : OS w0 W' g c cap L vi' vo I' O := by
  obtain ⟨h1, h2, h3, Yi, Yo, h4, h5, h6, h7, h8⟩ := h
  obtain ⟨k1, k2⟩ := hf Yi h4
  have hw := h3.size
  have hg := h1.2.1.1
  have hc := h1.2.2.1
  refine ⟨h1.turned k2 (fun e => (h7 g e).1 rfl) (fun e => (h7 c e).2.1 rfl), h2, h3.trans (k2.below (fun q h => (h7 q h).2.2.1) h3.size), _, Yo, k1.lt, h5.turned k2 (fun q q2 q1 => h6 q q1 q2), fun q q1 q2 => ?_, fun q q1 => ?_, fun q q2 => ⟨(h8 q q2).1, (h8 q q2).2.1, (h8 q q2).2.2.1, Nat.lt_of_lt_of_le (h8 q q2).2.2.2 k2.size⟩⟩
  · rcases q1.1 with h | h
    · exact h6 q h q2
    · have := (h8 q q2).2.2.2; omega
  · rcases q1.1 with h | h
    · exact ⟨(h7 q h).1, (h7 q h).2.1, (h7 q h).2.2.1, q1.2⟩
    · exact ⟨fun e => by omega, fun e => by omega, by omega, q1.2⟩
theorem OS.outof {vo' : Value} {O' : List Ltr} (h : OS w0 W g c cap L vi vo I O) (hf : ∀ Y : Nat → Prop, OwnC Y W vo O.length 3 (lcells O) → OwnC (fun q => Y q ∨ W.heap.size ≤ q) W' vo' O'.length 3 (lcells O') ∧ Turned Y W W') : OS w0 W' g c cap L vi vo' I O' := by
  obtain ⟨h1, h2, h3, Yi, Yo, h4, h5, h6, h7, h8⟩ := h
  obtain ⟨k1, k2⟩ := hf Yo h5
  have hw := h3.size
  have hg := h1.2.1.1
  have hc := h1.2.2.1
  refine ⟨h1.turned k2 (fun e => (h8 g e).1 rfl) (fun e => (h8 c e).2.1 rfl), h2, h3.trans (k2.below (fun q h => (h8 q h).2.2.1) h3.size), Yi, _, h4.turned k2 (fun q q1 q2 => h6 q q1 q2), k1.lt, fun q q1 q2 => ?_, fun q q1 => ⟨(h7 q q1).1, (h7 q q1).2.1, (h7 q q1).2.2.1, Nat.lt_of_lt_of_le (h7 q q1).2.2.2 k2.size⟩, fun q q2 => ?_⟩
  · rcases q2.1 with h | h
    · exact h6 q q1 h
    · have := (h7 q q1).2.2.2; omega
  · rcases q2.1 with h | h
    · exact ⟨(h8 q h).1, (h8 q h).2.1, (h8 q h).2.2.1, q2.2⟩
    · exact ⟨fun e => by omega, fun e => by omega, by omega, q2.2⟩
theorem OS.shape (h : OS w0 W g c cap L vi vo I O) : ∃ x cp y cq, vi = .slice x I.length cp ∧ vo = .slice y O.length cq := by
  obtain ⟨h1, h2, h3, Yi, Yo, h4, h5, _⟩ := h
  obtain ⟨x, cp, e1⟩ := h4.shape
  obtain ⟨y, cq, e2⟩ := h5.shape
  exact ⟨x, cp, y, cq, e1, e2⟩
theorem os_put (h : OS w0 W g c cap L vi vo I O) (x : Ltr) : Calls Try.prog 19 #[.pointer (some ⟨g, 0, none⟩), .agg #[.int .i64 x.f, .int .i64 x.t, .string x.d]] W fun e w' => e = .returned (.int .i64 (pErr cap L x)) ∧ OS w0 w' g c cap (pL cap L x) vi vo I O := by
  show Calls Try.prog 19 #[.pointer (some ⟨g, 0, none⟩), x.v] W _
  unfold pErr pL
  by_cases q : L.length < cap
  · by_cases q2 : 4096 < x.d.size
    · refine (put_long h.1 x (by omega) (by omega)).mono ?_
      rintro e w' ⟨rfl, hB, hT⟩
      rw [if_pos q, if_pos q2, if_neg (fun h => h.2 q2)]
      exact ⟨rfl, h.box hB hT⟩
    · refine (put_yes h.1 x (by omega) (by omega)).mono ?_
      rintro e w' ⟨rfl, hB, hT⟩
      rw [if_pos q, if_neg q2, if_pos ⟨q, q2⟩]
      exact ⟨rfl, h.box hB hT⟩
  · refine (put_full h.1 x (by simp; omega) trivial).mono ?_
    rintro e w' ⟨rfl, hB, hT⟩
    rw [if_neg q, if_neg (fun h => q h.1)]
    exact ⟨rfl, h.box hB hT⟩
theorem os_take (h : OS w0 W g c cap L vi vo I O) : ∃ (x : Ltr) (ok : Bool), (∀ y L', L = y :: L' → x = y ∧ ok = true) ∧ (L = [] → x = zl ∧ ok = false) ∧ Calls Try.prog 21 #[.pointer (some ⟨g, 0, none⟩)] W fun e w' => e = .returned (.tuple #[.agg #[.int .i64 x.f, .int .i64 x.t, .string x.d], .bool ok]) ∧ OS w0 w' g c cap L.tail vi vo I O := by
  cases L with
  | nil =>
    refine ⟨zl, false, fun y L' e => (by cases e), fun _ => ⟨rfl, rfl⟩, (take_none h.1).mono ?_⟩
    rintro e w' ⟨rfl, hB, hb⟩
    exact ⟨rfl, h.later hb⟩
  | cons x L' =>
    refine ⟨x, true, fun y L'' e => (by injection e with e1 e2; exact ⟨e1, rfl⟩), fun e => (by cases e), (take_some h.1).mono ?_⟩
    rintro e w' ⟨rfl, hB, hT⟩
    exact ⟨rfl, h.box hB hT⟩
/-- An append whose run is known, in a region that draws nothing. -/
theorem app_run {wr : World} {ops : Array Oper} {rest : List Oper} {o : Oper} {a : Act} {Q : Exit → Act → World → Prop} (hgd : o.guard = none) (s x : Operand)
    (ho : o.op = .call { callee := .builtin .append, args := #[s, x], argTypes := #[47, 47] }) (hty : o.type = 47) (v vx : Value) (hs : a.eval s = v) (hx : a.eval x = vx) {v' : Value} {w' : World}
    (hrun : (Builtin.append_ #[47, 47] 47 #[v, vx]).run Try.prog wr = .ok v' w') (h : wpList Try.prog ops Q rest (a.put o.dst v') w') : wpList Try.prog ops Q (o :: rest) a wr := by
  refine wpList_plain hgd fun K hK => ?_
  unfold Oper.wp
  simp only [execOp, ho, resolve, invoke, builtin, Sem.run_bind, Sem.run_pure, Result.andThen_ok, List.map_toArray, List.map_cons, List.map_nil, hs, hx, hty, hrun]
  exact hK _ _ h
theorem run_none {Y : Nat → Prop} {w : World} {v : Value} {n : Nat} {cs : List Value} (h : OwnC Y w v n 3 cs) : (Builtin.append_ #[47, 47] 47 #[v, .slice none 0 0]).run Try.prog w = .ok v w := by
  obtain ⟨i0, hi0, hi1, hi2, hi3⟩ := info_ltr
  rcases h.2 with ⟨rfl, rfl⟩ | ⟨b, off, cap, rfl, _, _, hnc, _⟩
  · simp [Builtin.append_, run_underlying Try.underlying47, sizeOf, typeInfo, hi0, Builtin.lenOf, Builtin.firstCells]
  · simp [Builtin.append_, run_underlying Try.underlying47, sizeOf, typeInfo, hi0, Builtin.lenOf, Builtin.firstCells, hnc, storeCells]
theorem lcells_one (l : List Ltr) : ∀ u ∈ lcells l, u.oneCell' = true := by
  induction l with
  | nil => intro u h; cases h
  | cons x r ih =>
    intro u h
    simp only [lcells, List.mem_cons] at h
    rcases h with rfl | rfl | rfl | h
    · rfl
    · rfl
    · rfl
    · exact ih u h
/-- All letters out, behind what came out. -/
theorem os_join (h : OS w0 W g c cap L vi vo I O) (hI : I = O ++ L) (hn : I.length ≤ 1000) : Calls Try.prog 24 #[.pointer (some ⟨g, 0, none⟩)] W fun e w' => ∃ v vo' w'', e = .returned v ∧ (Builtin.append_ #[47, 47] 47 #[vo, v]).run Try.prog w' = .ok vo' w'' ∧ ReadL w'' vo' I ∧ ReadL w'' vi I ∧ Bx w'' g c cap [] ∧ Below w0.heap.size w0 w'' := by
  have hlen : I.length = O.length + L.length := by rw [hI, List.length_append]
  refine (all_bx h.1 (by omega)).mono ?_
  rintro e w' ⟨⟨x, cp, rfl, hO1⟩, hB, hT⟩
  have hS := h.box hB hT
  obtain ⟨vo', w'', hrun, hS2⟩ : ∃ vo' w'', (Builtin.append_ #[47, 47] 47 #[vo, .slice x L.length cp]).run Try.prog w' = .ok vo' w'' ∧ OS w0 w'' g c cap [] vi vo' I I := by
    rcases hO1.2 with ⟨hv, hn0⟩ | ⟨b, off, cap', hv, _, hlt, hc, h3, _⟩
    · have hL0 := List.eq_nil_of_length_eq_zero hn0
      have hIO : I = O := by rw [hI, hL0, List.append_nil]
      have hr : (Builtin.append_ #[47, 47] 47 #[vo, .slice none 0 0]).run Try.prog w' = .ok vo w' := by
        obtain ⟨_, _, _, Yi, Yo, _, h5, _⟩ := hS
        exact run_none h5
      exact ⟨vo, w', by rw [hv]; exact hr, by rw [hIO] at hS ⊢; exact hS⟩
    · injection hv with hv1 hv2 hv3
      subst hv1 hv3
      have hadd : ∀ j, (⟨b, off, none⟩ : Addr).add j = ⟨b, off + j, none⟩ := by intro j; unfold Addr.add; split <;> simp_all
      obtain ⟨i0, hi0, hi1, hi2, hi3⟩ := info_ltr
      have hgo : ∀ Y : Nat → Prop, OwnC Y w' vo O.length 3 (lcells O) → ∃ v' w'', (Builtin.append_ #[47, 47] 47 #[vo, .slice (some ⟨b, off, none⟩) L.length cp]).run Try.prog w' = .ok v' w'' ∧ OwnC (fun q => Y q ∨ w'.heap.size ≤ q) w'' v' (O.length + L.length) 3 (lcells O ++ lcells L) ∧ Turned Y w' w'' := fun Y hY =>
        run_app (P := Try.prog) 47 47 40 i0 (.agg #[.int .i64 0, .int .i64 0, .string ⟨#[]⟩]) 32 Try.underlying47 hi0 hi1 hi2 hi3 rfl (by decide) hY ⟨b, off, none⟩ L.length cp (lcells L) (lcells_length L) (fun j u hu => by rw [hadd]; exact h3 j u hu) (lcells_one L) (by rw [show maxLen = 9223372036854775807 from rfl]; omega) (by omega)
      obtain ⟨v', w'', hrun⟩ : ∃ v' w'', (Builtin.append_ #[47, 47] 47 #[vo, .slice (some ⟨b, off, none⟩) L.length cp]).run Try.prog w' = .ok v' w'' := by
        obtain ⟨_, _, _, Yi, Yo, _, h5, _⟩ := id hS
        obtain ⟨v', w'', hr, _⟩ := hgo Yo h5
        exact ⟨v', w'', hr⟩
      refine ⟨v', w'', hrun, hS.outof (fun Y hY => ?_)⟩
      obtain ⟨v2, w2, hr2, hO2, hT2⟩ := hgo Y hY
      rw [hrun] at hr2
      injection hr2 with e1 e2
      subst e1 e2
      rw [hI, List.length_append, lcells_append]
      exact ⟨hO2, hT2⟩
  obtain ⟨hB2, _, hbel, Yi, Yo, h4, h5, _⟩ := hS2
  obtain ⟨xi, ci, rfl⟩ := h4.shape
  obtain ⟨xo, co, rfl⟩ := h5.shape
  exact ⟨_, _, w'', rfl, hrun, ReadL.of_own h5 rfl, ReadL.of_own h4 rfl, hB2, hbel⟩
theorem os_in {x0 : Option Addr} {n cp : Nat} (x : Ltr) (h : OS w0 W g c cap L (.slice x0 n cp) vo I O) (hn : n = I.length) (hs : n ≤ 1000) : ∃ x' cap' w', (Builtin.append_ #[47, 47] 47 #[.slice x0 n cp, .slice (some ⟨W.heap.size, 0, none⟩) 1 1]).run Try.prog (W.alloc (.cells #[.int .i64 x.f, .int .i64 x.t, .string x.d] 40)) = .ok (.slice x' (n + 1) cap') w' ∧ OS w0 w' g c cap L (.slice x' (n + 1) cap') vo (I ++ [x]) O := by
  subst hn
  obtain ⟨x', cap', w', hrun⟩ : ∃ x' cap' w', (Builtin.append_ #[47, 47] 47 #[.slice x0 I.length cp, .slice (some ⟨W.heap.size, 0, none⟩) 1 1]).run Try.prog (W.alloc (.cells #[.int .i64 x.f, .int .i64 x.t, .string x.d] 40)) = .ok (.slice x' (I.length + 1) cap') w' := by
    obtain ⟨_, _, _, Yi, Yo, h4, _⟩ := id h
    obtain ⟨x', cap', w', hr, _⟩ := run_ltr x.f x.t x.d h4 (by omega)
    exact ⟨x', cap', w', hr⟩
  refine ⟨x', cap', w', hrun, h.into (fun Y hY => ?_)⟩
  obtain ⟨x2, c2, w2, hr2, hO2, hT2⟩ := run_ltr x.f x.t x.d hY (by omega)
  rw [hrun] at hr2
  injection hr2 with e1 e2
  subst e2
  rw [← e1] at hO2
  rw [List.length_append, lcells_append]
  exact ⟨hO2, (Turned.alloc W Y _).trans hT2 (fun q h => .inl h)⟩
theorem os_out {y0 : Option Addr} {n cq : Nat} (x : Ltr) (h : OS w0 W g c cap L vi (.slice y0 n cq) I O) (hn : n = O.length) (hs : n ≤ 1000) : ∃ x' cap' w', (Builtin.append_ #[47, 47] 47 #[.slice y0 n cq, .slice (some ⟨W.heap.size, 0, none⟩) 1 1]).run Try.prog (W.alloc (.cells #[.int .i64 x.f, .int .i64 x.t, .string x.d] 40)) = .ok (.slice x' (n + 1) cap') w' ∧ OS w0 w' g c cap L vi (.slice x' (n + 1) cap') I (O ++ [x]) := by
  subst hn
  obtain ⟨x', cap', w', hrun⟩ : ∃ x' cap' w', (Builtin.append_ #[47, 47] 47 #[.slice y0 O.length cq, .slice (some ⟨W.heap.size, 0, none⟩) 1 1]).run Try.prog (W.alloc (.cells #[.int .i64 x.f, .int .i64 x.t, .string x.d] 40)) = .ok (.slice x' (O.length + 1) cap') w' := by
    obtain ⟨_, _, _, Yi, Yo, _, h5, _⟩ := id h
    obtain ⟨x', cap', w', hr, _⟩ := run_ltr x.f x.t x.d h5 (by omega)
    exact ⟨x', cap', w', hr⟩
  refine ⟨x', cap', w', hrun, h.outof (fun Y hY => ?_)⟩
  obtain ⟨x2, c2, w2, hr2, hO2, hT2⟩ := run_ltr x.f x.t x.d hY (by omega)
  rw [hrun] at hr2
  injection hr2 with e1 e2
  subst e2
  rw [← e1] at hO2
  rw [List.length_append, lcells_append]
  exact ⟨hO2, (Turned.alloc W Y _).trans hT2 (fun q h => .inl h)⟩
theorem os_len (h : OS w0 W g c cap L vi vo I O) {ln : Nat} (hl : ln = L.length) : Calls Try.prog 25 #[.pointer (some ⟨g, 0, none⟩)] W fun e w' => e = .returned (.int .i64 ln) ∧ W = w' := by
  subst hl
  exact len_bx h.1
end
end Go.Proofs.Ytnldjddmchfcoaa

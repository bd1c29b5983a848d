/- A box of letters: a channel with a buffer; Len, Put, Take, New. -/
import Derived.Test.YtnldjddmchfcoaaMailA
import Derived.Test.YtnldjddmchfcoaaBlk
import Derived.Test.YtnldjddmchfcoaaOwnC
import Derived.WalkSmall
import Derived.Deep.QuietTactic
import Derived.BigQuiet
namespace Go.Proofs.Ytnldjddmchfcoaa
open Go.RowKit Go.Conc
set_option linter.unusedVariables false
theorem ret_int {k : IntKind} {a b : Int} (h : a = b) : Ending.returned (.int k a) = .returned (.int k b) := by rw [h]
theorem ret_bool {a b : Bool} (h : a = b) : Ending.returned (.bool a) = .returned (.bool b) := by rw [h]
structure Ltr where
  f : Int
  t : Int
  d : ByteArray
def Ltr.v (x : Ltr) : Value := .agg #[.int .i64 x.f, .int .i64 x.t, .string x.d]
/-- A box at g over a channel at c, with its letters. -/
def Bx (W : World) (g c cap : Nat) (L : List Ltr) : Prop := g ≠ c ∧ Blk W g #[.chan (some c)] ∧ c < W.heap.size ∧ ∃ s r, W.heap[c]? = some (.chan cap (L.map Ltr.v).toArray false s r false)
theorem Turned.setChan (w : World) (c cap : Nat) (buf : Array Value) (cl : Bool) (s r : Nat) (tm : Bool) : Turned (fun q => q = c) w (w.setChan c cap buf cl s r tm) :=
  ⟨rfl, rfl, rfl, by simp [World.setChan], fun k hk hn => by simp only [World.setChan]; rw [Array.getElem?_setIfInBounds_ne (fun e => hn e.symm)]⟩
theorem Bx.turned {W W' : World} {g c cap : Nat} {L : List Ltr} {X : Nat → Prop} (h : Bx W g c cap L) (ht : Turned X W W') (hg : ¬ X g) (hc : ¬ X c) : Bx W' g c cap L := by
  obtain ⟨h1, h2, h3, s, r, h4⟩ := h
  refine ⟨h1, ⟨Nat.lt_of_lt_of_le h2.1 ht.size, fun i v hv => ⟨(ht.cell (p := ⟨g, i, none⟩) h2.1 hg).trans (h2.2 i v hv).1, (ht.frozen (p := ⟨g, i, none⟩) h2.1 hg).trans (h2.2 i v hv).2⟩⟩, Nat.lt_of_lt_of_le h3 ht.size, s, r, (ht.block c h3 hc).trans h4⟩
theorem Bx.later {W W' : World} {g c cap : Nat} {L : List Ltr} (h : Bx W g c cap L) (hb : Below W.heap.size W W') : Bx W' g c cap L := h.turned (Turned.of_below (fun _ => False) hb) (fun h => h) (fun h => h)
theorem Bx.set_ {W : World} {g c cap : Nat} {L L' : List Ltr} (h : Bx W g c cap L) (s r : Nat) : Bx (W.setChan c cap (L'.map Ltr.v).toArray false s r false) g c cap L' := by
  obtain ⟨h1, h2, h3, _⟩ := h
  have ht := Turned.setChan W c cap (L'.map Ltr.v).toArray false s r false
  refine ⟨h1, ⟨Nat.lt_of_lt_of_le h2.1 ht.size, fun i v hv => ⟨(ht.cell (p := ⟨g, i, none⟩) h2.1 h1).trans (h2.2 i v hv).1, (ht.frozen (p := ⟨g, i, none⟩) h2.1 h1).trans (h2.2 i v hv).2⟩⟩, Nat.lt_of_lt_of_le h3 ht.size, s, r, heap_setChan W c cap _ _ _ _ _ h3⟩
theorem len_nil (w : World) : Calls Try.prog 25 #[.pointer none] w fun e w' => e = .returned (.int .i64 0) ∧ w = w' := by
  go_enter Try.func25, Try.ntmps25
  go_wp2
  go_ret
  exact ⟨rfl, rfl⟩
theorem len_bx {w : World} {g c cap : Nat} {L : List Ltr} (h : Bx w g c cap L) : Calls Try.prog 25 #[.pointer (some ⟨g, 0, none⟩)] w fun e w' => e = .returned (.int .i64 L.length) ∧ w = w' := by
  obtain ⟨h1, h2, h3, s, r, h4⟩ := h
  have r0 := (h2.2 0 _ rfl).1
  have hl := fun ty => run_len_chan (P := Try.prog) 65 ty Try.underlying65 h4
  have hsz : ((L.map Ltr.v).toArray.size : Int) = L.length := by simp
  go_enter Try.func25, Try.ntmps25
  go_wp2
  go_ret
  exact ⟨by simp, rfl⟩
theorem put_nil (w : World) (v : Value) (hv : ∃ x : Ltr, v = x.v) : Calls Try.prog 19 #[.pointer none, v] w fun e w' => e = .returned (.int .i64 2) ∧ Below w.heap.size w w' := by
  obtain ⟨⟨f, t, d⟩, rfl⟩ := hv
  unfold Ltr.v
  go_enter Try.func19, Try.ntmps19
  go_wp2
  go_ret
  exact ⟨rfl, (Below.refl _ _).alloc (Nat.le_refl _) _⟩
/-- Behind the letter's block. -/
theorem putPre {w : World} {g c cap : Nat} {L : List Ltr} (h : Bx w g c cap L) (x : Ltr) : Bx (w.alloc (.cells #[.int .i64 x.f, .int .i64 x.t, .string x.d] 40)) g c cap L ∧ Blk (w.alloc (.cells #[.int .i64 x.f, .int .i64 x.t, .string x.d] 40)) w.heap.size #[.int .i64 x.f, .int .i64 x.t, .string x.d] :=
  ⟨h.later ((Below.refl _ _).alloc (Nat.le_refl _) _), Blk.new w _ _ _ rfl⟩
theorem put_yes {w : World} {g c cap : Nat} {L : List Ltr} (h : Bx w g c cap L) (x : Ltr) (hr : (L.length : Int) < cap) (hd : ¬ (4096 : Int) < x.d.size) : Calls Try.prog 19 #[.pointer (some ⟨g, 0, none⟩), x.v] w fun e w' => e = .returned (.int .i64 0) ∧ Bx w' g c cap (L ++ [x]) ∧ Turned (fun q => q = c ∨ w.heap.size ≤ q) w w' := by
  have HP := Lib.hid (putPre h x)
  have HC := Lib.hid (And.intro h.2.1.1 h.2.2.1)
  have hT : Turned (fun q => q = c ∨ w.heap.size ≤ q) w (w.alloc (.cells #[.int .i64 x.f, .int .i64 x.t, .string x.d] 40)) := Turned.of_below _ ((Below.refl _ _).alloc (Nat.le_refl _) _)
  obtain ⟨f, t, d⟩ := x
  unfold Ltr.v
  dsimp only at HP hT hd ⊢
  obtain ⟨ln, hln⟩ : ∃ ln, ln = L.length := ⟨_, rfl⟩
  have HLN := Lib.hid hln
  rw [← hln] at hr
  clear h
  refine calls_of_wpA Try.func19 rfl ?_
  simp only [Try.ntmps19, List.size_toArray, List.length_cons, List.length_nil, Nat.reduceAdd, Nat.reduceSub, Array.replicate_succ,
     Array.replicate_zero, List.push_toArray, List.append_toArray, List.nil_append, List.cons_append]
  refine wpA_seq_k (fun K hK => ?_)
  go_wp2_with fail
  generalize w.alloc (.cells #[.int .i64 f, .int .i64 t, .string d] 40) = w1 at *
  obtain ⟨hb, hk⟩ := HP.out
  obtain ⟨h1, h2, h3, s, r, h4⟩ := hb
  have r0 : w1.cell? ⟨g, 0, none⟩ = some (.chan (some c)) := (h2.2 0 _ rfl).1
  have k0 := (hk.2 0 _ rfl).1
  have k1 := (hk.2 1 _ rfl).1
  have k2 := (hk.2 2 _ rfl).1
  have hl := fun n ty => run_len_chan (P := Try.prog) 65 ty Try.underlying65 (show (w1.drewN n).heap[c]? = _ from h4)
  have hcp := fun n ty => run_cap_chan (P := Try.prog) 65 ty Try.underlying65 (show (w1.drewN n).heap[c]? = _ from h4)
  rw [show (L.map Ltr.v).toArray.size = ln by simp [hln]] at hl
  have HH4 := Lib.hid h4
  clear h2 hk h4 hln
  have HBX := Lib.hid (fun nq : Nat => HP.out.1.later (W' := w1.drewN nq) ⟨rfl, rfl, rfl, Nat.le_refl _, fun _ _ => rfl⟩)
  have HTX := Lib.hid (fun nq : Nat => (show Turned (fun q => q = c ∨ w.heap.size ≤ q) w (w1.drewN nq) from ⟨hT.os, hT.tape, hT.output, hT.size, hT.block⟩))
  refine wpA_seq_k (fun K hK => ?_)
  go_wp2_with fail
  go_quiet (fail)
  go_wp2_with fail
  refine wpA_seq_k (fun K hK => ?_)
  go_wp2_with fail
  refine wpA_seq (wpA_sel_send (c := c) (v := Ltr.v ⟨f, t, d⟩) (z := .agg #[.int .i64 0, .int .i64 0, .string ⟨#[]⟩]) (cap := cap) (buf := (L.map Ltr.v).toArray) (s := s) (r := r) (tm := false) (frm_kind _) rfl (by simp [go_sem, execOp, scase, Act.eval, Ltr.v]) HH4.out (by simp [← HLN.out]; omega) ?_)
  go_wp2_with fail
  refine wpA_of_wp ?_
  go_wp2_with fail
  go_ret
  have e1 : (L.map Ltr.v ++ [Ltr.v ⟨f, t, d⟩]).toArray = ((L ++ [(⟨f, t, d⟩ : Ltr)]).map Ltr.v).toArray := by simp
  rw [e1]
  exact ⟨rfl, (HBX.out nq).set_ _ _, (HTX.out nq).trans (Turned.setChan _ _ _ _ _ _ _ _) (fun q h => .inl (.inl h))⟩
theorem put_full {w : World} {g c cap : Nat} {L : List Ltr} (h : Bx w g c cap L) (x : Ltr) (hr : decide ((L.length : Int) < cap) = false) (hd : True) : Calls Try.prog 19 #[.pointer (some ⟨g, 0, none⟩), x.v] w fun e w' => e = .returned (.int .i64 9) ∧ Bx w' g c cap L ∧ Turned (fun q => q = c ∨ w.heap.size ≤ q) w w' := by
  have HP := Lib.hid (putPre h x)
  have HC := Lib.hid (And.intro h.2.1.1 h.2.2.1)
  have hT : Turned (fun q => q = c ∨ w.heap.size ≤ q) w (w.alloc (.cells #[.int .i64 x.f, .int .i64 x.t, .string x.d] 40)) := Turned.of_below _ ((Below.refl _ _).alloc (Nat.le_refl _) _)
  obtain ⟨f, t, d⟩ := x
  unfold Ltr.v
  dsimp only at HP hT hd ⊢
  obtain ⟨ln, hln⟩ : ∃ ln, ln = L.length := ⟨_, rfl⟩
  have HLN := Lib.hid hln
  rw [← hln] at hr
  clear h
  refine calls_of_wpA Try.func19 rfl ?_
  simp only [Try.ntmps19, List.size_toArray, List.length_cons, List.length_nil, Nat.reduceAdd, Nat.reduceSub, Array.replicate_succ,
     Array.replicate_zero, List.push_toArray, List.append_toArray, List.nil_append, List.cons_append]
  refine wpA_seq_k (fun K hK => ?_)
  go_wp2_with fail
  generalize w.alloc (.cells #[.int .i64 f, .int .i64 t, .string d] 40) = w1 at *
  obtain ⟨hb, hk⟩ := HP.out
  obtain ⟨h1, h2, h3, s, r, h4⟩ := hb
  have r0 : w1.cell? ⟨g, 0, none⟩ = some (.chan (some c)) := (h2.2 0 _ rfl).1
  have k0 := (hk.2 0 _ rfl).1
  have k1 := (hk.2 1 _ rfl).1
  have k2 := (hk.2 2 _ rfl).1
  have hl := fun n ty => run_len_chan (P := Try.prog) 65 ty Try.underlying65 (show (w1.drewN n).heap[c]? = _ from h4)
  have hcp := fun n ty => run_cap_chan (P := Try.prog) 65 ty Try.underlying65 (show (w1.drewN n).heap[c]? = _ from h4)
  rw [show (L.map Ltr.v).toArray.size = ln by simp [hln]] at hl
  have HH4 := Lib.hid h4
  clear h2 hk h4 hln
  have HBX := Lib.hid (fun nq : Nat => HP.out.1.later (W' := w1.drewN nq) ⟨rfl, rfl, rfl, Nat.le_refl _, fun _ _ => rfl⟩)
  have HTX := Lib.hid (fun nq : Nat => (show Turned (fun q => q = c ∨ w.heap.size ≤ q) w (w1.drewN nq) from ⟨hT.os, hT.tape, hT.output, hT.size, hT.block⟩))
  have hr2 : decide (ln < cap) = false := by simpa using hr
  refine wpA_seq_k (fun K hK => ?_)
  go_wp2_with fail
  go_quiet (fail)
  go_wp2_with fail
  refine wpA_seq_k (fun K hK => ?_)
  go_wp2_with fail
  refine wpA_seq (wpA_sel_full (c := c) (v := Ltr.v ⟨f, t, d⟩) (z := .agg #[.int .i64 0, .int .i64 0, .string ⟨#[]⟩]) (cap := cap) (buf := (L.map Ltr.v).toArray) (s := s) (r := r) (tm := false) (frm_kind _) rfl (by simp [go_sem, execOp, scase, Act.eval, Ltr.v]) HH4.out (by simp [← HLN.out]; simp at hr; omega) ?_)
  go_wp2_with fail
  refine wpA_of_wp ?_
  go_wp2_with fail
  go_ret
  exact ⟨rfl, HBX.out nq, HTX.out nq⟩
theorem put_long {w : World} {g c cap : Nat} {L : List Ltr} (h : Bx w g c cap L) (x : Ltr) (hr : (L.length : Int) < cap) (hd : (4096 : Int) < x.d.size) : Calls Try.prog 19 #[.pointer (some ⟨g, 0, none⟩), x.v] w fun e w' => e = .returned (.int .i64 5) ∧ Bx w' g c cap L ∧ Turned (fun q => q = c ∨ w.heap.size ≤ q) w w' := by
  have HP := Lib.hid (putPre h x)
  have HC := Lib.hid (And.intro h.2.1.1 h.2.2.1)
  have hT : Turned (fun q => q = c ∨ w.heap.size ≤ q) w (w.alloc (.cells #[.int .i64 x.f, .int .i64 x.t, .string x.d] 40)) := Turned.of_below _ ((Below.refl _ _).alloc (Nat.le_refl _) _)
  obtain ⟨f, t, d⟩ := x
  unfold Ltr.v
  dsimp only at HP hT hd ⊢
  obtain ⟨ln, hln⟩ : ∃ ln, ln = L.length := ⟨_, rfl⟩
  have HLN := Lib.hid hln
  rw [← hln] at hr
  clear h
  refine calls_of_wpA Try.func19 rfl ?_
  simp only [Try.ntmps19, List.size_toArray, List.length_cons, List.length_nil, Nat.reduceAdd, Nat.reduceSub, Array.replicate_succ,
     Array.replicate_zero, List.push_toArray, List.append_toArray, List.nil_append, List.cons_append]
  refine wpA_seq_k (fun K hK => ?_)
  go_wp2_with fail
  generalize w.alloc (.cells #[.int .i64 f, .int .i64 t, .string d] 40) = w1 at *
  obtain ⟨hb, hk⟩ := HP.out
  obtain ⟨h1, h2, h3, s, r, h4⟩ := hb
  have r0 : w1.cell? ⟨g, 0, none⟩ = some (.chan (some c)) := (h2.2 0 _ rfl).1
  have k0 := (hk.2 0 _ rfl).1
  have k1 := (hk.2 1 _ rfl).1
  have k2 := (hk.2 2 _ rfl).1
  have hl := fun n ty => run_len_chan (P := Try.prog) 65 ty Try.underlying65 (show (w1.drewN n).heap[c]? = _ from h4)
  have hcp := fun n ty => run_cap_chan (P := Try.prog) 65 ty Try.underlying65 (show (w1.drewN n).heap[c]? = _ from h4)
  rw [show (L.map Ltr.v).toArray.size = ln by simp [hln]] at hl
  have HH4 := Lib.hid h4
  clear h2 hk h4 hln
  have HBX := Lib.hid (fun nq : Nat => HP.out.1.later (W' := w1.drewN nq) ⟨rfl, rfl, rfl, Nat.le_refl _, fun _ _ => rfl⟩)
  have HTX := Lib.hid (fun nq : Nat => (show Turned (fun q => q = c ∨ w.heap.size ≤ q) w (w1.drewN nq) from ⟨hT.os, hT.tape, hT.output, hT.size, hT.block⟩))
  refine wpA_seq_k (fun K hK => ?_)
  go_wp2_with fail
  go_quiet (fail)
  go_wp2_with fail
  go_ret
  exact ⟨rfl, HBX.out nq, HTX.out nq⟩
theorem take_nil (w : World) : Calls Try.prog 21 #[.pointer none] w fun e w' => e = .returned (.tuple #[.agg #[.int .i64 0, .int .i64 0, .string ⟨#[]⟩], .bool false]) ∧ Below w.heap.size w w' := by
  have HB := Lib.hid (Blk.new w #[.int .i64 0, .int .i64 0, .string ⟨#[]⟩] 40 w.heap.size rfl)
  go_enter Try.func21, Try.ntmps21
  go_wp2_with fail
  have c0 := (HB.out.2 0 _ rfl).1
  have c1 := (HB.out.2 1 _ rfl).1
  have c2 := (HB.out.2 2 _ rfl).1
  exact bodyPost_ret (v := .tuple #[.agg #[.int .i64 0, .int .i64 0, .string ⟨#[]⟩], .bool false]) (by simp [results, Try.results21, go_sem, c0, c1, c2]) rfl ⟨rfl, (Below.refl _ _).alloc (Nat.le_refl _) _⟩
end Go.Proofs.Ytnldjddmchfcoaa

/- A box of letters: Take, New. -/
import Derived.Test.YtnldjddmchfcoaaMailB
namespace Go.Proofs.Ytnldjddmchfcoaa
open Go.RowKit Go.Conc
set_option linter.unusedVariables false
theorem bytesL : ∃ i, Try.prog.info? 40 = some i ∧ i.bytes = 32 := ⟨_, rfl, rfl⟩
theorem new_bx (room : Int) (w : World) (h : 1 ≤ room ∧ room ≤ 4096) : Calls Try.prog 17 #[.int .i64 room] w fun e w' => e = .returned (.tuple #[.pointer (some ⟨w.heap.size + 1, 0, none⟩), .int .i64 0]) ∧ Bx w' (w.heap.size + 1) w.heap.size room.toNat [] ∧ Below w.heap.size w w' := by
  obtain ⟨n, rfl⟩ : ∃ n : Nat, room = n := ⟨room.toNat, by omega⟩
  obtain ⟨i, hi, hb⟩ := bytesL
  have hmk : ∀ w : World, (Instr.makeChan 65 (.int .i64 (n : Int))).run Try.prog w = .ok (.chan (some w.heap.size)) (w.alloc (.chan n #[] false 0 0 false)) := fun w => by
    simpa using run_makeChan (P := Try.prog) (w := w) Try.underlying65 hi .i64 n (by omega) (by rw [hb]; omega)
  have q1 : ¬ (n : Int) < 1 := by omega
  have q2 : ¬ (4096 : Int) < n := by omega
  have HB : Hid (Bx ((w.alloc (.chan n #[] false 0 0 false)).alloc (.cells #[.chan (some w.heap.size)] 67)) (w.heap.size + 1) w.heap.size n []) := Lib.hid ⟨by omega, Blk.new _ _ _ _ (by simp), by simp; omega, 0, 0, by
    rw [Below.heap_alloc _ _ _ (by simp)]
    exact heap_alloc_new w _⟩
  have HBB : Hid (Below w.heap.size w ((w.alloc (.chan n #[] false 0 0 false)).alloc (.cells #[.chan (some w.heap.size)] 67))) := Lib.hid (((Below.refl _ _).alloc (Nat.le_refl _) _).alloc (by simp) _)
  clear h hi hb
  go_enter Try.func17, Try.ntmps17
  go_wp2_with fail
  go_ret2
  exact ⟨by simp, HB.out, HBB.out⟩
theorem new_bx_no (room : Int) (w : World) (h : ¬ (1 ≤ room ∧ room ≤ 4096)) : Calls Try.prog 17 #[.int .i64 room] w fun e w' => e = .returned (.tuple #[.pointer none, .int .i64 1]) ∧ w = w' := by
  by_cases q1 : room < 1
  · clear h
    go_enter Try.func17, Try.ntmps17
    go_wp2_with fail
    go_ret2
    exact ⟨rfl, rfl⟩
  · have q2 : 4096 < room := by omega
    clear h
    go_enter Try.func17, Try.ntmps17
    go_wp2_with fail
    go_ret2
    exact ⟨rfl, rfl⟩
theorem take_none {w : World} {g c cap : Nat} (h : Bx w g c cap []) : Calls Try.prog 21 #[.pointer (some ⟨g, 0, none⟩)] w fun e w' => e = .returned (.tuple #[.agg #[.int .i64 0, .int .i64 0, .string ⟨#[]⟩], .bool false]) ∧ Bx w' g c cap [] ∧ Below w.heap.size w w' := by
  have HB := Lib.hid (Blk.new w #[.int .i64 0, .int .i64 0, .string ⟨#[]⟩] 40 w.heap.size rfl)
  have HX := Lib.hid (h.later ((Below.refl _ _).alloc (Nat.le_refl _) (.cells #[.int .i64 0, .int .i64 0, .string ⟨#[]⟩] 40)))
  have hT : Below w.heap.size w (w.alloc (.cells #[.int .i64 0, .int .i64 0, .string ⟨#[]⟩] 40)) := (Below.refl _ _).alloc (Nat.le_refl _) _
  have HC := Lib.hid (And.intro h.2.1.1 h.2.2.1)
  clear h
  refine calls_of_wpA Try.func21 rfl ?_
  simp only [Try.ntmps21, List.size_toArray, List.length_cons, List.length_nil, Nat.reduceAdd, Nat.reduceSub, Array.replicate_succ,
     Array.replicate_zero, List.push_toArray, List.append_toArray, List.nil_append, List.cons_append]
  refine wpA_seq_k (fun K hK => ?_)
  go_wp2_with fail
  generalize w.alloc (.cells #[.int .i64 0, .int .i64 0, .string ⟨#[]⟩] 40) = w1 at *
  obtain ⟨h1, h2, h3, s, r, h4⟩ := HX.out
  have r0 : w1.cell? ⟨g, 0, none⟩ = some (.chan (some c)) := (h2.2 0 _ rfl).1
  obtain ⟨c0, f0⟩ := HB.out.2 0 _ rfl
  obtain ⟨c1, f1⟩ := HB.out.2 1 _ rfl
  obtain ⟨c2, f2⟩ := HB.out.2 2 _ rfl
  have HH4 := Lib.hid h4
  clear h2 h4
  refine wpA_seq_k (fun K hK => ?_)
  go_wp2_with fail
  refine wpA_seq_k (fun K hK => ?_)
  go_wp2_with fail
  refine wpA_seq (wpA_sel_none (c := c) (z := .agg #[.int .i64 0, .int .i64 0, .string ⟨#[]⟩]) (cap := cap) (s := s) (r := r) (tm := false) (frm_kind _) rfl (by simp [go_sem, execOp, rcase, Act.eval]) HH4.out ?_)
  go_wp2_with fail
  refine wpA_of_wp ?_
  go_wp2_with fail
  have HB3 := ((HB.out.set_ 0 (.int .i64 0)).set_ 1 (.int .i64 0)).set_ 2 (.string ⟨#[]⟩)
  have HX3 := HX.out.turned (((Turned.setCell (X := fun q => q = w.heap.size) ⟨w.heap.size, 0, none⟩ (.int .i64 0) rfl).trans (Turned.setCell (X := fun q => q = w.heap.size) ⟨w.heap.size, 1, none⟩ (.int .i64 0) rfl) (fun q h => .inl h)).trans (Turned.setCell (X := fun q => q = w.heap.size) ⟨w.heap.size, 2, none⟩ (.string ⟨#[]⟩) rfl) (fun q h => .inl h)) (fun e => by have := HC.out.1; omega) (fun e => by have := HC.out.2; omega)
  have hb3 := ((hT.setCell (p := ⟨w.heap.size, 0, none⟩) (Nat.le_refl _) (.int .i64 0)).setCell (p := ⟨w.heap.size, 1, none⟩) (Nat.le_refl _) (.int .i64 0)).setCell (p := ⟨w.heap.size, 2, none⟩) (Nat.le_refl _) (.string ⟨#[]⟩)
  have d0 := (HB3.2 0 _ rfl).1
  have d1 := (HB3.2 1 _ rfl).1
  have d2 := (HB3.2 2 _ rfl).1
  clear c0 c1 c2 f0 f1 f2 r0
  generalize ((w1.setCell ⟨w.heap.size, 0, none⟩ (.int .i64 0)).setCell ⟨w.heap.size, 1, none⟩ (.int .i64 0)).setCell ⟨w.heap.size, 2, none⟩ (.string ⟨#[]⟩) = w4 at *
  exact bodyPost_ret (v := .tuple #[.agg #[.int .i64 0, .int .i64 0, .string ⟨#[]⟩], .bool false]) (by simp [results, Try.results21, go_sem, d0, d1, d2]) rfl ⟨rfl, HX3, hb3⟩
theorem take_some {w : World} {g c cap : Nat} {x : Ltr} {L : List Ltr} (h : Bx w g c cap (x :: L)) : Calls Try.prog 21 #[.pointer (some ⟨g, 0, none⟩)] w fun e w' => e = .returned (.tuple #[x.v, .bool true]) ∧ Bx w' g c cap L ∧ Turned (fun q => q = c ∨ w.heap.size ≤ q) w w' := by
  have HB := Lib.hid (Blk.new w #[.int .i64 0, .int .i64 0, .string ⟨#[]⟩] 40 w.heap.size rfl)
  have HX := Lib.hid (h.later ((Below.refl _ _).alloc (Nat.le_refl _) (.cells #[.int .i64 0, .int .i64 0, .string ⟨#[]⟩] 40)))
  have hT : Below w.heap.size w (w.alloc (.cells #[.int .i64 0, .int .i64 0, .string ⟨#[]⟩] 40)) := (Below.refl _ _).alloc (Nat.le_refl _) _
  have HC := Lib.hid (And.intro h.2.1.1 h.2.2.1)
  obtain ⟨f, t, d⟩ := x
  unfold Ltr.v
  dsimp only
  clear h
  refine calls_of_wpA Try.func21 rfl ?_
  simp only [Try.ntmps21, List.size_toArray, List.length_cons, List.length_nil, Nat.reduceAdd, Nat.reduceSub, Array.replicate_succ,
     Array.replicate_zero, List.push_toArray, List.append_toArray, List.nil_append, List.cons_append]
  refine wpA_seq_k (fun K hK => ?_)
  go_wp2_with fail
  generalize w.alloc (.cells #[.int .i64 0, .int .i64 0, .string ⟨#[]⟩] 40) = w1 at *
  obtain ⟨h1, h2, h3, s, r, h4⟩ := HX.out
  have r0 : w1.cell? ⟨g, 0, none⟩ = some (.chan (some c)) := (h2.2 0 _ rfl).1
  have HH4 := Lib.hid h4
  clear h2 h4
  refine wpA_seq_k (fun K hK => ?_)
  go_wp2_with fail
  refine wpA_seq_k (fun K hK => ?_)
  go_wp2_with fail
  have e1 : (((⟨f, t, d⟩ : Ltr) :: L).map Ltr.v).toArray.extract 1 (((⟨f, t, d⟩ : Ltr) :: L).map Ltr.v).toArray.size = (L.map Ltr.v).toArray := by simp [List.take_of_length_le]
  have e2 : (((⟨f, t, d⟩ : Ltr) :: L).map Ltr.v).toArray.getD 0 undef = .agg #[.int .i64 f, .int .i64 t, .string d] := by simp [Ltr.v]
  refine wpA_seq (wpA_sel_recv (c := c) (z := .agg #[.int .i64 0, .int .i64 0, .string ⟨#[]⟩]) (cap := cap) (s := s) (r := r) (tm := false) (frm_kind _) rfl (by simp [go_sem, execOp, rcase, Act.eval]) HH4.out (by simp) ?_)
  rw [e1, e2]
  have HBX := Lib.hid ((HX.out.set_ (L' := L) s (r + 1)))
  have hTC := Turned.setChan w1 c cap (L.map Ltr.v).toArray false s (r + 1) false
  have HB2 : Hid (Blk (w1.setChan c cap (L.map Ltr.v).toArray false s (r + 1) false) w.heap.size #[.int .i64 0, .int .i64 0, .string ⟨#[]⟩]) := Lib.hid ⟨Nat.lt_of_lt_of_le HB.out.1 hTC.size, fun i v hv => ⟨(hTC.cell (p := ⟨w.heap.size, i, none⟩) HB.out.1 (fun e => by have := HC.out.2; have e' : w.heap.size = c := e; omega)).trans (HB.out.2 i v hv).1, (hTC.frozen (p := ⟨w.heap.size, i, none⟩) HB.out.1 (fun e => by have := HC.out.2; have e' : w.heap.size = c := e; omega)).trans (HB.out.2 i v hv).2⟩⟩
  have HTT : Hid (Turned (fun q => q = c ∨ w.heap.size ≤ q) w (w1.setChan c cap (L.map Ltr.v).toArray false s (r + 1) false)) := Lib.hid ((Turned.of_below _ hT).trans hTC (fun q h => .inl (.inl h)))
  clear hTC hT
  generalize w1.setChan c cap (L.map Ltr.v).toArray false s (r + 1) false = w2 at *
  go_wp2_with fail
  refine wpA_of_wp ?_
  have HB3 := HB2.out.alloc (.cells #[.int .i64 f, .int .i64 t, .string d] 40)
  obtain ⟨c0, f0⟩ := HB3.2 0 _ rfl
  obtain ⟨c1, f1⟩ := HB3.2 1 _ rfl
  obtain ⟨c2, f2⟩ := HB3.2 2 _ rfl
  have HH3 := Lib.hid HB3
  have hT3 : Below w2.heap.size w2 (w2.alloc (.cells #[.int .i64 f, .int .i64 t, .string d] 40)) := (Below.refl _ _).alloc (Nat.le_refl _) _
  clear HB3
  go_wp2_with fail
  generalize w2.alloc (.cells #[.int .i64 f, .int .i64 t, .string d] 40) = w3 at *
  have HB4 := ((HH3.out.set_ 0 (.int .i64 f)).set_ 1 (.int .i64 t)).set_ 2 (.string d)
  have ht4 : Turned (fun q => q = w.heap.size) w3 (((w3.setCell ⟨w.heap.size, 0, none⟩ (.int .i64 f)).setCell ⟨w.heap.size, 1, none⟩ (.int .i64 t)).setCell ⟨w.heap.size, 2, none⟩ (.string d)) := ((Turned.setCell (X := fun q => q = w.heap.size) ⟨w.heap.size, 0, none⟩ (.int .i64 f) rfl).trans (Turned.setCell (X := fun q => q = w.heap.size) ⟨w.heap.size, 1, none⟩ (.int .i64 t) rfl) (fun q h => .inl h)).trans (Turned.setCell (X := fun q => q = w.heap.size) ⟨w.heap.size, 2, none⟩ (.string d) rfl) (fun q h => .inl h)
  have d0 := (HB4.2 0 _ rfl).1
  have d1 := (HB4.2 1 _ rfl).1
  have d2 := (HB4.2 2 _ rfl).1
  have HX4 := (HBX.out.later hT3).turned ht4 (fun e => by have := HC.out.1; omega) (fun e => by have := HC.out.2; omega)
  have HT4 : Turned (fun q => q = c ∨ w.heap.size ≤ q) w (((w3.setCell ⟨w.heap.size, 0, none⟩ (.int .i64 f)).setCell ⟨w.heap.size, 1, none⟩ (.int .i64 t)).setCell ⟨w.heap.size, 2, none⟩ (.string d)) := (HTT.out.trans (Turned.of_below (fun _ => False) hT3) (fun q h => h.elim)).trans ht4 (fun q h => .inl (.inr (by omega)))
  clear c0 c1 c2 f0 f1 f2 ht4
  generalize ((w3.setCell ⟨w.heap.size, 0, none⟩ (.int .i64 f)).setCell ⟨w.heap.size, 1, none⟩ (.int .i64 t)).setCell ⟨w.heap.size, 2, none⟩ (.string d) = w4 at *
  exact bodyPost_ret (v := .tuple #[.agg #[.int .i64 f, .int .i64 t, .string d], .bool true]) (by simp [results, Try.results21, go_sem, d0, d1, d2]) rfl ⟨rfl, HX4, HT4⟩
end Go.Proofs.Ytnldjddmchfcoaa

/- The reference's box; Same; what is asked first. -/
import Derived.Test.YtnldjddmchfcoaaMailD
import Derived.Deep.RegionHeld3
namespace Go.Proofs.Ytnldjddmchfcoaa
open Go.RowKit Go.Conc
set_option linter.unusedVariables false
/-- The append inside a region that draws its order, the result's type named. -/
theorem Blk.turned {X : Nat → Prop} {w w' : World} {b : Nat} {cs : Array Value} (h : Blk w b cs) (ht : Turned X w w') (hn : ¬ X b) : Blk w' b cs :=
  ⟨Nat.lt_of_lt_of_le h.1 ht.size, fun i v hv => ⟨(ht.cell (p := ⟨b, i, none⟩) h.1 hn).trans (h.2 i v hv).1, (ht.frozen (p := ⟨b, i, none⟩) h.1 hn).trans (h.2 i v hv).2⟩⟩
theorem OwnC.set_other {Y : Nat → Prop} {w : World} {v : Value} {n size : Nat} {cs : List Value} (h : OwnC Y w v n size cs) {g : Nat} (hg : ¬ Y g) (i : Nat) (x : Value) : OwnC Y (w.setCell ⟨g, i, none⟩ x) v n size cs :=
  h.turned (X := fun q => q = g) (Turned.setCell ⟨g, i, none⟩ x rfl) (fun q hq e => hg (e ▸ hq))
/-- The reference's box at g. -/
def Rx (Z : Nat → Prop) (w : World) (g : Nat) (room : Int) (L : List Ltr) : Prop :=
  Z g ∧ ∃ v, Blk w g #[.int .i64 room, v] ∧ OwnC (fun q => Z q ∧ q ≠ g) w v L.length 3 (lcells L)
theorem Rx.mono {Z Z' : Nat → Prop} {w : World} {g : Nat} {room : Int} {L : List Ltr} (hP : Rx Z w g room L) (hZ : ∀ q, Z q → Z' q) : Rx Z' w g room L := by
  obtain ⟨hg, v, hB, hO⟩ := hP
  exact ⟨hZ g hg, v, hB, hO.mono (fun q hq => ⟨hZ q hq.1, hq.2⟩)⟩
theorem Rx.turned {Z X : Nat → Prop} {w w' : World} {g : Nat} {room : Int} {L : List Ltr} (hP : Rx Z w g room L) (ht : Turned X w w') (hd : ∀ q, Z q → ¬ X q) : Rx Z w' g room L := by
  obtain ⟨hg, v, hB, hO⟩ := hP
  exact ⟨hg, v, hB.turned ht (hd g hg), hO.turned ht (fun q hq => hd q hq.1)⟩
theorem Rx.later {Z : Nat → Prop} {w w' : World} {g : Nat} {room : Int} {L : List Ltr} (hP : Rx Z w g room L) (hb : Below w.heap.size w w') : Rx Z w' g room L := hP.turned (Turned.of_below (fun _ => False) hb) (fun _ _ h => h)
theorem Rx.lt {Z : Nat → Prop} {w : World} {g : Nat} {room : Int} {L : List Ltr} (hP : Rx Z w g room L) : Rx (fun q => Z q ∧ q < w.heap.size) w g room L := by
  obtain ⟨hg, v, hB, h1, h2⟩ := hP
  refine ⟨⟨hg, hB.1⟩, v, hB, h1, ?_⟩
  rcases h2 with h | ⟨b, off, cap, hv, hb, hlt, r⟩
  · exact .inl h
  · exact .inr ⟨b, off, cap, hv, ⟨⟨hb.1, hlt⟩, hb.2⟩, hlt, r⟩
theorem Rx.grow {Z : Nat → Prop} {w w2 : World} {g : Nat} {room : Int} {v v' : Value} {l' : List Ltr} {n : Nat} {cs : List Value} (hZ : Z g) (hg : g < w.heap.size) (hB : Blk w2 g #[.int .i64 room, v])
    (hO : OwnC (fun q => (Z q ∧ q ≠ g) ∨ w.heap.size ≤ q) w2 v' n 3 cs) (hT : Turned Z w w2) (hn : n = l'.length) (hcs : cs = lcells l') : Rx (fun q => Z q ∨ w.heap.size ≤ q) (w2.setCell ⟨g, 1, none⟩ v') g room l' ∧ Turned Z w (w2.setCell ⟨g, 1, none⟩ v') := by
  subst hn hcs
  refine ⟨⟨.inl hZ, v', hB.set_ 1 v', (hO.set_other (fun h => ?_) 1 v').mono (fun q h => ?_)⟩, hT.trans (Turned.setCell (X := Z) ⟨g, 1, none⟩ v' hZ) (fun q h => .inl h)⟩
  · rcases h with h | h
    · exact h.2 rfl
    · omega
  · rcases h with h | h
    · exact ⟨.inl h.1, h.2⟩
    · exact ⟨.inr h, fun e => by omega⟩
theorem refnewb (room : Int) (w : World) (h : 1 ≤ room ∧ room ≤ 4096) : Calls Try.prog 18 #[.int .i64 room] w fun e w' => e = .returned (.tuple #[.pointer (some ⟨w.heap.size, 0, none⟩), .int .i64 0]) ∧ Rx (fun q => w.heap.size ≤ q) w' w.heap.size room [] ∧ Below w.heap.size w w' := by
  have q1 : ¬ room < 1 := by omega
  have q2 : ¬ (4096 : Int) < room := by omega
  have HB : Hid (Rx (fun q => w.heap.size ≤ q) (w.alloc (.cells #[.int .i64 room, .slice none 0 0] 50)) w.heap.size room []) := Lib.hid ⟨Nat.le_refl _, _, Blk.new w _ _ _ rfl, OwnC.nil _ _ _⟩
  clear h
  go_enter Try.func18, Try.ntmps18
  go_wp2_with fail
  go_ret2
  exact ⟨rfl, HB.out, (Below.refl _ _).alloc (Nat.le_refl _) _⟩
theorem refnewb_no (room : Int) (w : World) (h : ¬ (1 ≤ room ∧ room ≤ 4096)) : Calls Try.prog 18 #[.int .i64 room] w fun e w' => e = .returned (.tuple #[.pointer none, .int .i64 1]) ∧ w = w' := by
  by_cases q1 : room < 1
  · clear h
    go_enter Try.func18, Try.ntmps18
    go_wp2_with fail
    go_ret2
    exact ⟨rfl, rfl⟩
  · have q2 : 4096 < room := by omega
    clear h
    go_enter Try.func18, Try.ntmps18
    go_wp2_with fail
    go_ret2
    exact ⟨rfl, rfl⟩
def XS (g gl : Nat) (room f t : Int) (d : ByteArray) (W : World) : Prop := (∃ v, Blk W g #[.int .i64 room, v]) ∧ Blk W gl #[.int .i64 f, .int .i64 t, .string d]
theorem XS.r {g gl : Nat} {room f t : Int} {d : ByteArray} {W : World} (h : XS g gl room f t d W) : W.cell? ⟨gl, 0, none⟩ = some (.int .i64 f) ∧ W.cell? ⟨gl, 1, none⟩ = some (.int .i64 t) ∧ W.cell? ⟨gl, 2, none⟩ = some (.string d) := ⟨(h.2.2 0 _ rfl).1, (h.2.2 1 _ rfl).1, (h.2.2 2 _ rfl).1⟩
def RPutPost (Z : Nat → Prop) (w : World) (g : Nat) (room : Int) (n : Int) (L : List Ltr) (e : Ending) (w' : World) : Prop := e = .returned (.int .i64 n) ∧ Rx (fun q => Z q ∨ w.heap.size ≤ q) w' g room L ∧ Turned Z w w'
set_option maxHeartbeats 4000000 in
theorem refput_full {Z : Nat → Prop} {w : World} {g : Nat} {room : Int} {L : List Ltr} (h : Rx Z w g room L) (x : Ltr) (hr : room ≤ (L.length : Int)) (hd : True) (hL : L.length ≤ 100000) : Calls Try.prog 20 #[.pointer (some ⟨g, 0, none⟩), x.v] w (RPutPost Z w g room 9 L) := by
  have hZ := Lib.hid h.1
  have HW := Lib.hid h
  have HN := Lib.hid (Blk.new w #[.int .i64 x.f, .int .i64 x.t, .string x.d] 40 w.heap.size rfl)
  have HX := Lib.hid (h.later ((Below.refl _ _).alloc (Nat.le_refl _) (.cells #[.int .i64 x.f, .int .i64 x.t, .string x.d] 40)))
  have hT0 : Turned Z w (w.alloc (.cells #[.int .i64 x.f, .int .i64 x.t, .string x.d] 40)) := Turned.of_below _ ((Below.refl _ _).alloc (Nat.le_refl _) _)
  have hgw : g < w.heap.size := by
    obtain ⟨_, v, hB, _⟩ := h
    exact hB.1
  obtain ⟨ln, hln⟩ : ∃ ln, ln = L.length := ⟨_, rfl⟩
  have HLN := Lib.hid hln
  rw [← hln] at hL hr
  obtain ⟨f, t, d⟩ := x
  unfold Ltr.v
  dsimp only at HN HX hT0 hd ⊢
  clear h hln
  go_enter Try.func20, Try.ntmps20
  go_wp2_with fail
  generalize w.alloc (.cells #[.int .i64 f, .int .i64 t, .string d] 40) = w1 at *
  obtain ⟨_, v, hB, hO⟩ := HX.out
  obtain ⟨x0, cap, rfl⟩ := hO.shape
  rw [← HLN.out] at hB hO
  have r0 := (hB.2 0 _ rfl).1
  have r1 := (hB.2 1 _ rfl).1
  have k0 := (HN.out.2 0 _ rfl).1
  have k1 := (HN.out.2 1 _ rfl).1
  have k2 := (HN.out.2 2 _ rfl).1
  have HB := Lib.hid hB
  have HO := Lib.hid hO
  clear hB hO
  go_quiet (fail)
  go_wp2_with fail
  go_ret
  exact ⟨rfl, (HX.out.later (w' := w1.drewN nq) ⟨rfl, rfl, rfl, Nat.le_refl _, fun _ _ => rfl⟩).mono (fun q h => .inl h), hT0.os, hT0.tape, hT0.output, hT0.size, hT0.block⟩
set_option maxHeartbeats 4000000 in
theorem refput_long {Z : Nat → Prop} {w : World} {g : Nat} {room : Int} {L : List Ltr} (h : Rx Z w g room L) (x : Ltr) (hr : ¬ room ≤ (L.length : Int)) (hd : (4096 : Int) < x.d.size) (hL : L.length ≤ 100000) : Calls Try.prog 20 #[.pointer (some ⟨g, 0, none⟩), x.v] w (RPutPost Z w g room 5 L) := by
  have hZ := Lib.hid h.1
  have HW := Lib.hid h
  have HN := Lib.hid (Blk.new w #[.int .i64 x.f, .int .i64 x.t, .string x.d] 40 w.heap.size rfl)
  have HX := Lib.hid (h.later ((Below.refl _ _).alloc (Nat.le_refl _) (.cells #[.int .i64 x.f, .int .i64 x.t, .string x.d] 40)))
  have hT0 : Turned Z w (w.alloc (.cells #[.int .i64 x.f, .int .i64 x.t, .string x.d] 40)) := Turned.of_below _ ((Below.refl _ _).alloc (Nat.le_refl _) _)
  have hgw : g < w.heap.size := by
    obtain ⟨_, v, hB, _⟩ := h
    exact hB.1
  obtain ⟨ln, hln⟩ : ∃ ln, ln = L.length := ⟨_, rfl⟩
  have HLN := Lib.hid hln
  rw [← hln] at hL hr
  obtain ⟨f, t, d⟩ := x
  unfold Ltr.v
  dsimp only at HN HX hT0 hd ⊢
  clear h hln
  go_enter Try.func20, Try.ntmps20
  go_wp2_with fail
  generalize w.alloc (.cells #[.int .i64 f, .int .i64 t, .string d] 40) = w1 at *
  obtain ⟨_, v, hB, hO⟩ := HX.out
  obtain ⟨x0, cap, rfl⟩ := hO.shape
  rw [← HLN.out] at hB hO
  have r0 := (hB.2 0 _ rfl).1
  have r1 := (hB.2 1 _ rfl).1
  have k0 := (HN.out.2 0 _ rfl).1
  have k1 := (HN.out.2 1 _ rfl).1
  have k2 := (HN.out.2 2 _ rfl).1
  have HB := Lib.hid hB
  have HO := Lib.hid hO
  clear hB hO
  go_quiet (fail)
  go_wp2_with fail
  go_ret
  exact ⟨rfl, (HX.out.later (w' := w1.drewN nq) ⟨rfl, rfl, rfl, Nat.le_refl _, fun _ _ => rfl⟩).mono (fun q h => .inl h), hT0.os, hT0.tape, hT0.output, hT0.size, hT0.block⟩
set_option maxHeartbeats 4000000 in
theorem refput_yes {Z : Nat → Prop} {w : World} {g : Nat} {room : Int} {L : List Ltr} (h : Rx Z w g room L) (hzb : ∀ q, Z q → q < w.heap.size) (x : Ltr) (hr : ¬ room ≤ (L.length : Int)) (hd : ¬ (4096 : Int) < x.d.size) (hL : L.length ≤ 100000) : Calls Try.prog 20 #[.pointer (some ⟨g, 0, none⟩), x.v] w (RPutPost Z w g room 0 (L ++ [x])) := by
  have hZ := Lib.hid h.1
  have HZB := Lib.hid hzb
  have HW := Lib.hid h
  have HN := Lib.hid (Blk.new w #[.int .i64 x.f, .int .i64 x.t, .string x.d] 40 w.heap.size rfl)
  have HX := Lib.hid (h.later ((Below.refl _ _).alloc (Nat.le_refl _) (.cells #[.int .i64 x.f, .int .i64 x.t, .string x.d] 40)))
  have hT0 : Turned Z w (w.alloc (.cells #[.int .i64 x.f, .int .i64 x.t, .string x.d] 40)) := Turned.of_below _ ((Below.refl _ _).alloc (Nat.le_refl _) _)
  have hgw : g < w.heap.size := by
    obtain ⟨_, v, hB, _⟩ := h
    exact hB.1
  obtain ⟨ln, hln⟩ : ∃ ln, ln = L.length := ⟨_, rfl⟩
  have HLN := Lib.hid hln
  rw [← hln] at hL hr
  obtain ⟨f, t, d⟩ := x
  unfold Ltr.v
  dsimp only at HN HX hT0 hd ⊢
  clear h hln
  go_enter Try.func20, Try.ntmps20
  go_wp2_with fail
  generalize w.alloc (.cells #[.int .i64 f, .int .i64 t, .string d] 40) = w1 at *
  obtain ⟨_, v, hB, hO⟩ := HX.out
  obtain ⟨x0, cap, rfl⟩ := hO.shape
  rw [← HLN.out] at hB hO
  have r0 := (hB.2 0 _ rfl).1
  have r1 := (hB.2 1 _ rfl).1
  have k0 := (HN.out.2 0 _ rfl).1
  have k1 := (HN.out.2 1 _ rfl).1
  have k2 := (HN.out.2 2 _ rfl).1
  have HB := Lib.hid hB
  have HO := Lib.hid hO
  clear hB hO
  go_quiet (fail)
  go_wp2_with fail
  have HB0 : Blk (w1.drewN nq).drew g #[.int .i64 room, .slice x0 ln cap] := HB.out
  have HK0 : Blk (w1.drewN nq).drew w.heap.size #[.int .i64 f, .int .i64 t, .string d] := HN.out
  have HO0 : OwnC (fun q => Z q ∧ q ≠ g) (w1.drewN nq).drew (.slice x0 ln cap) ln 3 (lcells L) := HO.out.later ⟨rfl, rfl, rfl, Nat.le_refl _, fun _ _ => rfl⟩
  have HT0 : Turned Z w (w1.drewN nq).drew := ⟨hT0.os, hT0.tape, hT0.output, hT0.size, hT0.block⟩
  refine wp_region_noPanic ?_
  refine wp_region_held_drew (S := XS g w.heap.size room f t d) (by kernel_rfl) (show XS g w.heap.size room f t d _ from ⟨⟨_, HB0⟩, HK0⟩) (fun hHeld => ?_)
  clear r0 r1 k0 k1 k2
  generalize (w1.drewN nq).drew = w0 at *
  clear HB HO hT0
  obtain ⟨r1, f1⟩ := HB0.2 1 _ rfl
  have hB1 : Blk (w0.alloc (.cells #[.int .i64 f, .int .i64 t, .string d] 40)) g #[.int .i64 room, .slice x0 ln cap] := HB0.alloc _
  have hK1 : Blk (w0.alloc (.cells #[.int .i64 f, .int .i64 t, .string d] 40)) w.heap.size #[.int .i64 f, .int .i64 t, .string d] := HK0.alloc _
  obtain ⟨r1', f1'⟩ := hB1.2 1 _ rfl
  obtain ⟨x', cap', w2, hrun, hO2, hT2⟩ := run_ltr f t d HO0 (by omega)
  have hO2 : OwnC (fun q => (Z q ∧ q ≠ g) ∨ w0.heap.size ≤ q) w2 (.slice x' (ln + 1) cap') (ln + 1) 3 (lcells L ++ [.int .i64 f, .int .i64 t, .string d]) := hO2
  have hB2 := hB1.turned hT2 (fun q => q.2 rfl)
  have hK2 : Blk w2 w.heap.size #[.int .i64 f, .int .i64 t, .string d] := hK1.turned (hT2.mono (X' := fun q => Z q ∧ q ≠ w.heap.size) (fun q h => ?hz)) (fun q => q.2 rfl)
  case hz =>
    by_cases e : q = w.heap.size
    · exact absurd h.1 (e ▸ (fun hz => by have := (HZB.out w.heap.size hz); omega))
    · exact .inl ⟨h.1, e⟩
  obtain ⟨r1'', f1''⟩ := hB2.2 1 _ rfl
  have hB3 := hB2.set_ 1 (.slice x' (ln + 1) cap')
  have hK3 := hK2.other ⟨g, 1, none⟩ (by show g ≠ w.heap.size; omega) (.slice x' (ln + 1) cap')
  have HFIN : Hid (RPutPost Z w g room 0 (L ++ [⟨f, t, d⟩]) (.returned (.int .i64 0)) (w2.setCell ⟨g, 1, none⟩ (.slice x' (ln + 1) cap'))) := Lib.hid (by
    have hsz := HT0.size
    have hT3 : Turned Z w w2 := (HT0.trans (Turned.alloc w0 Z (.cells #[.int .i64 f, .int .i64 t, .string d] 40)) (fun q h => .inl h)).trans hT2 (fun q h => .inl h.1)
    have hP := Rx.grow (Z := Z) (w := w) (l' := L ++ [(⟨f, t, d⟩ : Ltr)]) hZ.out hgw hB2 (hO2.mono (fun q h => h.imp id (fun h => by omega))) hT3 (by rw [List.length_append, ← HLN.out]; rfl) (by rw [lcells_append]; rfl)
    exact ⟨rfl, hP.1, hP.2⟩)
  clear HT0
  refine wpAnyH_take (i := 0) (oi := { dst := some 19, op := _, type := _, pos := _, after := _, guard := _ }) (v := ?_) rfl (by kernel_rfl) (by kernel_rfl) (by kernel_rfl) (fun _ _ _ h => h) (Or.inl ⟨by rfl, ?_⟩) hHeld ?_
  rotate_left
  · intro W hSw
    obtain ⟨hS1, hS2, hS3⟩ := XS.r hSw
    go_simp
    first | done | rfl
  try simp only [Act.put, List.setIfInBounds_toArray, List.set_cons_zero, List.set_cons_succ]
  refine wpAnyH_take (i := 1) (oi := { dst := some 20, op := _, type := _, pos := _, after := _, guard := _ }) (v := ?_) rfl (by kernel_rfl) (by kernel_rfl) (by kernel_rfl) (fun _ _ _ h => h) (Or.inl ⟨by rfl, ?_⟩) hHeld ?_
  rotate_left
  · intro W hSw
    obtain ⟨hS1, hS2, hS3⟩ := XS.r hSw
    go_simp
    first | done | rfl
  try simp only [Act.put, List.setIfInBounds_toArray, List.set_cons_zero, List.set_cons_succ]
  refine wpAnyH_take (i := 5) (oi := { dst := some 24, op := _, type := _, pos := _, after := _, guard := _ }) (v := ?_) rfl (by kernel_rfl) (by kernel_rfl) (by kernel_rfl) (fun _ _ _ h => h) (Or.inl ⟨by rfl, ?_⟩) hHeld ?_
  rotate_left
  · intro W hSw
    obtain ⟨hS1, hS2, hS3⟩ := XS.r hSw
    go_simp
    first | done | rfl
  try simp only [Act.put, List.setIfInBounds_toArray, List.set_cons_zero, List.set_cons_succ]
  refine wpAnyH_take (i := 2) (oi := { dst := some 21, op := _, type := _, pos := _, after := _, guard := _ }) (v := ?_) rfl (by kernel_rfl) (by kernel_rfl) (by kernel_rfl) (fun _ _ _ h => h) (Or.inl ⟨by rfl, ?_⟩) hHeld ?_
  rotate_left
  · intro W hSw
    obtain ⟨hS1, hS2, hS3⟩ := XS.r hSw
    go_simp
    first | done | rfl
  try simp only [Act.put, List.setIfInBounds_toArray, List.set_cons_zero, List.set_cons_succ]
  refine wpAnyH_take (i := 3) (oi := { dst := some 22, op := _, type := _, pos := _, after := _, guard := _ }) (v := ?_) rfl (by kernel_rfl) (by kernel_rfl) (by kernel_rfl) (fun _ _ _ h => h) (Or.inl ⟨by rfl, ?_⟩) hHeld ?_
  rotate_left
  · intro W hSw
    obtain ⟨hS1, hS2, hS3⟩ := XS.r hSw
    go_simp
    first | done | rfl
  try simp only [Act.put, List.setIfInBounds_toArray, List.set_cons_zero, List.set_cons_succ]
  refine wpAnyH_ready (rs := [4, 6]) (by kernel_rfl) (by simp) ?_
  refine AllReadyH.cons (o := { dst := some 23, op := _, type := _, pos := _, after := _, guard := _ }) rfl (fun K hK => ?_) ?_
  · go_simp
    refine hK.out _ _ hHeld (fun _ => ?_)
    clear hK K
    try simp only [Act.put, List.setIfInBounds_toArray, List.set_cons_zero, List.set_cons_succ]
    refine wpAnyH_ready (rs := [6]) (by kernel_rfl) (by simp) ?_
    refine AllReadyH.cons (o := { dst := some 25, op := _, type := _, pos := _, after := _, guard := _ }) rfl (fun K hK => ?_) AllReadyH.nil
    go_simp
    refine hK.out _ _ ⟨⟨_, hB1⟩, hK1⟩ (fun _ => ?_)
    clear hK K
    try simp only [Act.put, List.setIfInBounds_toArray, List.set_cons_zero, List.set_cons_succ]
    refine wpAnyH_ready (rs := [7]) (by kernel_rfl) (by simp) ?_
    refine AllReadyH.cons (o := { dst := some 26, op := _, type := _, pos := _, after := _, guard := _ }) rfl (fun K hK => ?_) AllReadyH.nil
    refine step_app rfl _ _ 47 rfl _ _ 1 1 rfl rfl hrun ?_
    refine hK.out _ _ ⟨⟨_, hB2⟩, hK2⟩ (fun _ => ?_)
    clear hK K
    try simp only [Act.put, List.setIfInBounds_toArray, List.set_cons_zero, List.set_cons_succ]
    refine wpAnyH_take (i := 8) (oi := { dst := some 27, op := _, type := _, pos := _, after := _, guard := _ }) (v := ?_) rfl (by kernel_rfl) (by kernel_rfl) (by kernel_rfl) (fun _ _ _ h => h) (Or.inl ⟨by rfl, ?_⟩) ⟨⟨_, hB2⟩, hK2⟩ ?_
    rotate_left
    · intro W hSw
      obtain ⟨hS1, hS2, hS3⟩ := XS.r hSw
      go_simp
      first | done | rfl
    try simp only [Act.put, List.setIfInBounds_toArray, List.set_cons_zero, List.set_cons_succ]
    refine wpAnyH_take (i := 9) (oi := { dst := some 28, op := _, type := _, pos := _, after := _, guard := _ }) (v := ?_) rfl (by kernel_rfl) (by kernel_rfl) (by kernel_rfl) (fun _ _ _ h => h) (Or.inl ⟨by rfl, ?_⟩) ⟨⟨_, hB2⟩, hK2⟩ ?_
    rotate_left
    · intro W hSw
      obtain ⟨hS1, hS2, hS3⟩ := XS.r hSw
      go_simp
      first | done | rfl
    try simp only [Act.put, List.setIfInBounds_toArray, List.set_cons_zero, List.set_cons_succ]
    refine wpAnyH_ready (rs := [10]) (by kernel_rfl) (by simp) ?_
    refine AllReadyH.cons (o := { dst := none, op := _, type := _, pos := _, after := _, guard := _ }) rfl (fun K hK => ?_) AllReadyH.nil
    go_simp
    refine hK.out _ _ ⟨⟨_, hB3⟩, hK3⟩ (fun _ => ?_)
    clear hK K
    try simp only [Act.put, List.setIfInBounds_toArray, List.set_cons_zero, List.set_cons_succ]
    refine wpAnyH_done (by kernel_rfl) ?_ _
    refine NoPanic.normal ?_
    go_wp2_with fail
    go_ret
    exact HFIN.out
  refine AllReadyH.cons (o := { dst := some 25, op := _, type := _, pos := _, after := _, guard := _ }) rfl (fun K hK => ?_) ?_
  · go_simp
    refine hK.out _ _ ⟨⟨_, hB1⟩, hK1⟩ (fun _ => ?_)
    clear hK K
    try simp only [Act.put, List.setIfInBounds_toArray, List.set_cons_zero, List.set_cons_succ]
    refine wpAnyH_ready (rs := [4]) (by kernel_rfl) (by simp) ?_
    refine AllReadyH.cons (o := { dst := some 23, op := _, type := _, pos := _, after := _, guard := _ }) rfl (fun K hK => ?_) AllReadyH.nil
    go_simp
    refine hK.out _ _ ⟨⟨_, hB1⟩, hK1⟩ (fun _ => ?_)
    clear hK K
    try simp only [Act.put, List.setIfInBounds_toArray, List.set_cons_zero, List.set_cons_succ]
    refine wpAnyH_ready (rs := [7]) (by kernel_rfl) (by simp) ?_
    refine AllReadyH.cons (o := { dst := some 26, op := _, type := _, pos := _, after := _, guard := _ }) rfl (fun K hK => ?_) AllReadyH.nil
    refine step_app rfl _ _ 47 rfl _ _ 1 1 rfl rfl hrun ?_
    refine hK.out _ _ ⟨⟨_, hB2⟩, hK2⟩ (fun _ => ?_)
    clear hK K
    try simp only [Act.put, List.setIfInBounds_toArray, List.set_cons_zero, List.set_cons_succ]
    refine wpAnyH_take (i := 8) (oi := { dst := some 27, op := _, type := _, pos := _, after := _, guard := _ }) (v := ?_) rfl (by kernel_rfl) (by kernel_rfl) (by kernel_rfl) (fun _ _ _ h => h) (Or.inl ⟨by rfl, ?_⟩) ⟨⟨_, hB2⟩, hK2⟩ ?_
    rotate_left
    · intro W hSw
      obtain ⟨hS1, hS2, hS3⟩ := XS.r hSw
      go_simp
      first | done | rfl
    try simp only [Act.put, List.setIfInBounds_toArray, List.set_cons_zero, List.set_cons_succ]
    refine wpAnyH_take (i := 9) (oi := { dst := some 28, op := _, type := _, pos := _, after := _, guard := _ }) (v := ?_) rfl (by kernel_rfl) (by kernel_rfl) (by kernel_rfl) (fun _ _ _ h => h) (Or.inl ⟨by rfl, ?_⟩) ⟨⟨_, hB2⟩, hK2⟩ ?_
    rotate_left
    · intro W hSw
      obtain ⟨hS1, hS2, hS3⟩ := XS.r hSw
      go_simp
      first | done | rfl
    try simp only [Act.put, List.setIfInBounds_toArray, List.set_cons_zero, List.set_cons_succ]
    refine wpAnyH_ready (rs := [10]) (by kernel_rfl) (by simp) ?_
    refine AllReadyH.cons (o := { dst := none, op := _, type := _, pos := _, after := _, guard := _ }) rfl (fun K hK => ?_) AllReadyH.nil
    go_simp
    refine hK.out _ _ ⟨⟨_, hB3⟩, hK3⟩ (fun _ => ?_)
    clear hK K
    try simp only [Act.put, List.setIfInBounds_toArray, List.set_cons_zero, List.set_cons_succ]
    refine wpAnyH_done (by kernel_rfl) ?_ _
    refine NoPanic.normal ?_
    go_wp2_with fail
    go_ret
    exact HFIN.out
  exact AllReadyH.nil
end Go.Proofs.Ytnldjddmchfcoaa

/- pipe.Add: one more is under way. -/
import Derived.Test.YtecaahcmebdglaaPipA
import Derived.Test.YtecaahcmebdglaaPipLaw
import Derived.Deep.RegionHeld3
namespace Go.Proofs.Ytecaahcmebdglaa
open Go.RowKit
set_option linter.unusedVariables false
theorem Blk.turned {X : Nat → Prop} {w w' : World} {b : Nat} {cs : Array Value} (h : Blk w b cs) (ht : Turned X w w') (hn : ¬ X b) : Blk w' b cs :=
  ⟨Nat.lt_of_lt_of_le h.1 ht.size, fun i v hv => ⟨(ht.cell (p := ⟨b, i, none⟩) h.1 hn).trans (h.2 i v hv).1, (ht.frozen (p := ⟨b, i, none⟩) h.1 hn).trans (h.2 i v hv).2⟩⟩
theorem OwnC.shape {Y : Nat → Prop} {w : World} {v : Value} {n size : Nat} {cs : List Value} (h : OwnC Y w v n size cs) : ∃ x cap, v = .slice x n cap := by
  rcases h.2 with ⟨rfl, rfl⟩ | ⟨b, off, cap, rfl, _⟩
  · exact ⟨none, 0, rfl⟩
  · exact ⟨_, cap, rfl⟩
theorem info_int : ∃ i, Try.prog.info? 3 = some i ∧ i.zero = some (.int .i64 0) ∧ i.size = 1 ∧ i.bytes = 8 := ⟨_, rfl, rfl, rfl, rfl⟩
def ivs (l : List Nat) : List Value := l.map (fun (n : Nat) => .int .i64 (n : Int))
/-- A pipe at g, what it holds lies in blocks of Z. -/
def Pp (Z : Nat → Prop) (w : World) (g : Nat) (c who k : Int) (l : List Nat) : Prop :=
  Z g ∧ ∃ v, Blk w g #[.int .i64 c, .int .i64 who, .int .i64 k, v] ∧ OwnC (fun q => Z q ∧ q ≠ g) w v l.length 1 (ivs l)
theorem Pp.pc {Z : Nat → Prop} {w : World} {g : Nat} {c who k : Int} {l : List Nat} (h : Pp Z w g c who k l) : ∃ x cap, PC w g c who k x l.length cap ∧ OwnC (fun q => Z q ∧ q ≠ g) w (.slice x l.length cap) l.length 1 (ivs l) := by
  obtain ⟨_, v, hB, hO⟩ := h
  obtain ⟨x, cap, rfl⟩ := hO.shape
  exact ⟨x, cap, hB, hO⟩
theorem OwnC.set_other {Y : Nat → Prop} {w : World} {v : Value} {n size : Nat} {cs : List Value} (h : OwnC Y w v n size cs) {g : Nat} (hg : ¬ Y g) (i : Nat) (x : Value) : OwnC Y (w.setCell ⟨g, i, none⟩ x) v n size cs :=
  h.turned (X := fun q => q = g) (Turned.setCell ⟨g, i, none⟩ x rfl) (fun q hq e => hg (e ▸ hq))
theorem Pp.grow {Z : Nat → Prop} {w w2 : World} {g : Nat} {c who k : Int} {v v' : Value} {l' : List Nat} {n : Nat} {cs : List Value} (hZ : Z g) (hg : g < w.heap.size) (hB : Blk w2 g #[.int .i64 c, .int .i64 who, .int .i64 k, v])
    (hO : OwnC (fun q => (Z q ∧ q ≠ g) ∨ w.heap.size ≤ q) w2 v' n 1 cs) (hT : Turned Z w w2) (hn : n = l'.length) (hcs : cs = ivs l') : Pp (fun q => Z q ∨ w.heap.size ≤ q) (w2.setCell ⟨g, 3, none⟩ v') g c who k l' ∧ Turned Z w (w2.setCell ⟨g, 3, none⟩ v') := by
  subst hn hcs
  refine ⟨⟨.inl hZ, v', hB.set_ 3 v', (hO.set_other (fun h => ?_) 3 v').mono (fun q h => ?_)⟩, hT.trans (Turned.setCell (X := Z) ⟨g, 3, none⟩ v' hZ) (fun q h => .inl h)⟩
  · rcases h with h | h
    · exact h.2 rfl
    · omega
  · rcases h with h | h
    · exact ⟨.inl h.1, h.2⟩
    · exact ⟨.inr h, fun e => by omega⟩
def PS (g : Nat) (c who k : Int) (W : World) : Prop := ∃ v, Blk W g #[.int .i64 c, .int .i64 who, .int .i64 k, v]
theorem PS.who {g : Nat} {c who k : Int} {W : World} (h : PS g c who k W) : W.cell? ⟨g, 1, none⟩ = some (.int .i64 who) := by
  obtain ⟨v, h⟩ := h
  exact (h.2 1 _ rfl).1
def AddPost (Z : Nat → Prop) (w : World) (g : Nat) (c who k : Int) (l : List Nat) (e : Ending) (w' : World) : Prop :=
  e = .returned (.tuple #[.int .i64 (k + l.length + 1), .int .i64 0]) ∧ Pp (fun q => Z q ∨ w.heap.size ≤ q) w' g c who k (l ++ [Quo.wth 0 who]) ∧ Turned Z w w'
theorem add_full {w : World} {g : Nat} {c who k : Int} {x : Option Addr} {n cap : Nat} (h : PC w g c who k x n cap) (h0 : 0 ≤ k) (h1 : k + n ≤ 72057594037927935) (hf : k + n = 72057594037927935 ∨ 16 ≤ n) : Calls Try.prog 36 #[.pointer (some ⟨g, 0, none⟩)] w fun e w' => e = .returned (.tuple #[.int .i64 0, .int .i64 9]) ∧ ∃ m, w' = w.drewN m := by
  obtain ⟨r3, f3⟩ := h.2 3 _ rfl
  have HH := Lib.hid (head_pc h h0 (by omega))
  by_cases hq : k + n = 72057594037927935
  · go_enter Try.func36, Try.ntmps36
    go_wp2_with (go_at_call 39; refine HH.out.mono ?_; rintro e w' ⟨rfl, m, rfl⟩)
    go_ret2
    exact ⟨rfl, _, rfl⟩
  · have hn : (16 : Int) ≤ n := by omega
    have hq' : (k + (n : Int) == 72057594037927935) = false := by simp [hq]
    clear hf
    go_enter Try.func36, Try.ntmps36
    go_wp2_with (go_at_call 39; refine HH.out.mono ?_; rintro e w' ⟨rfl, m, rfl⟩)
    go_ret2
    exact ⟨rfl, _, rfl⟩
set_option linter.unusedVariables false in
set_option maxHeartbeats 4000000 in
theorem add_ok {Z : Nat → Prop} {w : World} {g : Nat} {c who k : Int} {l : List Nat} (h : Pp Z w g c who k l) (hw : 1 ≤ who ∧ who ≤ 5) (h0 : 0 ≤ k) (h1 : k + l.length < 72057594037927935) (hf : l.length < 16) : Calls Try.prog 36 #[.pointer (some ⟨g, 0, none⟩)] w (AddPost Z w g c who k l) := by
  have hZ := Lib.hid h.1
  obtain ⟨x, cap, hB, hO⟩ := h.pc
  obtain ⟨n, hn⟩ : ∃ n, n = l.length := ⟨_, rfl⟩
  have HL := Lib.hid hn
  rw [← hn] at hB hO h1 hf
  clear hn h
  have HB := Lib.hid hB
  have HO := Lib.hid hO
  obtain ⟨r3, f3⟩ := hB.2 3 _ rfl
  have HH := Lib.hid (head_pc hB h0 (by omega))
  have HWI : Hid (∀ w, Calls Try.prog 20 #[.int .i64 0, .int .i64 who] w fun e w' => e = .returned (.int .i64 ((Quo.wth 0 who : Nat) : Int)) ∧ w = w') := Lib.hid (fun w => with_any 0 who w (by omega) (by omega))
  have HW0 := Lib.hid hw
  obtain ⟨s, hs⟩ : ∃ s, s = ((Quo.wth 0 who : Nat) : Int) := ⟨_, rfl⟩
  rw [← hs] at HWI
  have HS := Lib.hid hs
  clear hs hB hO hw
  have q1 : (k + (n : Int) == 72057594037927935) = false := by simp; omega
  have q2 : ¬ (16 : Int) ≤ n := by omega
  go_enter Try.func36, Try.ntmps36
  go_wp2_with (go_at_call 39; refine HH.out.mono ?_; rintro e w' ⟨rfl, m, rfl⟩)
  have HB0 : Blk (w.drewN m).drew g #[.int .i64 c, .int .i64 who, .int .i64 k, .slice x n cap] := HB.out
  have HO0 : OwnC (fun q => Z q ∧ q ≠ g) (w.drewN m).drew (.slice x n cap) n 1 (ivs l) := HO.out.later ⟨rfl, rfl, rfl, Nat.le_refl _, fun _ _ => rfl⟩
  have HT0 : Turned Z w (w.drewN m).drew := ⟨rfl, rfl, rfl, Nat.le_refl _, fun _ _ _ => rfl⟩
  have hS0 : PS g c who k (w.drewN m).drew := ⟨_, HB0⟩
  clear r3 f3
  refine wp_region_noPanic ?_
  refine wp_region_held_drew (S := PS g c who k) (by kernel_rfl) hS0 (fun hHeld => ?_)
  generalize (w.drewN m).drew = w0 at *
  obtain ⟨r3, f3⟩ := HB0.2 3 _ rfl
  have hB1 : Blk (w0.alloc (.cells #[.int .i64 s] 3)) g #[.int .i64 c, .int .i64 who, .int .i64 k, .slice x n cap] := HB0.alloc _
  obtain ⟨r3', f3'⟩ := hB1.2 3 _ rfl
  have hnews : ∀ (j : Nat) (u : Value), ([.int .i64 s] : List Value)[j]? = some u → (w0.alloc (.cells #[.int .i64 s] 3)).cell? ((⟨w0.heap.size, 0, none⟩ : Addr).add j) = some u := by
    intro j u hu
    cases j with
    | zero =>
      injection hu with hu
      subst hu
      exact (cell_of_row _ _ _ _ _ _ (heap_alloc_new w0 _)).trans rfl
    | succ j => exact absurd hu (by simp)
  obtain ⟨i0, hi0, hi1, hi2, hi3⟩ := info_int
  obtain ⟨v', w2, hrun, hO2, hT2⟩ := run_app (P := Try.prog) 31 31 3 i0 (.int .i64 0) 8 Try.underlying31 hi0 hi1 hi2 hi3 rfl (by decide) (HO0.later ((Below.refl _ _).alloc (Nat.le_refl _) (.cells #[.int .i64 s] 3))) ⟨w0.heap.size, 0, none⟩ 1 1 [.int .i64 s] rfl hnews (by simp [Value.oneCell']) (by rw [show maxLen = 9223372036854775807 from rfl]; omega) (by omega)
  have hg2 : ¬ (fun q => Z q ∧ q ≠ g) g := fun q => q.2 rfl
  have hB2 := hB1.turned hT2 hg2
  obtain ⟨r3'', f3''⟩ := hB2.2 3 _ rfl
  obtain ⟨x', cap', rfl⟩ := hO2.shape
  have hB3 := hB2.set_ 3 (.slice x' (n + 1) cap')
  have HHD : Hid (Calls Try.prog 39 #[.pointer (some ⟨g, 0, none⟩)] (w2.setCell ⟨g, 3, none⟩ (.slice x' (n + 1) cap')) fun e w' => e = .returned (.int .i64 (k + ((n + 1 : Nat) : Int))) ∧ ∃ m, w' = (w2.setCell ⟨g, 3, none⟩ (.slice x' (n + 1) cap')).drewN m) := Lib.hid (head_pc hB3 h0 (by omega))
  have HFIN : Hid (∀ m, AddPost Z w g c who k l (.returned (.tuple #[.int .i64 (k + ((n + 1 : Nat) : Int)), .int .i64 0])) ((w2.setCell ⟨g, 3, none⟩ (.slice x' (n + 1) cap')).drewN m)) := Lib.hid (fun m => by
    have hgw : g < w.heap.size := HB.out.1
    have hsz := HT0.size
    have hT3 : Turned Z w w2 := (HT0.trans (Turned.alloc w0 Z (.cells #[.int .i64 s] 3)) (fun q h => .inl h)).trans hT2 (fun q h => .inl h.1)
    have hO3 := hO2.mono (Y' := fun q => (Z q ∧ q ≠ g) ∨ w.heap.size ≤ q) (fun q h => h.imp id (fun h => by simp at h; omega))
    have hP := Pp.grow (l' := l ++ [Quo.wth 0 who]) hZ.out hgw hB2 hO3 hT3 (by rw [List.length_append, HL.out]; rfl) (by rw [HS.out]; simp [ivs])
    refine ⟨?_, hP.1, hP.2.os, hP.2.tape, hP.2.output, hP.2.size, hP.2.block⟩
    rw [HL.out, show k + ((l.length + 1 : Nat) : Int) = k + (l.length : Int) + 1 by omega])
  clear HH HB HO HS HL
  refine wpAnyH_take (i := 0) (oi := { dst := some 19, op := _, type := _, pos := _, after := _, guard := _ }) (v := ?_) rfl (by kernel_rfl) (by kernel_rfl) (by kernel_rfl) (fun _ _ _ h => h) (Or.inl ⟨by rfl, ?_⟩) hHeld ?_
  rotate_left
  · intro W hSw
    have hSr := PS.who hSw
    go_simp
    first | done | rfl
  try simp only [Act.put, List.setIfInBounds_toArray, List.set_cons_zero, List.set_cons_succ]
  refine wpAnyH_take (i := 1) (oi := { dst := some 20, op := _, type := _, pos := _, after := _, guard := _ }) (v := ?_) rfl (by kernel_rfl) (by kernel_rfl) (by kernel_rfl) (fun _ _ _ h => h) (Or.inl ⟨by rfl, ?_⟩) hHeld ?_
  rotate_left
  · intro W hSw
    have hSr := PS.who hSw
    go_simp
    first | done | rfl
  try simp only [Act.put, List.setIfInBounds_toArray, List.set_cons_zero, List.set_cons_succ]
  refine wpAnyH_take (i := 2) (oi := { dst := some 21, op := _, type := _, pos := _, after := _, guard := _ }) (v := ?_) rfl (by kernel_rfl) (by kernel_rfl) (by kernel_rfl) (fun _ _ _ h => h) (Or.inl ⟨by rfl, ?_⟩) hHeld ?_
  rotate_left
  · intro W hSw
    have hSr := PS.who hSw
    go_simp
    first | done | rfl
  try simp only [Act.put, List.setIfInBounds_toArray, List.set_cons_zero, List.set_cons_succ]
  refine wpAnyH_take (i := 3) (oi := { dst := some 22, op := _, type := _, pos := _, after := _, guard := _ }) (v := ?_) rfl (by kernel_rfl) (by kernel_rfl) (by kernel_rfl) (fun _ _ _ h => h) (Or.inl ⟨by rfl, ?_⟩) hHeld ?_
  rotate_left
  · intro W hSw
    have hSr := PS.who hSw
    go_simp
    first | done | rfl
  try simp only [Act.put, List.setIfInBounds_toArray, List.set_cons_zero, List.set_cons_succ]
  refine wpAnyH_take (i := 5) (oi := { dst := some 24, op := _, type := _, pos := _, after := _, guard := _ }) (v := ?_) rfl (by kernel_rfl) (by kernel_rfl) (by kernel_rfl) (fun _ _ _ h => h) (Or.inl ⟨by rfl, ?_⟩) hHeld ?_
  rotate_left
  · intro W hSw
    have hSr := PS.who hSw
    go_simp
    first | done | rfl
  try simp only [Act.put, List.setIfInBounds_toArray, List.set_cons_zero, List.set_cons_succ]
  refine wpAnyH_take (i := 6) (oi := { dst := some 25, op := _, type := _, pos := _, after := _, guard := _ }) (v := ?_) rfl (by kernel_rfl) (by kernel_rfl) (by kernel_rfl) (fun _ _ _ h => h) (Or.inl ⟨by rfl, ?_⟩) hHeld ?_
  rotate_left
  · intro W hSw
    have hSr := PS.who hSw
    go_simp
    first | done | rfl
  try simp only [Act.put, List.setIfInBounds_toArray, List.set_cons_zero, List.set_cons_succ]
  refine wpAnyH_take (i := 7) (oi := { dst := some 26, op := _, type := _, pos := _, after := _, guard := _ }) (v := ?_) rfl (by kernel_rfl) (by kernel_rfl) (by kernel_rfl) (fun _ _ _ h => h) (Or.inl ⟨by rfl, ?_⟩) hHeld ?_
  rotate_left
  · intro W hSw
    have hSr := PS.who hSw
    go_simp
    first | done | rfl
  try simp only [Act.put, List.setIfInBounds_toArray, List.set_cons_zero, List.set_cons_succ]
  refine wpAnyH_take (i := 8) (oi := { dst := some 27, op := _, type := _, pos := _, after := _, guard := _ }) (v := ?_) rfl (by kernel_rfl) (by kernel_rfl) (by kernel_rfl) (fun _ _ _ h => h) (Or.inl ⟨by rfl, ?_⟩) hHeld ?_
  rotate_left
  · intro W hSw
    have hSr := PS.who hSw
    go_simp
    first | done | rfl
  try simp only [Act.put, List.setIfInBounds_toArray, List.set_cons_zero, List.set_cons_succ]
  refine wpAnyH_ready (rs := [4, 9]) (by kernel_rfl) (by simp) ?_
  refine AllReadyH.cons (o := { dst := some 23, op := _, type := _, pos := _, after := _, guard := _ }) rfl (fun K hK => ?_) ?_
  · go_simp
    refine hK.out _ _ (by assumption) (fun _ => ?_)
    clear hK K
    try simp only [Act.put, List.setIfInBounds_toArray, List.set_cons_zero, List.set_cons_succ]
    refine wpAnyH_ready (rs := [9]) (by kernel_rfl) (by simp) ?_
    refine AllReadyH.cons (o := { dst := some 28, op := _, type := _, pos := _, after := _, guard := _ }) rfl (fun K hK => ?_) ?_
    · go_simp
      refine (HWI.out _).mono ?_
      rintro e wx ⟨rfl, rfl⟩
      refine hK.out _ _ (by assumption) (fun _ => ?_)
      clear hK K
      try simp only [Act.put, List.setIfInBounds_toArray, List.set_cons_zero, List.set_cons_succ]
      refine wpAnyH_ready (rs := [10]) (by kernel_rfl) (by simp) ?_
      refine AllReadyH.cons (o := { dst := some 29, op := _, type := _, pos := _, after := _, guard := _ }) rfl (fun K hK => ?_) ?_
      · go_simp
        refine hK.out _ _ ⟨_, hB1⟩ (fun _ => ?_)
        clear hK K
        try simp only [Act.put, List.setIfInBounds_toArray, List.set_cons_zero, List.set_cons_succ]
        refine wpAnyH_ready (rs := [11]) (by kernel_rfl) (by simp) ?_
        refine AllReadyH.cons (o := { dst := some 30, op := _, type := _, pos := _, after := _, guard := _ }) rfl (fun K hK => ?_) AllReadyH.nil
        refine step_app rfl _ _ 31 rfl _ _ 1 1 rfl rfl hrun ?_
        refine hK.out _ _ ⟨_, hB2⟩ (fun _ => ?_)
        clear hK K
        try simp only [Act.put, List.setIfInBounds_toArray, List.set_cons_zero, List.set_cons_succ]
        refine wpAnyH_take (i := 12) (oi := { dst := some 31, op := _, type := _, pos := _, after := _, guard := _ }) (v := ?_) rfl (by kernel_rfl) (by kernel_rfl) (by kernel_rfl) (fun _ _ _ h => h) (Or.inl ⟨by rfl, ?_⟩) ⟨_, hB2⟩ ?_
        rotate_left
        · intro W hSw
          have hSr := PS.who hSw
          go_simp
          first | done | rfl
        try simp only [Act.put, List.setIfInBounds_toArray, List.set_cons_zero, List.set_cons_succ]
        refine wpAnyH_take (i := 13) (oi := { dst := some 32, op := _, type := _, pos := _, after := _, guard := _ }) (v := ?_) rfl (by kernel_rfl) (by kernel_rfl) (by kernel_rfl) (fun _ _ _ h => h) (Or.inl ⟨by rfl, ?_⟩) ⟨_, hB2⟩ ?_
        rotate_left
        · intro W hSw
          have hSr := PS.who hSw
          go_simp
          first | done | rfl
        try simp only [Act.put, List.setIfInBounds_toArray, List.set_cons_zero, List.set_cons_succ]
        refine wpAnyH_ready (rs := [14]) (by kernel_rfl) (by simp) ?_
        refine AllReadyH.cons (o := { dst := none, op := _, type := _, pos := _, after := _, guard := _ }) rfl (fun K hK => ?_) AllReadyH.nil
        go_simp
        refine hK.out _ _ ⟨_, hB3⟩ (fun _ => ?_)
        clear hK K
        refine wpAnyH_done (by kernel_rfl) ?_ _
        refine NoPanic.normal ?_
        go_wp2_with (go_at_call 39; refine (HHD.out).mono ?_; rintro e w9 ⟨rfl, m9, rfl⟩)
        go_ret2
        exact HFIN.out m9
      exact AllReadyH.nil
    exact AllReadyH.nil
  refine AllReadyH.cons (o := { dst := some 28, op := _, type := _, pos := _, after := _, guard := _ }) rfl (fun K hK => ?_) ?_
  · go_simp
    refine (HWI.out _).mono ?_
    rintro e wx ⟨rfl, rfl⟩
    refine hK.out _ _ (by assumption) (fun _ => ?_)
    clear hK K
    try simp only [Act.put, List.setIfInBounds_toArray, List.set_cons_zero, List.set_cons_succ]
    refine wpAnyH_ready (rs := [4, 10]) (by kernel_rfl) (by simp) ?_
    refine AllReadyH.cons (o := { dst := some 23, op := _, type := _, pos := _, after := _, guard := _ }) rfl (fun K hK => ?_) ?_
    · go_simp
      refine hK.out _ _ (by assumption) (fun _ => ?_)
      clear hK K
      try simp only [Act.put, List.setIfInBounds_toArray, List.set_cons_zero, List.set_cons_succ]
      refine wpAnyH_ready (rs := [10]) (by kernel_rfl) (by simp) ?_
      refine AllReadyH.cons (o := { dst := some 29, op := _, type := _, pos := _, after := _, guard := _ }) rfl (fun K hK => ?_) ?_
      · go_simp
        refine hK.out _ _ ⟨_, hB1⟩ (fun _ => ?_)
        clear hK K
        try simp only [Act.put, List.setIfInBounds_toArray, List.set_cons_zero, List.set_cons_succ]
        refine wpAnyH_ready (rs := [11]) (by kernel_rfl) (by simp) ?_
        refine AllReadyH.cons (o := { dst := some 30, op := _, type := _, pos := _, after := _, guard := _ }) rfl (fun K hK => ?_) AllReadyH.nil
        refine step_app rfl _ _ 31 rfl _ _ 1 1 rfl rfl hrun ?_
        refine hK.out _ _ ⟨_, hB2⟩ (fun _ => ?_)
        clear hK K
        try simp only [Act.put, List.setIfInBounds_toArray, List.set_cons_zero, List.set_cons_succ]
        refine wpAnyH_take (i := 12) (oi := { dst := some 31, op := _, type := _, pos := _, after := _, guard := _ }) (v := ?_) rfl (by kernel_rfl) (by kernel_rfl) (by kernel_rfl) (fun _ _ _ h => h) (Or.inl ⟨by rfl, ?_⟩) ⟨_, hB2⟩ ?_
        rotate_left
        · intro W hSw
          have hSr := PS.who hSw
          go_simp
          first | done | rfl
        try simp only [Act.put, List.setIfInBounds_toArray, List.set_cons_zero, List.set_cons_succ]
        refine wpAnyH_take (i := 13) (oi := { dst := some 32, op := _, type := _, pos := _, after := _, guard := _ }) (v := ?_) rfl (by kernel_rfl) (by kernel_rfl) (by kernel_rfl) (fun _ _ _ h => h) (Or.inl ⟨by rfl, ?_⟩) ⟨_, hB2⟩ ?_
        rotate_left
        · intro W hSw
          have hSr := PS.who hSw
          go_simp
          first | done | rfl
        try simp only [Act.put, List.setIfInBounds_toArray, List.set_cons_zero, List.set_cons_succ]
        refine wpAnyH_ready (rs := [14]) (by kernel_rfl) (by simp) ?_
        refine AllReadyH.cons (o := { dst := none, op := _, type := _, pos := _, after := _, guard := _ }) rfl (fun K hK => ?_) AllReadyH.nil
        go_simp
        refine hK.out _ _ ⟨_, hB3⟩ (fun _ => ?_)
        clear hK K
        refine wpAnyH_done (by kernel_rfl) ?_ _
        refine NoPanic.normal ?_
        go_wp2_with (go_at_call 39; refine (HHD.out).mono ?_; rintro e w9 ⟨rfl, m9, rfl⟩)
        go_ret2
        exact HFIN.out m9
      exact AllReadyH.nil
    refine AllReadyH.cons (o := { dst := some 29, op := _, type := _, pos := _, after := _, guard := _ }) rfl (fun K hK => ?_) ?_
    · go_simp
      refine hK.out _ _ ⟨_, hB1⟩ (fun _ => ?_)
      clear hK K
      try simp only [Act.put, List.setIfInBounds_toArray, List.set_cons_zero, List.set_cons_succ]
      refine wpAnyH_ready (rs := [4]) (by kernel_rfl) (by simp) ?_
      refine AllReadyH.cons (o := { dst := some 23, op := _, type := _, pos := _, after := _, guard := _ }) rfl (fun K hK => ?_) ?_
      · go_simp
        refine hK.out _ _ (by assumption) (fun _ => ?_)
        clear hK K
        try simp only [Act.put, List.setIfInBounds_toArray, List.set_cons_zero, List.set_cons_succ]
        refine wpAnyH_ready (rs := [11]) (by kernel_rfl) (by simp) ?_
        refine AllReadyH.cons (o := { dst := some 30, op := _, type := _, pos := _, after := _, guard := _ }) rfl (fun K hK => ?_) AllReadyH.nil
        refine step_app rfl _ _ 31 rfl _ _ 1 1 rfl rfl hrun ?_
        refine hK.out _ _ ⟨_, hB2⟩ (fun _ => ?_)
        clear hK K
        try simp only [Act.put, List.setIfInBounds_toArray, List.set_cons_zero, List.set_cons_succ]
        refine wpAnyH_take (i := 12) (oi := { dst := some 31, op := _, type := _, pos := _, after := _, guard := _ }) (v := ?_) rfl (by kernel_rfl) (by kernel_rfl) (by kernel_rfl) (fun _ _ _ h => h) (Or.inl ⟨by rfl, ?_⟩) ⟨_, hB2⟩ ?_
        rotate_left
        · intro W hSw
          have hSr := PS.who hSw
          go_simp
          first | done | rfl
        try simp only [Act.put, List.setIfInBounds_toArray, List.set_cons_zero, List.set_cons_succ]
        refine wpAnyH_take (i := 13) (oi := { dst := some 32, op := _, type := _, pos := _, after := _, guard := _ }) (v := ?_) rfl (by kernel_rfl) (by kernel_rfl) (by kernel_rfl) (fun _ _ _ h => h) (Or.inl ⟨by rfl, ?_⟩) ⟨_, hB2⟩ ?_
        rotate_left
        · intro W hSw
          have hSr := PS.who hSw
          go_simp
          first | done | rfl
        try simp only [Act.put, List.setIfInBounds_toArray, List.set_cons_zero, List.set_cons_succ]
        refine wpAnyH_ready (rs := [14]) (by kernel_rfl) (by simp) ?_
        refine AllReadyH.cons (o := { dst := none, op := _, type := _, pos := _, after := _, guard := _ }) rfl (fun K hK => ?_) AllReadyH.nil
        go_simp
        refine hK.out _ _ ⟨_, hB3⟩ (fun _ => ?_)
        clear hK K
        refine wpAnyH_done (by kernel_rfl) ?_ _
        refine NoPanic.normal ?_
        go_wp2_with (go_at_call 39; refine (HHD.out).mono ?_; rintro e w9 ⟨rfl, m9, rfl⟩)
        go_ret2
        exact HFIN.out m9
      exact AllReadyH.nil
    exact AllReadyH.nil
  exact AllReadyH.nil
end Go.Proofs.Ytecaahcmebdglaa

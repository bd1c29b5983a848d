/- pipe.New refuses; pipe.Kept. -/
import Derived.Test.YtecaahcmebdglaaPipC
namespace Go.Proofs.Ytecaahcmebdglaa
open Go.RowKit
set_option linter.unusedVariables false
set_option maxHeartbeats 1000000 in
theorem new_no (c who k hd : Int) (w : World) (hdb : -9223372036854775808 ≤ hd ∧ hd ≤ 9223372036854775807) (h : ¬ ((c = 3 ∨ c = 5) ∧ (1 ≤ who ∧ who ≤ c) ∧ 0 ≤ k ∧ hd ≤ 72057594037927935 ∧ k ≤ hd ∧ hd - k ≤ 16)) : Calls Try.prog 35 #[.int .i64 c, .int .i64 who, .int .i64 k, .int .i64 hd] w fun e w' =>
    e = .returned (.tuple #[.pointer none, .int .i64 1]) ∧ w = w' := by
  by_cases hc : c = 3 ∨ c = 5
  · have HMY : Hid (∀ w, Calls Try.prog 15 #[.int .i64 c] w fun e w' => e = .returned (.bool true) ∧ w = w') := Lib.hid (fun w => may_yes c w hc)
    by_cases q0 : who < 1
    · clear h hc
      go_enter Try.func35, Try.ntmps35
      go_wp2_with (go_at_call 15; refine (HMY.out _).mono ?_; rintro e w' ⟨rfl, rfl⟩)
      go_ret2
      exact ⟨rfl, rfl⟩
    by_cases q1 : c < who
    · clear h hc
      go_enter Try.func35, Try.ntmps35
      go_wp2_with (go_at_call 15; refine (HMY.out _).mono ?_; rintro e w' ⟨rfl, rfl⟩)
      go_ret2
      exact ⟨rfl, rfl⟩
    by_cases q2 : k < 0
    · clear h hc
      go_enter Try.func35, Try.ntmps35
      go_wp2_with (go_at_call 15; refine (HMY.out _).mono ?_; rintro e w' ⟨rfl, rfl⟩)
      go_ret2
      exact ⟨rfl, rfl⟩
    by_cases q3 : 72057594037927935 < hd
    · clear h hc
      go_enter Try.func35, Try.ntmps35
      go_wp2_with (go_at_call 15; refine (HMY.out _).mono ?_; rintro e w' ⟨rfl, rfl⟩)
      go_ret2
      exact ⟨rfl, rfl⟩
    by_cases q4 : hd < k
    · clear h hc
      go_enter Try.func35, Try.ntmps35
      go_wp2_with (go_at_call 15; refine (HMY.out _).mono ?_; rintro e w' ⟨rfl, rfl⟩)
      go_ret2
      exact ⟨rfl, rfl⟩
    by_cases q5 : 16 < hd - k
    · have hwr : IntKind.i64.wrap (hd - k) = hd - k := IntWalk.i64_in _ (by omega)
      clear h hc
      go_enter Try.func35, Try.ntmps35
      go_wp2_with (go_at_call 15; refine (HMY.out _).mono ?_; rintro e w' ⟨rfl, rfl⟩)
      go_ret2
      exact ⟨rfl, rfl⟩
    exact absurd ⟨hc, ⟨by omega, by omega⟩, by omega, by omega, by omega, by omega⟩ h
  · have HMY : Hid (∀ w, Calls Try.prog 15 #[.int .i64 c] w fun e w' => e = .returned (.bool false) ∧ w = w') := Lib.hid (fun w => may_no c w (by simp; omega) (by simp; omega))
    clear h hc
    go_enter Try.func35, Try.ntmps35
    go_wp2_with (go_at_call 15; refine (HMY.out _).mono ?_; rintro e w' ⟨rfl, rfl⟩)
    go_ret2
    exact ⟨rfl, rfl⟩
/-- What the pipe's block holds. -/
def PK (g : Nat) (c who k : Int) (v : Value) (W : World) : Prop := Blk W g #[.int .i64 c, .int .i64 who, .int .i64 k, v]
theorem PK.r {g : Nat} {c who k : Int} {v : Value} {W : World} (h : PK g c who k v W) : W.cell? ⟨g, 0, none⟩ = some (.int .i64 c) ∧ W.cell? ⟨g, 1, none⟩ = some (.int .i64 who) ∧ W.cell? ⟨g, 2, none⟩ = some (.int .i64 k) ∧ W.cell? ⟨g, 3, none⟩ = some v := ⟨(h.2 0 _ rfl).1, (h.2 1 _ rfl).1, (h.2 2 _ rfl).1, (h.2 3 _ rfl).1⟩
def lenAt (g : Nat) (w : World) : Nat := match w.cell? ⟨g, 3, none⟩ with
  | some (.slice _ n _) => n
  | _ => 0
theorem OwnC.set1 {Y : Nat → Prop} {w : World} {b off n cap : Nat} {l : List Nat} (h : OwnC Y w (.slice (some ⟨b, off, none⟩) n cap) n 1 (ivs l)) {i : Nat} (hi : i < n) (t : Nat) : OwnC Y (w.setCell ⟨b, off + i, none⟩ (.int .i64 (t : Int))) (.slice (some ⟨b, off, none⟩) n cap) n 1 (ivs (l.set i t)) := by
  obtain ⟨h1, h2⟩ := h
  refine ⟨by simpa [ivs] using h1, ?_⟩
  rcases h2 with ⟨hv, hn⟩ | ⟨b', off', cap', hv, hb, hlt, hc, h3, h4⟩
  · omega
  injection hv with hv1 hv2 hv3
  injection hv1 with hv1
  injection hv1 with q1 q2
  subst q1 q2 hv3
  have hi4 := h4 i (by omega)
  refine .inr ⟨b, off, cap, rfl, hb, by simpa using hlt, hc, fun j u hu => ?_, fun j hj => ?_⟩
  · unfold ivs at hu h3
    rw [List.getElem?_map, List.getElem?_set] at hu
    by_cases q : i = j
    · subst q
      have hil : i < l.length := by unfold ivs at h1; simp at h1; omega
      rw [if_pos rfl, if_pos hil] at hu
      obtain rfl := Option.some.inj hu
      obtain ⟨v0, hv0⟩ := Option.isSome_iff_exists.1 hi4.1
      exact World.cell?_setCell_same _ _ _ hv0
    · rw [if_neg q, ← List.getElem?_map] at hu
      exact (World.cell?_setCell_other w _ _ _ (by intro e; injection e; omega)).trans (h3 j u hu)
  · by_cases q : i = j
    · subst q
      obtain ⟨v0, hv0⟩ := Option.isSome_iff_exists.1 hi4.1
      exact ⟨by rw [World.cell?_setCell_same _ _ _ hv0]; rfl, by rw [World.frozen?_setCell]; exact hi4.2⟩
    · have := h4 j hj
      exact ⟨by rw [World.cell?_setCell_other w _ _ _ (by intro e; injection e; omega)]; exact this.1, by rw [World.frozen?_setCell]; exact this.2⟩
theorem OwnC.pop {Y : Nat → Prop} {w : World} {b off cap s : Nat} {r : List Nat} (h : OwnC Y w (.slice (some ⟨b, off, none⟩) (s :: r).length cap) (s :: r).length 1 (ivs (s :: r))) : OwnC Y w (.slice (if cap = 1 then some ⟨b, off, none⟩ else some ⟨b, off + 1, none⟩) r.length (cap - 1)) r.length 1 (ivs r) := by
  obtain ⟨h1, h2⟩ := h
  refine ⟨by simp [ivs], ?_⟩
  rcases h2 with ⟨hv, hn⟩ | ⟨b', off', cap', hv, hb, hlt, hc, h3, h4⟩
  · cases hn
  injection hv with hv1 hv2 hv3
  injection hv1 with hv1
  injection hv1 with q1 q2
  subst q1 q2 hv3
  rw [List.length_cons] at hc
  by_cases hcap : cap = 1
  · subst hcap
    have hr : r = [] := List.eq_nil_of_length_eq_zero (by omega)
    subst hr
    rw [if_pos rfl]
    exact .inr ⟨b, off, 0, rfl, hb, hlt, Nat.le_refl _, fun j u hu => by simp [ivs] at hu, fun j hj => by omega⟩
  · rw [if_neg hcap]
    refine .inr ⟨b, off + 1, cap - 1, rfl, hb, hlt, by omega, fun j u hu => ?_, fun j hj => ?_⟩
    · rw [show off + 1 + j = off + (j + 1) by omega]
      exact h3 (j + 1) u hu
    · rw [show off + 1 + j = off + (j + 1) by omega]
      exact h4 (j + 1) (by omega)
theorem Pp.pop {Z : Nat → Prop} {w : World} {g : Nat} {c who k : Int} {b off cap s : Nat} {r : List Nat} {nq : Nat} (hB : Blk w g #[.int .i64 c, .int .i64 who, .int .i64 k, .slice (some ⟨b, off, none⟩) (s :: r).length cap]) (hO : OwnC (fun q => Z q ∧ q ≠ g) w (.slice (some ⟨b, off, none⟩) (s :: r).length cap) (s :: r).length 1 (ivs (s :: r))) (hZ : Z g) :
    Pp Z (((w.drewN nq).setCell ⟨g, 3, none⟩ (.slice (if cap = 1 then some ⟨b, off, none⟩ else some ⟨b, off + 1, none⟩) ((s :: r).length - 1) (cap - 1))).setCell ⟨g, 2, none⟩ (.int .i64 (k + 1))) g c who (k + 1) r ∧
    Turned Z w (((w.drewN nq).setCell ⟨g, 3, none⟩ (.slice (if cap = 1 then some ⟨b, off, none⟩ else some ⟨b, off + 1, none⟩) ((s :: r).length - 1) (cap - 1))).setCell ⟨g, 2, none⟩ (.int .i64 (k + 1))) ∧
    lenAt g (((w.drewN nq).setCell ⟨g, 3, none⟩ (.slice (if cap = 1 then some ⟨b, off, none⟩ else some ⟨b, off + 1, none⟩) ((s :: r).length - 1) (cap - 1))).setCell ⟨g, 2, none⟩ (.int .i64 (k + 1))) = (s :: r).length - 1 := by
  have hB0 : Blk (w.drewN nq) g #[.int .i64 c, .int .i64 who, .int .i64 k, .slice (some ⟨b, off, none⟩) (s :: r).length cap] := hB
  have hB2 := (hB0.set_ 3 (.slice (if cap = 1 then some ⟨b, off, none⟩ else some ⟨b, off + 1, none⟩) ((s :: r).length - 1) (cap - 1))).set_ 2 (.int .i64 (k + 1))
  have hO0 : OwnC (fun q => Z q ∧ q ≠ g) (w.drewN nq) (.slice (some ⟨b, off, none⟩) (s :: r).length cap) (s :: r).length 1 (ivs (s :: r)) := hO.later ⟨rfl, rfl, rfl, Nat.le_refl _, fun _ _ => rfl⟩
  have hT0 : Turned Z w (w.drewN nq) := ⟨rfl, rfl, rfl, Nat.le_refl _, fun _ _ _ => rfl⟩
  have hg : ¬ (fun q => Z q ∧ q ≠ g) g := fun h => h.2 rfl
  refine ⟨⟨hZ, _, hB2, (hO0.pop.set_other hg 3 _).set_other hg 2 _⟩, ?_, ?_⟩
  · exact (hT0.trans (Turned.setCell (X := Z) ⟨g, 3, none⟩ _ hZ) (fun q h => .inl h)).trans (Turned.setCell (X := Z) ⟨g, 2, none⟩ _ hZ) (fun q h => .inl h)
  · unfold lenAt
    rw [(hB2.2 3 _ rfl).1]
    rfl
theorem kept_arg {w : World} {g : Nat} {c who k : Int} {x : Option Addr} {n cap : Nat} (h : PC w g c who k x n cap) (h0 : 0 ≤ k) (h1 : k + n ≤ 72057594037927935) (op from_ : Int) (hf : from_ < 1 ∨ c < from_) : Calls Try.prog 37 #[.pointer (some ⟨g, 0, none⟩), .int .i64 op, .int .i64 from_] w fun e w' => e = .returned (.int .i64 1) ∧ ∃ m, w' = w.drewN m := by
  have HI := Lib.hid (in_pc h h0 (by omega) op)
  have r0 := (h.2 0 _ rfl).1
  by_cases q : from_ < 1
  · clear hf
    go_enter Try.func37, Try.ntmps37
    go_wp2_with (go_at_call 55; refine (HI.out).mono ?_; rintro e w' ⟨rfl, m, rfl⟩)
    go_ret
    exact ⟨rfl, _, rfl⟩
  · have q2 : c < from_ := by omega
    clear hf
    go_enter Try.func37, Try.ntmps37
    go_wp2_with (go_at_call 55; refine (HI.out).mono ?_; rintro e w' ⟨rfl, m, rfl⟩)
    go_ret
    exact ⟨rfl, _, rfl⟩
theorem kept_none {w : World} {g : Nat} {c who k : Int} {x : Option Addr} {n cap : Nat} (h : PC w g c who k x n cap) (h0 : 0 ≤ k) (h1 : k + n ≤ 72057594037927935) (op from_ : Int) (hf : 1 ≤ from_ ∧ from_ ≤ c) (ho : ¬ (k < op ∧ op ≤ k + n)) : Calls Try.prog 37 #[.pointer (some ⟨g, 0, none⟩), .int .i64 op, .int .i64 from_] w fun e w' => e = .returned (.int .i64 8) ∧ ∃ m, w' = w.drewN m := by
  have HI := Lib.hid (in_pc h h0 (by omega) op)
  rw [show pin k n op = -1 from if_neg ho] at HI
  have r0 := (h.2 0 _ rfl).1
  have q1 : ¬ from_ < 1 := by omega
  have q2 : ¬ c < from_ := by omega
  go_enter Try.func37, Try.ntmps37
  go_wp2_with (go_at_call 55; refine (HI.out).mono ?_; rintro e w' ⟨rfl, m, rfl⟩)
  go_ret
  exact ⟨rfl, _, rfl⟩
def KeptPost (Z : Nat → Prop) (w : World) (g : Nat) (c who k : Int) (l : List Nat) (e : Ending) (w' : World) : Prop :=
  e = .returned (.int .i64 0) ∧ Pp (fun q => Z q ∨ w.heap.size ≤ q) w' g c who (k + Pip.done c l) (l.drop (Pip.done c l)) ∧ Turned Z w w'
set_option maxHeartbeats 4000000 in
theorem kept_ok {Z : Nat → Prop} {w : World} {g : Nat} {c who k : Int} {l : List Nat} (h : Pp Z w g c who k l) (hc : c = 3 ∨ c = 5) (h0 : 0 ≤ k) (h1 : k + l.length ≤ 72057594037927935) (hs32 : ∀ s ∈ l, s < 32) (i s : Nat) (hi : l[i]? = some s) (op from_ : Int) (hop : op = k + 1 + i) (hf : 1 ≤ from_ ∧ from_ ≤ c) :
    Calls Try.prog 37 #[.pointer (some ⟨g, 0, none⟩), .int .i64 op, .int .i64 from_] w (KeptPost Z w g c who k (l.set i (Quo.wth s from_))) := by
  have hil := (List.getElem?_eq_some_iff.1 hi).1
  have hZ := Lib.hid h.1
  have H32 := Lib.hid hs32
  obtain ⟨x, cap, hB, hO⟩ := h.pc
  have HIN : Hid (Calls Try.prog 55 #[.pointer (some ⟨g, 0, none⟩), .int .i64 op] w fun e w' => e = .returned (.int .i64 (i : Int)) ∧ ∃ m, w' = w.drewN m) := Lib.hid (by
    have := in_pc hB h0 (by omega) op
    rwa [show pin k l.length op = (i : Int) from by unfold pin; rw [if_pos (by omega)]; omega] at this)
  obtain ⟨b, off, hx, hYb, hlt, hcap, hcells, hroom⟩ : ∃ b off, x = some ⟨b, off, none⟩ ∧ (Z b ∧ b ≠ g) ∧ b < w.heap.size ∧ l.length ≤ cap ∧ (∀ (j : Nat) (u : Value), (ivs l)[j]? = some u → w.cell? ⟨b, off + j, none⟩ = some u) ∧ ∀ j, j < cap * 1 → (w.cell? ⟨b, off + j, none⟩).isSome = true ∧ w.frozen? ⟨b, off + j, none⟩ = false := by
    rcases hO.2 with ⟨hv, hn⟩ | ⟨b, off, cap', hv, r⟩
    · omega
    · injection hv with hv1 hv2 hv3
      subst hv3
      exact ⟨b, off, hv1, r⟩
  subst hx
  have hs5 : s < 32 := hs32 s (List.mem_of_getElem? hi)
  have rs : w.cell? ⟨b, off + i, none⟩ = some (.int .i64 (s : Int)) := hcells i _ (by unfold ivs; rw [List.getElem?_map, hi]; rfl)
  have fs : w.frozen? ⟨b, off + i, none⟩ = false := (hroom i (by omega)).2
  have HWI : Hid (∀ w, Calls Try.prog 20 #[.int .i64 (s : Int), .int .i64 from_] w fun e w' => e = .returned (.int .i64 ((Quo.wth s from_ : Nat) : Int)) ∧ w = w') := Lib.hid (fun w => by
    have := with_any s from_ w (by omega) (by omega)
    rwa [show qs (s : Int) = s from by unfold qs; omega] at this)
  obtain ⟨t, ht⟩ : ∃ t, t = Quo.wth s from_ := ⟨_, rfl⟩
  rw [← ht] at HWI
  have HTT := Lib.hid ht
  obtain ⟨n, hn⟩ : ∃ n, n = l.length := ⟨_, rfl⟩
  rw [← ht]
  have HN := Lib.hid hn
  rw [← hn] at hil h1 hB hcap
  have HB := Lib.hid hB
  have HO := Lib.hid hO
  have HC := Lib.hid hcells
  have HR := Lib.hid hroom
  have r0 := (hB.2 0 _ rfl).1
  have q1 : ¬ from_ < 1 := by omega
  have q2 : ¬ c < from_ := by omega
  have q3 : ¬ (i : Int) < 0 := by omega
  have HOP := Lib.hid hop
  clear hn ht hB hO hcells hroom hop hi hs32 h
  go_enter Try.func37, Try.ntmps37
  go_wp2_with (go_at_call 55; refine (HIN.out).mono ?_; rintro e w' ⟨rfl, m, rfl⟩)
  refine wp_region_noPanic ?_
  refine wp_region_held_drew (S := PK g c who k (.slice (some ⟨b, off, none⟩) n cap)) (by kernel_rfl) (show PK g c who k (.slice (some ⟨b, off, none⟩) n cap) (w.drewN m).drew from HB.out) (fun hHeld => ?_)
  have rs' : (w.drewN m).drew.cell? ⟨b, off + i, none⟩ = some (.int .i64 (s : Int)) := rs
  have fs' : (w.drewN m).drew.frozen? ⟨b, off + i, none⟩ = false := fs
  have HT0 : Turned Z w (w.drewN m).drew := ⟨rfl, rfl, rfl, Nat.le_refl _, fun _ _ _ => rfl⟩
  have HO0 : OwnC (fun q => Z q ∧ q ≠ g) (w.drewN m).drew (.slice (some ⟨b, off, none⟩) n cap) n 1 (ivs l) := HN.out ▸ HO.out.later ⟨rfl, rfl, rfl, Nat.le_refl _, fun _ _ => rfl⟩
  clear r0
  generalize (w.drewN m).drew = w0 at *
  have HS3 : PK g c who k (.slice (some ⟨b, off, none⟩) n cap) (w0.setCell ⟨b, off + i, none⟩ (.int .i64 (t : Int))) := Blk.other hHeld ⟨b, off + i, none⟩ hYb.2 _
  refine wpAnyH_take (i := 0) (oi := { dst := some 28, op := _, type := _, pos := _, after := _, guard := _ }) (v := ?_) rfl (by kernel_rfl) (by kernel_rfl) (by kernel_rfl) (fun _ _ _ h => h) (Or.inl ⟨by rfl, ?_⟩) hHeld ?_
  rotate_left
  · intro W hSw
    have hSr := (PK.r hSw).2.2.2
    go_simp
    first | done | rfl
  try simp only [Act.put, List.setIfInBounds_toArray, List.set_cons_zero, List.set_cons_succ]
  refine wpAnyH_take (i := 4) (oi := { dst := some 32, op := _, type := _, pos := _, after := _, guard := _ }) (v := ?_) rfl (by kernel_rfl) (by kernel_rfl) (by kernel_rfl) (fun _ _ _ h => h) (Or.inl ⟨by rfl, ?_⟩) hHeld ?_
  rotate_left
  · intro W hSw
    have hSr := (PK.r hSw).2.2.2
    go_simp
    first | done | rfl
  try simp only [Act.put, List.setIfInBounds_toArray, List.set_cons_zero, List.set_cons_succ]
  refine wpAnyH_take (i := 5) (oi := { dst := some 33, op := _, type := _, pos := _, after := _, guard := _ }) (v := ?_) rfl (by kernel_rfl) (by kernel_rfl) (by kernel_rfl) (fun _ _ _ h => h) (Or.inl ⟨by rfl, ?_⟩) hHeld ?_
  rotate_left
  · intro W hSw
    have hSr := (PK.r hSw).2.2.2
    go_simp
    first | done | rfl
  try simp only [Act.put, List.setIfInBounds_toArray, List.set_cons_zero, List.set_cons_succ]
  refine wpAnyH_take (i := 9) (oi := { dst := some 37, op := _, type := _, pos := _, after := _, guard := _ }) (v := ?_) rfl (by kernel_rfl) (by kernel_rfl) (by kernel_rfl) (fun _ _ _ h => h) (Or.inl ⟨by rfl, ?_⟩) hHeld ?_
  rotate_left
  · intro W hSw
    have hSr := (PK.r hSw).2.2.2
    go_simp
    first | done | rfl
  try simp only [Act.put, List.setIfInBounds_toArray, List.set_cons_zero, List.set_cons_succ]
  refine wpAnyH_take (i := 12) (oi := { dst := some 40, op := _, type := _, pos := _, after := _, guard := _ }) (v := ?_) rfl (by kernel_rfl) (by kernel_rfl) (by kernel_rfl) (fun _ _ _ h => h) (Or.inl ⟨by rfl, ?_⟩) hHeld ?_
  rotate_left
  · intro W hSw
    have hSr := (PK.r hSw).2.2.2
    go_simp
    first | done | rfl
  try simp only [Act.put, List.setIfInBounds_toArray, List.set_cons_zero, List.set_cons_succ]
  refine wpAnyH_take (i := 1) (oi := { dst := some 29, op := _, type := _, pos := _, after := _, guard := _ }) (v := ?_) rfl (by kernel_rfl) (by kernel_rfl) (by kernel_rfl) (fun _ _ _ h => h) (Or.inl ⟨by rfl, ?_⟩) hHeld ?_
  rotate_left
  · intro W hSw
    have hSr := (PK.r hSw).2.2.2
    go_simp
    first | done | rfl
  try simp only [Act.put, List.setIfInBounds_toArray, List.set_cons_zero, List.set_cons_succ]
  refine wpAnyH_take (i := 6) (oi := { dst := some 34, op := _, type := _, pos := _, after := _, guard := _ }) (v := ?_) rfl (by kernel_rfl) (by kernel_rfl) (by kernel_rfl) (fun _ _ _ h => h) (Or.inl ⟨by rfl, ?_⟩) hHeld ?_
  rotate_left
  · intro W hSw
    have hSr := (PK.r hSw).2.2.2
    go_simp
    first | done | rfl
  try simp only [Act.put, List.setIfInBounds_toArray, List.set_cons_zero, List.set_cons_succ]
  refine wpAnyH_take (i := 2) (oi := { dst := some 30, op := _, type := _, pos := _, after := _, guard := _ }) (v := ?_) rfl (by kernel_rfl) (by kernel_rfl) (by kernel_rfl) (fun _ _ _ h => h) (Or.inl ⟨by rfl, ?_⟩) hHeld ?_
  rotate_left
  · intro W hSw
    have hSr := (PK.r hSw).2.2.2
    go_simp
    first | done | rfl
  try simp only [Act.put, List.setIfInBounds_toArray, List.set_cons_zero, List.set_cons_succ]
  refine wpAnyH_take (i := 7) (oi := { dst := some 35, op := _, type := _, pos := _, after := _, guard := _ }) (v := ?_) rfl (by kernel_rfl) (by kernel_rfl) (by kernel_rfl) (fun _ _ _ h => h) (Or.inl ⟨by rfl, ?_⟩) hHeld ?_
  rotate_left
  · intro W hSw
    have hSr := (PK.r hSw).2.2.2
    go_simp
    first | done | rfl
  try simp only [Act.put, List.setIfInBounds_toArray, List.set_cons_zero, List.set_cons_succ]
  refine wpAnyH_take (i := 3) (oi := { dst := some 31, op := _, type := _, pos := _, after := _, guard := _ }) (v := ?_) rfl (by kernel_rfl) (by kernel_rfl) (by kernel_rfl) (fun _ _ _ h => h) (Or.inl ⟨by rfl, ?_⟩) hHeld ?_
  rotate_left
  · intro W hSw
    have hSr := (PK.r hSw).2.2.2
    go_simp
    first | done | rfl
  try simp only [Act.put, List.setIfInBounds_toArray, List.set_cons_zero, List.set_cons_succ]
  refine wpAnyH_take (i := 8) (oi := { dst := some 36, op := _, type := _, pos := _, after := _, guard := _ }) (v := ?_) rfl (by kernel_rfl) (by kernel_rfl) (by kernel_rfl) (fun _ _ _ h => h) (Or.inl ⟨by rfl, ?_⟩) hHeld ?_
  rotate_left
  · intro W hSw
    have hSr := (PK.r hSw).2.2.2
    go_simp
    first | done | rfl
  try simp only [Act.put, List.setIfInBounds_toArray, List.set_cons_zero, List.set_cons_succ]
  refine wpAnyH_take (i := 10) (oi := { dst := some 38, op := _, type := _, pos := _, after := _, guard := _ }) (v := ?_) rfl (by kernel_rfl) (by kernel_rfl) (by kernel_rfl) (fun _ _ _ h => h) (Or.inl ⟨by rfl, ?_⟩) hHeld ?_
  rotate_left
  · intro W hSw
    have hSr := (PK.r hSw).2.2.2
    go_simp
    first | done | rfl
  try simp only [Act.put, List.setIfInBounds_toArray, List.set_cons_zero, List.set_cons_succ]
  refine wpAnyH_ready (rs := [11]) (by kernel_rfl) (by simp) ?_
  refine AllReadyH.cons (o := { dst := some 39, op := _, type := _, pos := _, after := _, guard := _ }) rfl (fun K hK => ?_) AllReadyH.nil
  go_simp
  refine hK.out _ _ hHeld (fun _ => ?_)
  clear hK K
  try simp only [Act.put, List.setIfInBounds_toArray, List.set_cons_zero, List.set_cons_succ]
  refine wpAnyH_ready (rs := [13]) (by kernel_rfl) (by simp) ?_
  refine AllReadyH.cons (o := { dst := some 41, op := _, type := _, pos := _, after := _, guard := _ }) rfl (fun K hK => ?_) AllReadyH.nil
  go_simp
  refine (HWI.out _).mono ?_
  rintro e wx ⟨rfl, rfl⟩
  refine hK.out _ _ hHeld (fun _ => ?_)
  clear hK K
  try simp only [Act.put, List.setIfInBounds_toArray, List.set_cons_zero, List.set_cons_succ]
  refine wpAnyH_take (i := 14) (oi := { dst := some 42, op := _, type := _, pos := _, after := _, guard := _ }) (v := ?_) rfl (by kernel_rfl) (by kernel_rfl) (by kernel_rfl) (fun _ _ _ h => h) (Or.inl ⟨by rfl, ?_⟩) hHeld ?_
  rotate_left
  · intro W hSw
    have hSr := (PK.r hSw).2.2.2
    go_simp
    first | done | rfl
  try simp only [Act.put, List.setIfInBounds_toArray, List.set_cons_zero, List.set_cons_succ]
  refine wpAnyH_ready (rs := [15]) (by kernel_rfl) (by simp) ?_
  refine AllReadyH.cons (o := { dst := none, op := _, type := _, pos := _, after := _, guard := _ }) rfl (fun K hK => ?_) AllReadyH.nil
  go_simp
  refine hK.out _ _ HS3 (fun _ => ?_)
  clear hK K
  try simp only [Act.put, List.setIfInBounds_toArray, List.set_cons_zero, List.set_cons_succ]
  refine wpAnyH_done (by kernel_rfl) ?_ _
  refine NoPanic.normal ?_
  have hL32 : ∀ x ∈ l.set i t, x < 32 := fun x hx => by
    rcases List.mem_or_eq_of_mem_set hx with hx | rfl
    · exact H32.out x hx
    · rw [HTT.out]; exact Quo.wth_lt _ _ hs5
  have hP1 : Pp Z (w0.setCell ⟨b, off + i, none⟩ (.int .i64 (t : Int))) g c who k (l.set i t) := ⟨hZ.out, _, HS3, by rw [List.length_set, ← HN.out]; exact HO0.set1 (by omega) t⟩
  have hT1 : Turned Z w (w0.setCell ⟨b, off + i, none⟩ (.int .i64 (t : Int))) := HT0.trans (Turned.setCell (X := Z) ⟨b, off + i, none⟩ _ hYb.1) (fun q h => .inl h)
  have hLn : k + (l.set i t).length ≤ 72057594037927935 := by rw [List.length_set, ← HN.out]; exact h1
  clear rs fs rs' fs' HO0 HT0 HS3 hHeld HOP HN HC HR HO HB HIN HWI hYb hlt hs5 h1 hil hcap H32 HTT
  generalize w0.setCell ⟨b, off + i, none⟩ (.int .i64 (t : Int)) = w1 at *
  generalize l.set i t = L at *
  go_wp2_with fail
  go_loopw [] (fun wr => ∃ d : Nat, d ≤ L.length ∧ d + Pip.done c (L.drop d) = Pip.done c L ∧ Pp Z wr g c who (k + d) (L.drop d) ∧ Turned Z w wr) (fun wr => lenAt g wr)
  case atStart => exact ⟨0, by omega, by rw [List.drop_zero]; omega, by rw [List.drop_zero]; simpa using hP1, hT1⟩
  case round =>
    clear hP1 hT1
    obtain ⟨d, hd, hdone, hP, hT⟩ := hrel
    have hlen : (L.drop d).length = L.length - d := List.length_drop
    have H32 : Hid (∀ x ∈ L.drop d, x < 32) := Lib.hid (fun x hx => hL32 x (List.mem_of_mem_drop hx))
    clear hL32
    obtain ⟨K, hK⟩ : ∃ K, K = k + (d : Int) := ⟨_, rfl⟩
    have HKK := Lib.hid hK
    have hK0 : 0 ≤ K := by omega
    have hK1 : K ≤ 72057594037927935 := by omega
    rw [← hK] at hP
    clear hK
    cases hl : L.drop d with
    | nil =>
      have HFI : Hid (∀ m, KeptPost Z w g c who k L (.returned (.int .i64 0)) (wr.drewN m)) := Lib.hid (fun m => by
        rw [hl] at hdone
        have hd2 : Pip.done c L = d := by rw [← hdone]; rfl
        refine ⟨rfl, ?_, hT.os, hT.tape, hT.output, hT.size, hT.block⟩
        rw [hd2, ← HKK.out]
        exact (hP.later (w' := wr.drewN m) ⟨rfl, rfl, rfl, Nat.le_refl _, fun _ _ => rfl⟩).mono (fun q h => .inl h))
      rw [hl] at hP
      obtain ⟨x, cap2, hB, hO⟩ := hP.pc
      obtain ⟨r0, -, r2, r3⟩ := PK.r hB
      have r3' : wr.cell? ⟨g, 3, none⟩ = some (.slice x 0 cap2) := r3
      clear hP hB hO hdone hT hlen hl r3 hd hLn
      go_wp2_with fail
      go_quiet (fail)
      go_wp2_with fail
      go_ret
      exact HFI.out _
    | cons s1 r =>
      have hs1 : s1 < 32 := H32.out s1 (by rw [hl]; exact List.mem_cons_self)
      have HSZ : Hid (∀ w, Calls Try.prog 24 #[.int .i64 (s1 : Int)] w fun e w' => e = .returned (.int .i64 ((Quo.size s1 : Nat) : Int)) ∧ w = w') := Lib.hid (fun w => by
        have := size_any s1 w (by omega)
        rwa [show qs (s1 : Int) = s1 from by unfold qs; omega] at this)
      have HEN : Hid (∀ w, Calls Try.prog 16 #[.int .i64 c] w fun e w' => e = .returned (.int .i64 (Quo.enough c)) ∧ w = w') := Lib.hid (fun w => enough_any c w)
      have HP := Lib.hid hP
      have HDO := Lib.hid hdone
      rw [hl] at hP hdone
      obtain ⟨x, cap2, hB, hO⟩ := hP.pc
      obtain ⟨b2, off2, hx, hYb, hlt, hcap, hcells, hroom⟩ : ∃ b off, x = some ⟨b, off, none⟩ ∧ (Z b ∧ b ≠ g) ∧ b < wr.heap.size ∧ (s1 :: r).length ≤ cap2 ∧ (∀ (j : Nat) (u : Value), (ivs (s1 :: r))[j]? = some u → wr.cell? ⟨b, off + j, none⟩ = some u) ∧ ∀ j, j < cap2 * 1 → (wr.cell? ⟨b, off + j, none⟩).isSome = true ∧ wr.frozen? ⟨b, off + j, none⟩ = false := by
        rcases hO.2 with ⟨hv, hn⟩ | ⟨b, off, cap', hv, q⟩
        · cases hn
        · injection hv with hv1 hv2 hv3
          subst hv3
          exact ⟨b, off, hv1, q⟩
      subst hx
      have re : wr.cell? ⟨b2, off2, none⟩ = some (.int .i64 (s1 : Int)) := hcells 0 _ rfl
      obtain ⟨rn, hrn⟩ : ∃ rn, rn = r.length := ⟨_, rfl⟩
      have HRN := Lib.hid hrn
      have HB := Lib.hid hB
      obtain ⟨r0, -, r2, r3⟩ := PK.r hB
      have r3' : wr.cell? ⟨g, 3, none⟩ = some (.slice (some ⟨b2, off2, none⟩) (rn + 1) cap2) := by rw [hrn]; exact r3
      have f3 := (hB.2 3 _ rfl).2
      have f2 := (hB.2 2 _ rfl).2
      obtain ⟨z, hz⟩ : ∃ z : Nat, z = Quo.size s1 := ⟨_, rfl⟩
      obtain ⟨en, hen⟩ : ∃ en, en = Quo.enough c := ⟨_, rfl⟩
      rw [← hz] at HSZ
      rw [← hen] at HEN
      have HZ := Lib.hid hz
      have HE := Lib.hid hen
      have hcap2 : rn + 1 ≤ cap2 := by rw [hrn]; exact hcap
      have HO := Lib.hid hO
      have HLL := Lib.hid hl
      clear hP hB hO hdone hl r3 hz hen hrn hcells hcap hs1
      by_cases hge : en ≤ (z : Int)
      · go_wp2_with fail
        go_quiet (first | (go_at_call 24; refine (HSZ.out _).mono ?_; rintro e w' ⟨rfl, rfl⟩; exact ⟨rfl, _, rfl⟩) | (go_at_call 16; refine (HEN.out _).mono ?_; rintro e w' ⟨rfl, rfl⟩; exact ⟨rfl, _, rfl⟩))
        go_wp2_with fail
        have hpp := Pp.pop (nq := nq) HB.out HO.out HP.out.1
        rw [show (s1 :: r).length = rn + 1 by rw [HRN.out]; rfl, Nat.add_sub_cancel] at hpp
        refine ⟨⟨d + 1, ?_, ?_, ?_, hT.trans hpp.2.1 (fun q h => .inl h)⟩, ?_⟩
        · have := HLL.out ▸ hlen
          simp at this
          omega
        · have hd1 : L.drop (d + 1) = r := by rw [← List.drop_drop, HLL.out]; rfl
          have := HDO.out
          rw [HLL.out] at this
          rw [hd1]
          rw [Pip.done, if_pos (by rw [← HZ.out, ← HE.out]; exact hge)] at this
          omega
        · have hd1 : L.drop (d + 1) = r := by rw [← List.drop_drop, HLL.out]; rfl
          rw [hd1, show k + ((d + 1 : Nat) : Int) = K + 1 by rw [HKK.out]; omega]
          exact hpp.1
        · rw [hpp.2.2]
          unfold lenAt
          rw [r3']
          exact Nat.lt_succ_self _
      · have HFI : Hid (∀ m, KeptPost Z w g c who k L (.returned (.int .i64 0)) (wr.drewN m)) := Lib.hid (fun m => by
          have hd2 : Pip.done c L = d := by
            rw [← HDO.out, HLL.out, Pip.done, if_neg (by rw [← HZ.out, ← HE.out]; exact hge)]
            rfl
          refine ⟨rfl, ?_, hT.os, hT.tape, hT.output, hT.size, hT.block⟩
          rw [hd2, ← HKK.out]
          exact (HP.out.later (w' := wr.drewN m) ⟨rfl, rfl, rfl, Nat.le_refl _, fun _ _ => rfl⟩).mono (fun q h => .inl h))
        go_wp2_with fail
        go_quiet (first | (go_at_call 24; refine (HSZ.out _).mono ?_; rintro e w' ⟨rfl, rfl⟩; exact ⟨rfl, _, rfl⟩) | (go_at_call 16; refine (HEN.out _).mono ?_; rintro e w' ⟨rfl, rfl⟩; exact ⟨rfl, _, rfl⟩))
        go_wp2_with fail
        go_ret
        exact HFI.out _
end Go.Proofs.Ytecaahcmebdglaa

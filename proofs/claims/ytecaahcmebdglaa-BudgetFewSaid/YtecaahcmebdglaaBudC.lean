/- The reference's Checks, Within, Rots, Grid. -/
import Derived.Test.YtecaahcmebdglaaBudB
namespace Go.Proofs.Ytecaahcmebdglaa
open Go.RowKit
set_option linter.unusedVariables false
/-- The world since w; the box of the setup is its first new block. -/
def Bs (w wr : World) (r c : Int) : Prop := Below w.heap.size w wr ∧ w.heap.size < wr.heap.size ∧ wr.cell? ⟨w.heap.size, 0, none⟩ = some (.int .i64 r) ∧ wr.cell? ⟨w.heap.size, 1, none⟩ = some (.int .i64 c)
theorem Bs.later {w wr w' : World} {r c : Int} (h : Bs w wr r c) (hb : Below wr.heap.size wr w') : Bs w w' r c :=
  ⟨h.1.trans (hb.mono h.1.size), Nat.lt_of_lt_of_le h.2.1 hb.size, (hb.cell (p := ⟨w.heap.size, 0, none⟩) h.2.1).trans h.2.2.1, (hb.cell (p := ⟨w.heap.size, 1, none⟩) h.2.1).trans h.2.2.2⟩
theorem Bs.start (w : World) (r c : Int) (t : TypeId) : Bs w (w.alloc (.cells #[.int .i64 r, .int .i64 c] t)) r c :=
  ⟨(Below.refl _ _).alloc (Nat.le_refl _) _, by simp, (cell_of_row _ _ _ _ _ _ (heap_alloc_new w _)).trans rfl, (cell_of_row _ _ _ _ _ _ (heap_alloc_new w _)).trans rfl⟩
theorem Bs.drew {w wr : World} {r c : Int} (h : Bs w wr r c) : Bs w wr.drew r c := h.later (Below.refl _ _).drew
set_option maxHeartbeats 8000000 in
theorem checks_any (who : Int) (r c : Int) (ad : Option Addr) (cap : Nat) (l : List Bst) (w : World) (hl : StepsAt w ad l) (hn : l.length ≤ 1000) (hc : l.length ≤ cap) :
    Calls Try.prog 53 #[.agg #[.int .i64 r, .int .i64 c], .slice ad l.length cap, .int .i64 who] w fun e w' => e = .returned (.bool (Bud.checks r l who)) ∧ Below w.heap.size w w' := by
  obtain ⟨n, hnn⟩ : ∃ n, n = l.length := ⟨_, rfl⟩
  rw [← hnn]
  have HIT : Hid (∀ W sec, Below w.heap.size w W → Calls Try.prog 52 #[.agg #[.int .i64 r, .int .i64 c], .slice ad n cap, .int .i64 who, .int .i64 sec] W fun e w' => e = .returned (.bool (Bud.hit r l who sec)) ∧ Below W.heap.size W w') := Lib.hid (fun W sec hb => by rw [hnn]; exact hit_any r c who sec ad cap l W (hl.later hb) hn hc)
  clear hl hn hc hnn
  go_enter Try.func53, Try.ntmps53
  go_wp2_with fail
  go_loopw [7] (fun iv wr => ∃ j : Nat, j ≤ 12 ∧ iv = .int .i64 ((20 + j : Nat) : Int) ∧ (∀ i : Nat, i < j → Bud.hit r l who ((20 + i : Nat) : Int) = false) ∧ Bs w wr r c) (fun iv _ => 32 - (intOf iv).toNat)
  case atStart => exact ⟨0, by omega, rfl, fun i hi => absurd hi (by omega), Bs.start _ _ _ _⟩
  case round =>
    obtain ⟨j, hj, rfl, hf, hB⟩ := hrel
    obtain ⟨s0, s1⟩ := hB.2.2
    have HF := Lib.hid hf
    clear hf
    by_cases hlt : j < 12
    · have hh := HIT.out wr ((20 + j : Nat) : Int) hB.1
      obtain ⟨hv, hhv⟩ : ∃ v, v = Bud.hit r l who ((20 + j : Nat) : Int) := ⟨_, rfl⟩
      rw [← hhv] at hh
      have HH := Lib.hid hh
      clear hh
      cases hv with
      | false =>
        have HN : Hid (∀ i : Nat, i < j + 1 → Bud.hit r l who ((20 + i : Nat) : Int) = false) := Lib.hid (fun i hi => by
          by_cases q : i = j
          · subst q; exact hhv.symm
          · exact HF.out i (by omega))
        clear hhv
        go_wp2_with fail
        refine (HH.out).mono ?_
        rintro e w8 ⟨rfl, hb8⟩
        go_wp2_with fail
        go_roundw
        case rel => exact ⟨j + 1, by omega, by go_num, HN.out, hB.later hb8⟩
        case measure => simp [intOf]; omega
      | true =>
        have HY : Hid (true = Bud.checks r l who) := Lib.hid (by
          symm
          obtain ⟨x, h1, h2, h3, h4⟩ := (Bud.hit_iff _ _ _ _).1 hhv.symm
          exact (Bud.checks_iff _ _ _).2 ⟨x, h1, h2, h3, by omega⟩)
        clear hhv
        go_wp2_with fail
        refine (HH.out).mono ?_
        rintro e w8 ⟨rfl, hb8⟩
        go_wp2_with fail
        go_ret
        exact ⟨ret_bool HY.out, (hB.later hb8).1⟩
    · obtain rfl : j = 12 := by omega
      have HY : Hid (false = Bud.checks r l who) := Lib.hid (by
        symm
        cases hq : Bud.checks r l who
        · rfl
        · obtain ⟨x, h1, h2, h3, h4⟩ := (Bud.checks_iff _ _ _).1 hq
          have hr := (Bud.rot_iff _ _).1 h2
          have := HF.out (x.n - 20).toNat (by omega)
          rw [(Bud.hit_iff _ _ _ _).2 ⟨x, h1, h2, h3, by omega⟩] at this
          exact absurd this (by decide))
      go_wp2_with fail
      go_ret
      exact ⟨ret_bool HY.out, hB.1⟩
set_option maxRecDepth 100000 in
set_option maxHeartbeats 20000000 in
theorem rrots_any (r c : Int) (ad : Option Addr) (cap : Nat) (l : List Bst) (w : World) (hl : StepsAt w ad l) (hn : l.length ≤ 1000) (hc : l.length ≤ cap) :
    Calls Try.prog 30 #[.agg #[.int .i64 r, .int .i64 c], .slice ad l.length cap] w fun e w' => e = .returned (.bool (Bud.rots r c l)) ∧ Below w.heap.size w w' := by
  have HL := Lib.hid hl
  obtain ⟨n, hnn⟩ : ∃ n, n = l.length := ⟨_, rfl⟩
  have HNN := Lib.hid hnn
  rw [← hnn] at hn hc ⊢
  obtain ⟨mb, hmb⟩ : ∃ mb, mb = Bud.may r c := ⟨_, rfl⟩
  have HMAY : Hid (∀ W, Calls Try.prog 51 #[.agg #[.int .i64 r, .int .i64 c]] W fun e w' => e = .returned (.bool mb) ∧ Below W.heap.size W w') := Lib.hid (fun W => by rw [hmb]; exact rmay_any r c W)
  have HMB := Lib.hid hmb
  clear hl hnn hmb
  go_enter Try.func30, Try.ntmps30
  go_wp2_with fail
  go_loopw [5] (fun iv wr => ∃ j : Nat, j ≤ n ∧ iv = .int .i64 j ∧ (mb && (l.take j).any (Bud.rot r)) = false ∧ Bs w wr r c) (fun iv _ => n - (intOf iv).toNat)
  case atStart => exact ⟨0, by omega, rfl, by simp, Bs.start _ _ _ _⟩
  case round =>
    obtain ⟨j, hj, rfl, hf, hB⟩ := hrel
    obtain ⟨s0, s1⟩ := hB.2.2
    by_cases hlt : j < n
    · obtain ⟨x, hx⟩ : ∃ x, l[j]? = some x := ⟨l[j]'(by rw [← HNN.out]; exact hlt), List.getElem?_eq_getElem _⟩
      obtain ⟨b, off, rfl, hbw, hcc⟩ := (HL.out.later hB.1) j x hx
      obtain ⟨k, wh, p, nn, a, m, oo, bb, q, uu, vv⟩ := x
      have c0 := hcc 0 _ rfl
      have c1 := hcc 1 _ rfl
      have c2 := hcc 2 _ rfl
      have c3 := hcc 3 _ rfl
      have c4 := hcc 4 _ rfl
      have c5 := hcc 5 _ rfl
      have c6 := hcc 6 _ rfl
      have c7 := hcc 7 _ rfl
      have c8 := hcc 8 _ rfl
      rw [Nat.add_zero] at c0
      have HX := Lib.hid hx
      have HF := Lib.hid hf
      clear hcc hx hf HL
      cases mb with
      | false =>
        have HN : Hid ((false && (l.take (j + 1)).any (Bud.rot r)) = false) := Lib.hid (by simp)
        go_wp2_with fail
        refine wp_region_noPanic ?_
        refine wp_region_held_drew (S := fun W => Below wr.heap.size wr W) (by kernel_rfl) (show Below wr.heap.size wr wr.drew from (Below.refl _ _).drew) (fun hHeld => ?_)
        have hsz0 := hHeld.size
        generalize wr.drew = w7 at *
        refine wpAnyH_take (i := 0) (oi := { dst := some 12, op := _, type := _, pos := _, after := _, guard := _ }) (v := ?_) rfl (by kernel_rfl) (by kernel_rfl) (by kernel_rfl) (fun _ _ _ h => h) (Or.inl ⟨by rfl, ?_⟩) hHeld ?_
        rotate_left
        · intro W hSw
          have e0 := (Below.cell hSw (cell_lt s0)).trans s0
          have e1 := (Below.cell hSw (cell_lt s1)).trans s1
          have d0 := (Below.cell hSw (cell_lt c0)).trans c0
          have d1 := (Below.cell hSw (cell_lt c1)).trans c1
          have d2 := (Below.cell hSw (cell_lt c2)).trans c2
          have d3 := (Below.cell hSw (cell_lt c3)).trans c3
          have d4 := (Below.cell hSw (cell_lt c4)).trans c4
          have d5 := (Below.cell hSw (cell_lt c5)).trans c5
          have d6 := (Below.cell hSw (cell_lt c6)).trans c6
          have d7 := (Below.cell hSw (cell_lt c7)).trans c7
          have d8 := (Below.cell hSw (cell_lt c8)).trans c8
          go_simp
          first | done | rfl
        try simp only [Act.put, List.setIfInBounds_toArray, List.set_cons_zero, List.set_cons_succ]
        refine wpAnyH_ready (rs := [1]) (by kernel_rfl) (by simp) ?_
        refine AllReadyH.cons (o := { dst := some 13, op := _, type := _, pos := _, after := _, guard := _ }) rfl (fun K hK => ?_) AllReadyH.nil
        go_simp
        refine (HMAY.out _).mono ?_
        rintro e w8 ⟨rfl, hb8⟩
        have hB8 := hHeld.trans (hb8.mono hHeld.size)
        have hsz8 := hB8.size
        clear hb8
        refine hK.out _ _ hB8 (fun _ => ?_)
        clear hK K
        try simp only [Act.put, List.setIfInBounds_toArray, List.set_cons_zero, List.set_cons_succ]
        refine wpAnyH_take (i := 2) (oi := { dst := some 14, op := _, type := _, pos := _, after := _, guard := _ }) (v := ?_) rfl (by kernel_rfl) (by kernel_rfl) (by kernel_rfl) (fun _ _ _ h => h) (Or.inl ⟨by rfl, ?_⟩) hB8 ?_
        rotate_left
        · intro W hSw
          have e0 := (Below.cell hSw (cell_lt s0)).trans s0
          have e1 := (Below.cell hSw (cell_lt s1)).trans s1
          have d0 := (Below.cell hSw (cell_lt c0)).trans c0
          have d1 := (Below.cell hSw (cell_lt c1)).trans c1
          have d2 := (Below.cell hSw (cell_lt c2)).trans c2
          have d3 := (Below.cell hSw (cell_lt c3)).trans c3
          have d4 := (Below.cell hSw (cell_lt c4)).trans c4
          have d5 := (Below.cell hSw (cell_lt c5)).trans c5
          have d6 := (Below.cell hSw (cell_lt c6)).trans c6
          have d7 := (Below.cell hSw (cell_lt c7)).trans c7
          have d8 := (Below.cell hSw (cell_lt c8)).trans c8
          go_simp
          first | done | rfl
        try simp only [Act.put, List.setIfInBounds_toArray, List.set_cons_zero, List.set_cons_succ]
        refine wpAnyH_take (i := 3) (oi := { dst := some 15, op := _, type := _, pos := _, after := _, guard := _ }) (v := undef) rfl (by kernel_rfl) (by kernel_rfl) (by kernel_rfl) (fun _ _ _ h => h) (Or.inr ⟨by rfl, rfl⟩) hB8 ?_
        try simp only [Act.put, List.setIfInBounds_toArray, List.set_cons_zero, List.set_cons_succ]
        refine wpAnyH_take (i := 4) (oi := { dst := some 16, op := _, type := _, pos := _, after := _, guard := _ }) (v := undef) rfl (by kernel_rfl) (by kernel_rfl) (by kernel_rfl) (fun _ _ _ h => h) (Or.inr ⟨by rfl, rfl⟩) hB8 ?_
        try simp only [Act.put, List.setIfInBounds_toArray, List.set_cons_zero, List.set_cons_succ]
        refine wpAnyH_take (i := 5) (oi := { dst := some 17, op := _, type := _, pos := _, after := _, guard := _ }) (v := undef) rfl (by kernel_rfl) (by kernel_rfl) (by kernel_rfl) (fun _ _ _ h => h) (Or.inr ⟨by rfl, rfl⟩) hB8 ?_
        try simp only [Act.put, List.setIfInBounds_toArray, List.set_cons_zero, List.set_cons_succ]
        refine wpAnyH_take (i := 6) (oi := { dst := some 18, op := _, type := _, pos := _, after := _, guard := _ }) (v := undef) rfl (by kernel_rfl) (by kernel_rfl) (by kernel_rfl) (fun _ _ _ h => h) (Or.inr ⟨by rfl, rfl⟩) hB8 ?_
        try simp only [Act.put, List.setIfInBounds_toArray, List.set_cons_zero, List.set_cons_succ]
        refine wpAnyH_take (i := 7) (oi := { dst := some 19, op := _, type := _, pos := _, after := _, guard := _ }) (v := undef) rfl (by kernel_rfl) (by kernel_rfl) (by kernel_rfl) (fun _ _ _ h => h) (Or.inr ⟨by rfl, rfl⟩) hB8 ?_
        try simp only [Act.put, List.setIfInBounds_toArray, List.set_cons_zero, List.set_cons_succ]
        refine wpAnyH_take (i := 8) (oi := { dst := some 20, op := _, type := _, pos := _, after := _, guard := _ }) (v := undef) rfl (by kernel_rfl) (by kernel_rfl) (by kernel_rfl) (fun _ _ _ h => h) (Or.inr ⟨by rfl, rfl⟩) hB8 ?_
        try simp only [Act.put, List.setIfInBounds_toArray, List.set_cons_zero, List.set_cons_succ]
        refine wpAnyH_take (i := 9) (oi := { dst := some 21, op := _, type := _, pos := _, after := _, guard := _ }) (v := ?_) rfl (by kernel_rfl) (by kernel_rfl) (by kernel_rfl) (fun _ _ _ h => h) (Or.inl ⟨by rfl, ?_⟩) hB8 ?_
        rotate_left
        · intro W hSw
          have e0 := (Below.cell hSw (cell_lt s0)).trans s0
          have e1 := (Below.cell hSw (cell_lt s1)).trans s1
          have d0 := (Below.cell hSw (cell_lt c0)).trans c0
          have d1 := (Below.cell hSw (cell_lt c1)).trans c1
          have d2 := (Below.cell hSw (cell_lt c2)).trans c2
          have d3 := (Below.cell hSw (cell_lt c3)).trans c3
          have d4 := (Below.cell hSw (cell_lt c4)).trans c4
          have d5 := (Below.cell hSw (cell_lt c5)).trans c5
          have d6 := (Below.cell hSw (cell_lt c6)).trans c6
          have d7 := (Below.cell hSw (cell_lt c7)).trans c7
          have d8 := (Below.cell hSw (cell_lt c8)).trans c8
          go_simp
          first | done | rfl
        try simp only [Act.put, List.setIfInBounds_toArray, List.set_cons_zero, List.set_cons_succ]
        refine wpAnyH_done (by kernel_rfl) ?_ _
        refine NoPanic.normal ?_
        go_wp2_with fail
        go_roundw
        case rel => exact ⟨j + 1, by omega, by go_num, HN.out, hB.later hB8⟩
        case measure => simp [intOf]; omega
      | true =>
        obtain ⟨rb, hrb⟩ : ∃ rb, rb = Bud.rot r ⟨k, wh, p, nn, a, m, oo, bb, q, uu, vv⟩ := ⟨_, rfl⟩
        have HROT : Hid (∀ W, Calls Try.prog 54 #[.agg #[.int .i64 r, .int .i64 c], .agg #[.int .i64 k, .int .i64 wh, .int .i64 p, .int .i64 nn, .int .i64 a, .int .i64 m, .int .i64 oo, .string bb, .slice q uu vv]] W fun e w' => e = .returned (.bool rb) ∧ Below W.heap.size W w') := Lib.hid (fun W => by rw [hrb]; exact rrot_any r c k wh p nn a m oo bb q uu vv W)
        cases rb with
        | false =>
          have HN : Hid ((true && (l.take (j + 1)).any (Bud.rot r)) = false) := Lib.hid (by rw [take_snoc HX.out, List.any_append, Bool.and_or_distrib_left, HF.out]; simp [← hrb])
          clear hrb
          go_wp2_with fail
          refine wp_region_noPanic ?_
          refine wp_region_held_drew (S := fun W => Below wr.heap.size wr W) (by kernel_rfl) (show Below wr.heap.size wr wr.drew from (Below.refl _ _).drew) (fun hHeld => ?_)
          have hsz0 := hHeld.size
          generalize wr.drew = w7 at *
          refine wpAnyH_take (i := 0) (oi := { dst := some 12, op := _, type := _, pos := _, after := _, guard := _ }) (v := ?_) rfl (by kernel_rfl) (by kernel_rfl) (by kernel_rfl) (fun _ _ _ h => h) (Or.inl ⟨by rfl, ?_⟩) hHeld ?_
          rotate_left
          · intro W hSw
            have e0 := (Below.cell hSw (cell_lt s0)).trans s0
            have e1 := (Below.cell hSw (cell_lt s1)).trans s1
            have d0 := (Below.cell hSw (cell_lt c0)).trans c0
            have d1 := (Below.cell hSw (cell_lt c1)).trans c1
            have d2 := (Below.cell hSw (cell_lt c2)).trans c2
            have d3 := (Below.cell hSw (cell_lt c3)).trans c3
            have d4 := (Below.cell hSw (cell_lt c4)).trans c4
            have d5 := (Below.cell hSw (cell_lt c5)).trans c5
            have d6 := (Below.cell hSw (cell_lt c6)).trans c6
            have d7 := (Below.cell hSw (cell_lt c7)).trans c7
            have d8 := (Below.cell hSw (cell_lt c8)).trans c8
            go_simp
            first | done | rfl
          try simp only [Act.put, List.setIfInBounds_toArray, List.set_cons_zero, List.set_cons_succ]
          refine wpAnyH_ready (rs := [1]) (by kernel_rfl) (by simp) ?_
          refine AllReadyH.cons (o := { dst := some 13, op := _, type := _, pos := _, after := _, guard := _ }) rfl (fun K hK => ?_) AllReadyH.nil
          go_simp
          refine (HMAY.out _).mono ?_
          rintro e w8 ⟨rfl, hb8⟩
          have hB8 := hHeld.trans (hb8.mono hHeld.size)
          have hsz8 := hB8.size
          clear hb8
          refine hK.out _ _ hB8 (fun _ => ?_)
          clear hK K
          try simp only [Act.put, List.setIfInBounds_toArray, List.set_cons_zero, List.set_cons_succ]
          refine wpAnyH_take (i := 2) (oi := { dst := some 14, op := _, type := _, pos := _, after := _, guard := _ }) (v := ?_) rfl (by kernel_rfl) (by kernel_rfl) (by kernel_rfl) (fun _ _ _ h => h) (Or.inl ⟨by rfl, ?_⟩) hB8 ?_
          rotate_left
          · intro W hSw
            have e0 := (Below.cell hSw (cell_lt s0)).trans s0
            have e1 := (Below.cell hSw (cell_lt s1)).trans s1
            have d0 := (Below.cell hSw (cell_lt c0)).trans c0
            have d1 := (Below.cell hSw (cell_lt c1)).trans c1
            have d2 := (Below.cell hSw (cell_lt c2)).trans c2
            have d3 := (Below.cell hSw (cell_lt c3)).trans c3
            have d4 := (Below.cell hSw (cell_lt c4)).trans c4
            have d5 := (Below.cell hSw (cell_lt c5)).trans c5
            have d6 := (Below.cell hSw (cell_lt c6)).trans c6
            have d7 := (Below.cell hSw (cell_lt c7)).trans c7
            have d8 := (Below.cell hSw (cell_lt c8)).trans c8
            go_simp
            first | done | rfl
          try simp only [Act.put, List.setIfInBounds_toArray, List.set_cons_zero, List.set_cons_succ]
          refine wpAnyH_take (i := 3) (oi := { dst := some 15, op := _, type := _, pos := _, after := _, guard := _ }) (v := ?_) rfl (by kernel_rfl) (by kernel_rfl) (by kernel_rfl) (fun _ _ _ h => h) (Or.inl ⟨by rfl, ?_⟩) hB8 ?_
          rotate_left
          · intro W hSw
            have e0 := (Below.cell hSw (cell_lt s0)).trans s0
            have e1 := (Below.cell hSw (cell_lt s1)).trans s1
            have d0 := (Below.cell hSw (cell_lt c0)).trans c0
            have d1 := (Below.cell hSw (cell_lt c1)).trans c1
            have d2 := (Below.cell hSw (cell_lt c2)).trans c2
            have d3 := (Below.cell hSw (cell_lt c3)).trans c3
            have d4 := (Below.cell hSw (cell_lt c4)).trans c4
            have d5 := (Below.cell hSw (cell_lt c5)).trans c5
            have d6 := (Below.cell hSw (cell_lt c6)).trans c6
            have d7 := (Below.cell hSw (cell_lt c7)).trans c7
            have d8 := (Below.cell hSw (cell_lt c8)).trans c8
            go_simp
            first | done | rfl
          try simp only [Act.put, List.setIfInBounds_toArray, List.set_cons_zero, List.set_cons_succ]
          refine wpAnyH_take (i := 4) (oi := { dst := some 16, op := _, type := _, pos := _, after := _, guard := _ }) (v := ?_) rfl (by kernel_rfl) (by kernel_rfl) (by kernel_rfl) (fun _ _ _ h => h) (Or.inl ⟨by rfl, ?_⟩) hB8 ?_
          rotate_left
          · intro W hSw
            have e0 := (Below.cell hSw (cell_lt s0)).trans s0
            have e1 := (Below.cell hSw (cell_lt s1)).trans s1
            have d0 := (Below.cell hSw (cell_lt c0)).trans c0
            have d1 := (Below.cell hSw (cell_lt c1)).trans c1
            have d2 := (Below.cell hSw (cell_lt c2)).trans c2
            have d3 := (Below.cell hSw (cell_lt c3)).trans c3
            have d4 := (Below.cell hSw (cell_lt c4)).trans c4
            have d5 := (Below.cell hSw (cell_lt c5)).trans c5
            have d6 := (Below.cell hSw (cell_lt c6)).trans c6
            have d7 := (Below.cell hSw (cell_lt c7)).trans c7
            have d8 := (Below.cell hSw (cell_lt c8)).trans c8
            go_simp
            first | done | rfl
          try simp only [Act.put, List.setIfInBounds_toArray, List.set_cons_zero, List.set_cons_succ]
          refine wpAnyH_take (i := 5) (oi := { dst := some 17, op := _, type := _, pos := _, after := _, guard := _ }) (v := ?_) rfl (by kernel_rfl) (by kernel_rfl) (by kernel_rfl) (fun _ _ _ h => h) (Or.inl ⟨by rfl, ?_⟩) hB8 ?_
          rotate_left
          · intro W hSw
            have e0 := (Below.cell hSw (cell_lt s0)).trans s0
            have e1 := (Below.cell hSw (cell_lt s1)).trans s1
            have d0 := (Below.cell hSw (cell_lt c0)).trans c0
            have d1 := (Below.cell hSw (cell_lt c1)).trans c1
            have d2 := (Below.cell hSw (cell_lt c2)).trans c2
            have d3 := (Below.cell hSw (cell_lt c3)).trans c3
            have d4 := (Below.cell hSw (cell_lt c4)).trans c4
            have d5 := (Below.cell hSw (cell_lt c5)).trans c5
            have d6 := (Below.cell hSw (cell_lt c6)).trans c6
            have d7 := (Below.cell hSw (cell_lt c7)).trans c7
            have d8 := (Below.cell hSw (cell_lt c8)).trans c8
            go_simp
            first | done | rfl
          try simp only [Act.put, List.setIfInBounds_toArray, List.set_cons_zero, List.set_cons_succ]
          refine wpAnyH_take (i := 6) (oi := { dst := some 18, op := _, type := _, pos := _, after := _, guard := _ }) (v := ?_) rfl (by kernel_rfl) (by kernel_rfl) (by kernel_rfl) (fun _ _ _ h => h) (Or.inl ⟨by rfl, ?_⟩) hB8 ?_
          rotate_left
          · intro W hSw
            have e0 := (Below.cell hSw (cell_lt s0)).trans s0
            have e1 := (Below.cell hSw (cell_lt s1)).trans s1
            have d0 := (Below.cell hSw (cell_lt c0)).trans c0
            have d1 := (Below.cell hSw (cell_lt c1)).trans c1
            have d2 := (Below.cell hSw (cell_lt c2)).trans c2
            have d3 := (Below.cell hSw (cell_lt c3)).trans c3
            have d4 := (Below.cell hSw (cell_lt c4)).trans c4
            have d5 := (Below.cell hSw (cell_lt c5)).trans c5
            have d6 := (Below.cell hSw (cell_lt c6)).trans c6
            have d7 := (Below.cell hSw (cell_lt c7)).trans c7
            have d8 := (Below.cell hSw (cell_lt c8)).trans c8
            go_simp
            first | done | rfl
          try simp only [Act.put, List.setIfInBounds_toArray, List.set_cons_zero, List.set_cons_succ]
          refine wpAnyH_take (i := 7) (oi := { dst := some 19, op := _, type := _, pos := _, after := _, guard := _ }) (v := ?_) rfl (by kernel_rfl) (by kernel_rfl) (by kernel_rfl) (fun _ _ _ h => h) (Or.inl ⟨by rfl, ?_⟩) hB8 ?_
          rotate_left
          · intro W hSw
            have e0 := (Below.cell hSw (cell_lt s0)).trans s0
            have e1 := (Below.cell hSw (cell_lt s1)).trans s1
            have d0 := (Below.cell hSw (cell_lt c0)).trans c0
            have d1 := (Below.cell hSw (cell_lt c1)).trans c1
            have d2 := (Below.cell hSw (cell_lt c2)).trans c2
            have d3 := (Below.cell hSw (cell_lt c3)).trans c3
            have d4 := (Below.cell hSw (cell_lt c4)).trans c4
            have d5 := (Below.cell hSw (cell_lt c5)).trans c5
            have d6 := (Below.cell hSw (cell_lt c6)).trans c6
            have d7 := (Below.cell hSw (cell_lt c7)).trans c7
            have d8 := (Below.cell hSw (cell_lt c8)).trans c8
            go_simp
            first | done | rfl
          try simp only [Act.put, List.setIfInBounds_toArray, List.set_cons_zero, List.set_cons_succ]
          refine wpAnyH_ready (rs := [8]) (by kernel_rfl) (by simp) ?_
          refine AllReadyH.cons (o := { dst := some 20, op := _, type := _, pos := _, after := _, guard := _ }) rfl (fun K hK => ?_) AllReadyH.nil
          go_simp
          refine (HROT.out _).mono ?_
          rintro e w9 ⟨rfl, hb9⟩
          have hB9 := hB8.trans (hb9.mono hB8.size)
          clear hb9
          refine hK.out _ _ hB9 (fun _ => ?_)
          clear hK K
          try simp only [Act.put, List.setIfInBounds_toArray, List.set_cons_zero, List.set_cons_succ]
          refine wpAnyH_take (i := 9) (oi := { dst := some 21, op := _, type := _, pos := _, after := _, guard := _ }) (v := ?_) rfl (by kernel_rfl) (by kernel_rfl) (by kernel_rfl) (fun _ _ _ h => h) (Or.inl ⟨by rfl, ?_⟩) hB9 ?_
          rotate_left
          · intro W hSw
            have e0 := (Below.cell hSw (cell_lt s0)).trans s0
            have e1 := (Below.cell hSw (cell_lt s1)).trans s1
            have d0 := (Below.cell hSw (cell_lt c0)).trans c0
            have d1 := (Below.cell hSw (cell_lt c1)).trans c1
            have d2 := (Below.cell hSw (cell_lt c2)).trans c2
            have d3 := (Below.cell hSw (cell_lt c3)).trans c3
            have d4 := (Below.cell hSw (cell_lt c4)).trans c4
            have d5 := (Below.cell hSw (cell_lt c5)).trans c5
            have d6 := (Below.cell hSw (cell_lt c6)).trans c6
            have d7 := (Below.cell hSw (cell_lt c7)).trans c7
            have d8 := (Below.cell hSw (cell_lt c8)).trans c8
            go_simp
            first | done | rfl
          try simp only [Act.put, List.setIfInBounds_toArray, List.set_cons_zero, List.set_cons_succ]
          refine wpAnyH_done (by kernel_rfl) ?_ _
          refine NoPanic.normal ?_
          go_wp2_with fail
          go_roundw
          case rel => exact ⟨j + 1, by omega, by go_num, HN.out, hB.later hB9⟩
          case measure => simp [intOf]; omega
        | true =>
          have HY : Hid (true = Bud.rots r c l) := Lib.hid (by
            unfold Bud.rots
            rw [← HMB.out]
            symm
            exact List.any_eq_true.2 ⟨_, List.mem_of_getElem? HX.out, hrb.symm⟩)
          clear hrb
          go_wp2_with fail
          refine wp_region_noPanic ?_
          refine wp_region_held_drew (S := fun W => Below wr.heap.size wr W) (by kernel_rfl) (show Below wr.heap.size wr wr.drew from (Below.refl _ _).drew) (fun hHeld => ?_)
          have hsz0 := hHeld.size
          generalize wr.drew = w7 at *
          refine wpAnyH_take (i := 0) (oi := { dst := some 12, op := _, type := _, pos := _, after := _, guard := _ }) (v := ?_) rfl (by kernel_rfl) (by kernel_rfl) (by kernel_rfl) (fun _ _ _ h => h) (Or.inl ⟨by rfl, ?_⟩) hHeld ?_
          rotate_left
          · intro W hSw
            have e0 := (Below.cell hSw (cell_lt s0)).trans s0
            have e1 := (Below.cell hSw (cell_lt s1)).trans s1
            have d0 := (Below.cell hSw (cell_lt c0)).trans c0
            have d1 := (Below.cell hSw (cell_lt c1)).trans c1
            have d2 := (Below.cell hSw (cell_lt c2)).trans c2
            have d3 := (Below.cell hSw (cell_lt c3)).trans c3
            have d4 := (Below.cell hSw (cell_lt c4)).trans c4
            have d5 := (Below.cell hSw (cell_lt c5)).trans c5
            have d6 := (Below.cell hSw (cell_lt c6)).trans c6
            have d7 := (Below.cell hSw (cell_lt c7)).trans c7
            have d8 := (Below.cell hSw (cell_lt c8)).trans c8
            go_simp
            first | done | rfl
          try simp only [Act.put, List.setIfInBounds_toArray, List.set_cons_zero, List.set_cons_succ]
          refine wpAnyH_ready (rs := [1]) (by kernel_rfl) (by simp) ?_
          refine AllReadyH.cons (o := { dst := some 13, op := _, type := _, pos := _, after := _, guard := _ }) rfl (fun K hK => ?_) AllReadyH.nil
          go_simp
          refine (HMAY.out _).mono ?_
          rintro e w8 ⟨rfl, hb8⟩
          have hB8 := hHeld.trans (hb8.mono hHeld.size)
          have hsz8 := hB8.size
          clear hb8
          refine hK.out _ _ hB8 (fun _ => ?_)
          clear hK K
          try simp only [Act.put, List.setIfInBounds_toArray, List.set_cons_zero, List.set_cons_succ]
          refine wpAnyH_take (i := 2) (oi := { dst := some 14, op := _, type := _, pos := _, after := _, guard := _ }) (v := ?_) rfl (by kernel_rfl) (by kernel_rfl) (by kernel_rfl) (fun _ _ _ h => h) (Or.inl ⟨by rfl, ?_⟩) hB8 ?_
          rotate_left
          · intro W hSw
            have e0 := (Below.cell hSw (cell_lt s0)).trans s0
            have e1 := (Below.cell hSw (cell_lt s1)).trans s1
            have d0 := (Below.cell hSw (cell_lt c0)).trans c0
            have d1 := (Below.cell hSw (cell_lt c1)).trans c1
            have d2 := (Below.cell hSw (cell_lt c2)).trans c2
            have d3 := (Below.cell hSw (cell_lt c3)).trans c3
            have d4 := (Below.cell hSw (cell_lt c4)).trans c4
            have d5 := (Below.cell hSw (cell_lt c5)).trans c5
            have d6 := (Below.cell hSw (cell_lt c6)).trans c6
            have d7 := (Below.cell hSw (cell_lt c7)).trans c7
            have d8 := (Below.cell hSw (cell_lt c8)).trans c8
            go_simp
            first | done | rfl
          try simp only [Act.put, List.setIfInBounds_toArray, List.set_cons_zero, List.set_cons_succ]
          refine wpAnyH_take (i := 3) (oi := { dst := some 15, op := _, type := _, pos := _, after := _, guard := _ }) (v := ?_) rfl (by kernel_rfl) (by kernel_rfl) (by kernel_rfl) (fun _ _ _ h => h) (Or.inl ⟨by rfl, ?_⟩) hB8 ?_
          rotate_left
          · intro W hSw
            have e0 := (Below.cell hSw (cell_lt s0)).trans s0
            have e1 := (Below.cell hSw (cell_lt s1)).trans s1
            have d0 := (Below.cell hSw (cell_lt c0)).trans c0
            have d1 := (Below.cell hSw (cell_lt c1)).trans c1
            have d2 := (Below.cell hSw (cell_lt c2)).trans c2
            have d3 := (Below.cell hSw (cell_lt c3)).trans c3
            have d4 := (Below.cell hSw (cell_lt c4)).trans c4
            have d5 := (Below.cell hSw (cell_lt c5)).trans c5
            have d6 := (Below.cell hSw (cell_lt c6)).trans c6
            have d7 := (Below.cell hSw (cell_lt c7)).trans c7
            have d8 := (Below.cell hSw (cell_lt c8)).trans c8
            go_simp
            first | done | rfl
          try simp only [Act.put, List.setIfInBounds_toArray, List.set_cons_zero, List.set_cons_succ]
          refine wpAnyH_take (i := 4) (oi := { dst := some 16, op := _, type := _, pos := _, after := _, guard := _ }) (v := ?_) rfl (by kernel_rfl) (by kernel_rfl) (by kernel_rfl) (fun _ _ _ h => h) (Or.inl ⟨by rfl, ?_⟩) hB8 ?_
          rotate_left
          · intro W hSw
            have e0 := (Below.cell hSw (cell_lt s0)).trans s0
            have e1 := (Below.cell hSw (cell_lt s1)).trans s1
            have d0 := (Below.cell hSw (cell_lt c0)).trans c0
            have d1 := (Below.cell hSw (cell_lt c1)).trans c1
            have d2 := (Below.cell hSw (cell_lt c2)).trans c2
            have d3 := (Below.cell hSw (cell_lt c3)).trans c3
            have d4 := (Below.cell hSw (cell_lt c4)).trans c4
            have d5 := (Below.cell hSw (cell_lt c5)).trans c5
            have d6 := (Below.cell hSw (cell_lt c6)).trans c6
            have d7 := (Below.cell hSw (cell_lt c7)).trans c7
            have d8 := (Below.cell hSw (cell_lt c8)).trans c8
            go_simp
            first | done | rfl
          try simp only [Act.put, List.setIfInBounds_toArray, List.set_cons_zero, List.set_cons_succ]
          refine wpAnyH_take (i := 5) (oi := { dst := some 17, op := _, type := _, pos := _, after := _, guard := _ }) (v := ?_) rfl (by kernel_rfl) (by kernel_rfl) (by kernel_rfl) (fun _ _ _ h => h) (Or.inl ⟨by rfl, ?_⟩) hB8 ?_
          rotate_left
          · intro W hSw
            have e0 := (Below.cell hSw (cell_lt s0)).trans s0
            have e1 := (Below.cell hSw (cell_lt s1)).trans s1
            have d0 := (Below.cell hSw (cell_lt c0)).trans c0
            have d1 := (Below.cell hSw (cell_lt c1)).trans c1
            have d2 := (Below.cell hSw (cell_lt c2)).trans c2
            have d3 := (Below.cell hSw (cell_lt c3)).trans c3
            have d4 := (Below.cell hSw (cell_lt c4)).trans c4
            have d5 := (Below.cell hSw (cell_lt c5)).trans c5
            have d6 := (Below.cell hSw (cell_lt c6)).trans c6
            have d7 := (Below.cell hSw (cell_lt c7)).trans c7
            have d8 := (Below.cell hSw (cell_lt c8)).trans c8
            go_simp
            first | done | rfl
          try simp only [Act.put, List.setIfInBounds_toArray, List.set_cons_zero, List.set_cons_succ]
          refine wpAnyH_take (i := 6) (oi := { dst := some 18, op := _, type := _, pos := _, after := _, guard := _ }) (v := ?_) rfl (by kernel_rfl) (by kernel_rfl) (by kernel_rfl) (fun _ _ _ h => h) (Or.inl ⟨by rfl, ?_⟩) hB8 ?_
          rotate_left
          · intro W hSw
            have e0 := (Below.cell hSw (cell_lt s0)).trans s0
            have e1 := (Below.cell hSw (cell_lt s1)).trans s1
            have d0 := (Below.cell hSw (cell_lt c0)).trans c0
            have d1 := (Below.cell hSw (cell_lt c1)).trans c1
            have d2 := (Below.cell hSw (cell_lt c2)).trans c2
            have d3 := (Below.cell hSw (cell_lt c3)).trans c3
            have d4 := (Below.cell hSw (cell_lt c4)).trans c4
            have d5 := (Below.cell hSw (cell_lt c5)).trans c5
            have d6 := (Below.cell hSw (cell_lt c6)).trans c6
            have d7 := (Below.cell hSw (cell_lt c7)).trans c7
            have d8 := (Below.cell hSw (cell_lt c8)).trans c8
            go_simp
            first | done | rfl
          try simp only [Act.put, List.setIfInBounds_toArray, List.set_cons_zero, List.set_cons_succ]
          refine wpAnyH_take (i := 7) (oi := { dst := some 19, op := _, type := _, pos := _, after := _, guard := _ }) (v := ?_) rfl (by kernel_rfl) (by kernel_rfl) (by kernel_rfl) (fun _ _ _ h => h) (Or.inl ⟨by rfl, ?_⟩) hB8 ?_
          rotate_left
          · intro W hSw
            have e0 := (Below.cell hSw (cell_lt s0)).trans s0
            have e1 := (Below.cell hSw (cell_lt s1)).trans s1
            have d0 := (Below.cell hSw (cell_lt c0)).trans c0
            have d1 := (Below.cell hSw (cell_lt c1)).trans c1
            have d2 := (Below.cell hSw (cell_lt c2)).trans c2
            have d3 := (Below.cell hSw (cell_lt c3)).trans c3
            have d4 := (Below.cell hSw (cell_lt c4)).trans c4
            have d5 := (Below.cell hSw (cell_lt c5)).trans c5
            have d6 := (Below.cell hSw (cell_lt c6)).trans c6
            have d7 := (Below.cell hSw (cell_lt c7)).trans c7
            have d8 := (Below.cell hSw (cell_lt c8)).trans c8
            go_simp
            first | done | rfl
          try simp only [Act.put, List.setIfInBounds_toArray, List.set_cons_zero, List.set_cons_succ]
          refine wpAnyH_ready (rs := [8]) (by kernel_rfl) (by simp) ?_
          refine AllReadyH.cons (o := { dst := some 20, op := _, type := _, pos := _, after := _, guard := _ }) rfl (fun K hK => ?_) AllReadyH.nil
          go_simp
          refine (HROT.out _).mono ?_
          rintro e w9 ⟨rfl, hb9⟩
          have hB9 := hB8.trans (hb9.mono hB8.size)
          clear hb9
          refine hK.out _ _ hB9 (fun _ => ?_)
          clear hK K
          try simp only [Act.put, List.setIfInBounds_toArray, List.set_cons_zero, List.set_cons_succ]
          refine wpAnyH_take (i := 9) (oi := { dst := some 21, op := _, type := _, pos := _, after := _, guard := _ }) (v := ?_) rfl (by kernel_rfl) (by kernel_rfl) (by kernel_rfl) (fun _ _ _ h => h) (Or.inl ⟨by rfl, ?_⟩) hB9 ?_
          rotate_left
          · intro W hSw
            have e0 := (Below.cell hSw (cell_lt s0)).trans s0
            have e1 := (Below.cell hSw (cell_lt s1)).trans s1
            have d0 := (Below.cell hSw (cell_lt c0)).trans c0
            have d1 := (Below.cell hSw (cell_lt c1)).trans c1
            have d2 := (Below.cell hSw (cell_lt c2)).trans c2
            have d3 := (Below.cell hSw (cell_lt c3)).trans c3
            have d4 := (Below.cell hSw (cell_lt c4)).trans c4
            have d5 := (Below.cell hSw (cell_lt c5)).trans c5
            have d6 := (Below.cell hSw (cell_lt c6)).trans c6
            have d7 := (Below.cell hSw (cell_lt c7)).trans c7
            have d8 := (Below.cell hSw (cell_lt c8)).trans c8
            go_simp
            first | done | rfl
          try simp only [Act.put, List.setIfInBounds_toArray, List.set_cons_zero, List.set_cons_succ]
          refine wpAnyH_done (by kernel_rfl) ?_ _
          refine NoPanic.normal ?_
          go_wp2_with fail
          go_ret
          exact ⟨ret_bool HY.out, hB.1.trans (hB9.mono hB.1.size)⟩
    · obtain rfl : j = n := by omega
      have HY : Hid (false = Bud.rots r c l) := Lib.hid (by
        rw [HNN.out, List.take_length] at hf
        unfold Bud.rots
        rw [← HMB.out]
        exact hf.symm)
      clear hf
      go_wp2_with fail
      go_ret
      exact ⟨ret_bool HY.out, hB.1⟩
set_option maxHeartbeats 8000000 in
theorem rgrid_any (r c : Int) (ad : Option Addr) (cap : Nat) (l : List Bst) (w : World) (hl : StepsAt w ad l) (hn : l.length ≤ 1000) (hc : l.length ≤ cap) :
    Calls Try.prog 32 #[.agg #[.int .i64 r, .int .i64 c], .slice ad l.length cap] w fun e w' => e = .returned (.bool (Bud.grid r c l)) ∧ Below w.heap.size w w' := by
  obtain ⟨n, hnn⟩ : ∃ n, n = l.length := ⟨_, rfl⟩
  rw [← hnn]
  obtain ⟨mb, hmb⟩ : ∃ mb, mb = Bud.may r c := ⟨_, rfl⟩
  have HMAY : Hid (∀ W, Calls Try.prog 51 #[.agg #[.int .i64 r, .int .i64 c]] W fun e w' => e = .returned (.bool mb) ∧ Below W.heap.size W w') := Lib.hid (fun W => by rw [hmb]; exact rmay_any r c W)
  have HMB := Lib.hid hmb
  have HCH : Hid (∀ W who, Below w.heap.size w W → Calls Try.prog 53 #[.agg #[.int .i64 r, .int .i64 c], .slice ad n cap, .int .i64 who] W fun e w' => e = .returned (.bool (Bud.checks r l who)) ∧ Below W.heap.size W w') := Lib.hid (fun W who hb => by rw [hnn]; exact checks_any who r c ad cap l W (hl.later hb) hn hc)
  clear hl hn hc hnn hmb
  go_enter Try.func32, Try.ntmps32
  go_wp2_with fail
  go_loopw [5] (fun iv wr => ∃ j : Nat, j ≤ r.toNat ∧ j ≤ 5 ∧ iv = .int .i64 ((j + 1 : Nat) : Int) ∧ (∀ i : Nat, i < j → Bud.checks r l ((i : Int) + 1) = false) ∧ Bs w wr r c) (fun iv _ => 7 - (intOf iv).toNat)
  case atStart => exact ⟨0, by omega, by omega, rfl, fun i hi => absurd hi (by omega), Bs.start _ _ _ _⟩
  case round =>
    obtain ⟨j, hj, hj5, rfl, hf, hB⟩ := hrel
    obtain ⟨s0, s1⟩ := hB.2.2
    have HF := Lib.hid hf
    clear hf
    by_cases hlt : ((j + 1 : Nat) : Int) ≤ r
    · cases mb with
      | false =>
        have HY : Hid (false = Bud.grid r c l) := Lib.hid (Bud.grid_no (fun h => by have := h.1; rw [← HMB.out] at this; exact absurd this (by decide))).symm
        go_wp2_with fail
        refine (HMAY.out _).mono ?_
        rintro e w8 ⟨rfl, hb8⟩
        go_wp2_with fail
        go_ret
        exact ⟨ret_bool HY.out, (hB.later hb8).1⟩
      | true =>
        have hr := ((Bud.may_iff r c).1 HMB.out.symm).1
        obtain ⟨hv, hhv⟩ : ∃ v, v = Bud.checks r l ((j + 1 : Nat) : Int) := ⟨_, rfl⟩
        have HH : Hid (∀ W, Below w.heap.size w W → Calls Try.prog 53 #[.agg #[.int .i64 r, .int .i64 c], .slice ad n cap, .int .i64 ((j + 1 : Nat) : Int)] W fun e w' => e = .returned (.bool hv) ∧ Below W.heap.size W w') := Lib.hid (fun W hb => by rw [hhv]; exact HCH.out W _ hb)
        have hr5' : j < 5 := by omega
        have hjr : j + 1 ≤ r.toNat := by omega
        cases hv with
        | false =>
          have HN : Hid (∀ i : Nat, i < j + 1 → Bud.checks r l ((i : Int) + 1) = false) := Lib.hid (fun i hi => by
            by_cases q : i = j
            · subst q; exact hhv.symm
            · exact HF.out i (by omega))
          clear hhv hr
          go_wp2_with fail
          refine (HMAY.out _).mono ?_
          rintro e w8 ⟨rfl, hb8⟩
          have hB8 := hB.later hb8
          obtain ⟨t0, t1⟩ := hB8.2.2
          clear hb8
          go_wp2_with fail
          refine (HH.out _ hB8.1).mono ?_
          rintro e w9 ⟨rfl, hb9⟩
          go_wp2_with fail
          go_roundw
          case rel => exact ⟨j + 1, by omega, by omega, by go_num, HN.out, hB8.later hb9⟩
          case measure => simp [intOf]; omega
        | true =>
          have HY : Hid (true = Bud.grid r c l) := Lib.hid (Bud.grid_yes ⟨HMB.out.symm, j, by omega, hhv.symm⟩).symm
          clear hhv hr
          go_wp2_with fail
          refine (HMAY.out _).mono ?_
          rintro e w8 ⟨rfl, hb8⟩
          have hB8 := hB.later hb8
          obtain ⟨t0, t1⟩ := hB8.2.2
          clear hb8
          go_wp2_with fail
          refine (HH.out _ hB8.1).mono ?_
          rintro e w9 ⟨rfl, hb9⟩
          go_wp2_with fail
          go_ret
          exact ⟨ret_bool HY.out, (hB8.later hb9).1⟩
    · have HY : Hid (false = Bud.grid r c l) := Lib.hid (Bud.grid_no (fun h => by
        obtain ⟨_, i, hi, hc⟩ := h
        have := HF.out i (by omega)
        rw [hc] at this
        exact absurd this (by decide))).symm
      have hlt' : r < ((j + 1 : Nat) : Int) := by omega
      clear hlt
      go_wp2_with fail
      go_ret
      exact ⟨ret_bool HY.out, hB.1⟩
end Go.Proofs.Ytecaahcmebdglaa

/- pipe.New. -/
import Derived.Test.YtecaahcmebdglaaPipB
namespace Go.Proofs.Ytecaahcmebdglaa
open Go.RowKit
set_option linter.unusedVariables false
theorem Pp.mono {Z Z' : Nat → Prop} {w : World} {g : Nat} {c who k : Int} {l : List Nat} (h : Pp Z w g c who k l) (hZ : ∀ q, Z q → Z' q) : Pp Z' w g c who k l := by
  obtain ⟨hg, v, hB, hO⟩ := h
  exact ⟨hZ g hg, v, hB, hO.mono (fun q hq => ⟨hZ q hq.1, hq.2⟩)⟩
theorem Pp.later {Z : Nat → Prop} {w w' : World} {g : Nat} {c who k : Int} {l : List Nat} (h : Pp Z w g c who k l) (hb : Below w.heap.size w w') : Pp Z w' g c who k l := by
  obtain ⟨hg, v, hB, hO⟩ := h
  exact ⟨hg, v, hB.later hb, hO.later hb⟩
theorem Pp.turned {Z X : Nat → Prop} {w w' : World} {g : Nat} {c who k : Int} {l : List Nat} (h : Pp Z w g c who k l) (ht : Turned X w w') (hd : ∀ q, Z q → ¬ X q) : Pp Z w' g c who k l := by
  obtain ⟨hg, v, hB, hO⟩ := h
  exact ⟨hg, v, hB.turned ht (hd g hg), hO.turned ht (fun q hq => hd q hq.1)⟩
/-- The append of one number, in a world where the pipe's slice is one's own. -/
theorem run_one {Y : Nat → Prop} {w0 : World} {x : Option Addr} {n cap : Nat} {cs : List Value} (s : Int) (hO : OwnC Y w0 (.slice x n cap) n 1 cs) (hn : n ≤ 1000000) :
    ∃ x' cap' w2, (Builtin.append_ #[31, 31] 31 #[.slice x n cap, .slice (some ⟨w0.heap.size, 0, none⟩) 1 1]).run Try.prog (w0.alloc (.cells #[.int .i64 s] 3)) = .ok (.slice x' (n + 1) cap') w2 ∧ OwnC (fun q => Y q ∨ w0.heap.size ≤ q) w2 (.slice x' (n + 1) cap') (n + 1) 1 (cs ++ [.int .i64 s]) ∧ Turned Y (w0.alloc (.cells #[.int .i64 s] 3)) w2 := by
  have hnews : ∀ (j : Nat) (u : Value), ([.int .i64 s] : List Value)[j]? = some u → (w0.alloc (.cells #[.int .i64 s] 3)).cell? ((⟨w0.heap.size, 0, none⟩ : Addr).add j) = some u := by
    intro j u hu
    cases j with
    | zero =>
      injection hu with hu
      subst hu
      exact (cell_of_row _ _ _ _ _ _ (heap_alloc_new w0 _)).trans rfl
    | succ j => exact absurd hu (by simp)
  obtain ⟨i0, hi0, hi1, hi2, hi3⟩ := info_int
  obtain ⟨v', w2, hrun, hO2, hT2⟩ := run_app (P := Try.prog) 31 31 3 i0 (.int .i64 0) 8 Try.underlying31 hi0 hi1 hi2 hi3 rfl (by decide) (hO.later ((Below.refl _ _).alloc (Nat.le_refl _) (.cells #[.int .i64 s] 3))) ⟨w0.heap.size, 0, none⟩ 1 1 [.int .i64 s] rfl hnews (by simp [Value.oneCell']) (by rw [show maxLen = 9223372036854775807 from rfl]; omega) (by omega)
  obtain ⟨x', cap', rfl⟩ := hO2.shape
  exact ⟨x', cap', w2, hrun, hO2.mono (fun q h => h.imp id (fun h => by simp at h; omega)), hT2⟩
set_option maxHeartbeats 4000000 in
theorem new_ok (c who k hd : Int) (w : World) (hc : c = 3 ∨ c = 5) (hw : 1 ≤ who ∧ who ≤ c) (h0 : 0 ≤ k) (h1 : hd ≤ 72057594037927935) (h2 : k ≤ hd) (h3 : hd - k ≤ 16) : Calls Try.prog 35 #[.int .i64 c, .int .i64 who, .int .i64 k, .int .i64 hd] w fun e w' =>
    e = .returned (.tuple #[.pointer (some ⟨w.heap.size, 0, none⟩), .int .i64 0]) ∧ Pp (fun q => w.heap.size ≤ q) w' w.heap.size c who k (List.replicate (hd - k).toNat (Quo.wth 0 who)) ∧ Below w.heap.size w w' := by
  have HWI : Hid (∀ w, Calls Try.prog 20 #[.int .i64 0, .int .i64 who] w fun e w' => e = .returned (.int .i64 ((Quo.wth 0 who : Nat) : Int)) ∧ w = w') := Lib.hid (fun w => with_any 0 who w (by omega) (by omega))
  have HMY : Hid (∀ w, Calls Try.prog 15 #[.int .i64 c] w fun e w' => e = .returned (.bool true) ∧ w = w') := Lib.hid (fun w => may_yes c w hc)
  obtain ⟨s, hs⟩ : ∃ s, s = Quo.wth 0 who := ⟨_, rfl⟩
  rw [← hs] at HWI ⊢
  clear hs hc
  obtain ⟨m, rfl⟩ : ∃ m : Nat, hd = k + m := ⟨(hd - k).toNat, by omega⟩
  rw [show (k + (m : Int) - k).toNat = m by omega]
  have q1 : ¬ who < 1 := by omega
  have q2 : ¬ c < who := by omega
  have q3 : ¬ k < 0 := by omega
  have q4 : ¬ 72057594037927935 < k + (m : Int) := by omega
  have q5 : ¬ k + (m : Int) < k := by omega
  have q6 : k + (m : Int) - k = m := by omega
  have q7 : ¬ (16 : Int) < m := by omega
  have hm16 : m ≤ 16 := by omega
  have hwm : IntKind.i64.wrap (m : Int) = m := IntWalk.i64_in _ (by omega)
  clear h1 h2 h3
  go_enter Try.func35, Try.ntmps35
  go_wp2_with (go_at_call 15; refine (HMY.out _).mono ?_; rintro e w' ⟨rfl, rfl⟩)
  have hP0 : Pp (fun q => w.heap.size ≤ q) (w.alloc (.cells #[.int .i64 c, .int .i64 who, .int .i64 k, .slice none 0 0] 73)) w.heap.size c who k [] := ⟨Nat.le_refl _, _, Blk.new w _ _ _ rfl, OwnC.nil _ _ _⟩
  have hB0 : Below w.heap.size w (w.alloc (.cells #[.int .i64 c, .int .i64 who, .int .i64 k, .slice none 0 0] 73)) := (Below.refl _ _).alloc (Nat.le_refl _) _
  go_loopw [50] (fun i wr => ∃ j : Nat, j ≤ m ∧ i = .int .i64 j ∧ Pp (fun q => w.heap.size ≤ q) wr w.heap.size c who k (List.replicate j s) ∧ Below w.heap.size w wr) (fun i _ => m - (intOf i).toNat)
  case atStart => exact ⟨0, by omega, rfl, hP0, hB0⟩
  case round =>
    clear hP0 hB0
    obtain ⟨j, hj, rfl, hP, hb1⟩ := hrel
    by_cases hlt : j < m
    · go_wp2_with fail
      obtain ⟨x, cap, hB, hO⟩ := hP.pc
      rw [List.length_replicate] at hB hO
      refine wp_region_noPanic ?_
      refine wp_region_held_drew (S := PS w.heap.size c who k) (by kernel_rfl) (show PS w.heap.size c who k wr.drew from ⟨_, hB⟩) (fun hHeld => ?_)
      have HB0 : Blk wr.drew w.heap.size #[.int .i64 c, .int .i64 who, .int .i64 k, .slice x j cap] := hB
      have HO0 : OwnC (fun q => w.heap.size ≤ q ∧ q ≠ w.heap.size) wr.drew (.slice x j cap) j 1 (ivs (List.replicate j s)) := hO.later ⟨rfl, rfl, rfl, Nat.le_refl _, fun _ _ => rfl⟩
      have HD0 : Below w.heap.size w wr.drew := hb1.drew
      clear hB hO hP hb1
      generalize wr.drew = w0 at *
      clear wr
      obtain ⟨r3, f3⟩ := HB0.2 3 _ rfl
      have hB1 : Blk (w0.alloc (.cells #[.int .i64 s] 3)) w.heap.size #[.int .i64 c, .int .i64 who, .int .i64 k, .slice x j cap] := HB0.alloc _
      obtain ⟨r3', f3'⟩ := hB1.2 3 _ rfl
      obtain ⟨x', cap', w2, hrun, hO2, hT2⟩ := run_one s HO0 (by omega)
      have hB2 := hB1.turned hT2 (fun q => q.2 rfl)
      obtain ⟨r3'', f3''⟩ := hB2.2 3 _ rfl
      have hB3 := hB2.set_ 3 (.slice x' (j + 1) cap')
      have HFIN : Hid (Pp (fun q => w.heap.size ≤ q) (w2.setCell ⟨w.heap.size, 3, none⟩ (.slice x' (j + 1) cap')) w.heap.size c who k (List.replicate (j + 1) s) ∧ Below w.heap.size w (w2.setCell ⟨w.heap.size, 3, none⟩ (.slice x' (j + 1) cap'))) := Lib.hid (by
        have hsz := HD0.size
        have hT3 : Turned (fun q => w.heap.size ≤ q) w0 w2 := (Turned.alloc w0 (fun q => w.heap.size ≤ q) (.cells #[.int .i64 s] 3)).trans hT2 (fun q h => .inl h.1)
        have hP := Pp.grow (Z := fun q => w.heap.size ≤ q) (w := w0) (l' := List.replicate (j + 1) s) (Nat.le_refl _) HB0.1 hB2 hO2 hT3 (by rw [List.length_replicate]) (by rw [List.replicate_succ']; simp [ivs])
        exact ⟨hP.1.mono (fun q h => by omega), HD0.trans (hP.2.below (fun q h => h) HD0.size)⟩)
      clear HD0
      refine wpAnyH_take (i := 0) (oi := { dst := some 52, op := _, type := _, pos := _, after := _, guard := _ }) (v := ?_) rfl (by kernel_rfl) (by kernel_rfl) (by kernel_rfl) (fun _ _ _ h => h) (Or.inl ⟨by rfl, ?_⟩) hHeld ?_
      rotate_left
      · intro W hSw
        have hSr := PS.who hSw
        go_simp
        first | done | rfl
      try simp only [Act.put, List.setIfInBounds_toArray, List.set_cons_zero, List.set_cons_succ]
      refine wpAnyH_take (i := 1) (oi := { dst := some 53, op := _, type := _, pos := _, after := _, guard := _ }) (v := ?_) rfl (by kernel_rfl) (by kernel_rfl) (by kernel_rfl) (fun _ _ _ h => h) (Or.inl ⟨by rfl, ?_⟩) hHeld ?_
      rotate_left
      · intro W hSw
        have hSr := PS.who hSw
        go_simp
        first | done | rfl
      try simp only [Act.put, List.setIfInBounds_toArray, List.set_cons_zero, List.set_cons_succ]
      refine wpAnyH_take (i := 5) (oi := { dst := some 57, op := _, type := _, pos := _, after := _, guard := _ }) (v := ?_) rfl (by kernel_rfl) (by kernel_rfl) (by kernel_rfl) (fun _ _ _ h => h) (Or.inl ⟨by rfl, ?_⟩) hHeld ?_
      rotate_left
      · intro W hSw
        have hSr := PS.who hSw
        go_simp
        first | done | rfl
      try simp only [Act.put, List.setIfInBounds_toArray, List.set_cons_zero, List.set_cons_succ]
      refine wpAnyH_take (i := 2) (oi := { dst := some 54, op := _, type := _, pos := _, after := _, guard := _ }) (v := ?_) rfl (by kernel_rfl) (by kernel_rfl) (by kernel_rfl) (fun _ _ _ h => h) (Or.inl ⟨by rfl, ?_⟩) hHeld ?_
      rotate_left
      · intro W hSw
        have hSr := PS.who hSw
        go_simp
        first | done | rfl
      try simp only [Act.put, List.setIfInBounds_toArray, List.set_cons_zero, List.set_cons_succ]
      refine wpAnyH_take (i := 3) (oi := { dst := some 55, op := _, type := _, pos := _, after := _, guard := _ }) (v := ?_) rfl (by kernel_rfl) (by kernel_rfl) (by kernel_rfl) (fun _ _ _ h => h) (Or.inl ⟨by rfl, ?_⟩) hHeld ?_
      rotate_left
      · intro W hSw
        have hSr := PS.who hSw
        go_simp
        first | done | rfl
      try simp only [Act.put, List.setIfInBounds_toArray, List.set_cons_zero, List.set_cons_succ]
      refine wpAnyH_ready (rs := [4, 6]) (by kernel_rfl) (by simp) ?_
      refine AllReadyH.cons (o := { dst := some 56, op := _, type := _, pos := _, after := _, guard := _ }) rfl (fun K hK => ?_) ?_
      · go_simp
        refine hK.out _ _ hHeld (fun _ => ?_)
        clear hK K
        try simp only [Act.put, List.setIfInBounds_toArray, List.set_cons_zero, List.set_cons_succ]
        refine wpAnyH_ready (rs := [6]) (by kernel_rfl) (by simp) ?_
        refine AllReadyH.cons (o := { dst := some 58, op := _, type := _, pos := _, after := _, guard := _ }) rfl (fun K hK => ?_) AllReadyH.nil
        go_simp
        refine (HWI.out _).mono ?_
        rintro e wx ⟨rfl, rfl⟩
        refine hK.out _ _ hHeld (fun _ => ?_)
        clear hK K
        try simp only [Act.put, List.setIfInBounds_toArray, List.set_cons_zero, List.set_cons_succ]
        refine wpAnyH_ready (rs := [7]) (by kernel_rfl) (by simp) ?_
        refine AllReadyH.cons (o := { dst := some 59, op := _, type := _, pos := _, after := _, guard := _ }) rfl (fun K hK => ?_) AllReadyH.nil
        go_simp
        refine hK.out _ _ ⟨_, hB1⟩ (fun _ => ?_)
        clear hK K
        try simp only [Act.put, List.setIfInBounds_toArray, List.set_cons_zero, List.set_cons_succ]
        refine wpAnyH_ready (rs := [8]) (by kernel_rfl) (by simp) ?_
        refine AllReadyH.cons (o := { dst := some 60, op := _, type := _, pos := _, after := _, guard := _ }) rfl (fun K hK => ?_) AllReadyH.nil
        refine step_app rfl _ _ 31 rfl _ _ 1 1 rfl rfl hrun ?_
        refine hK.out _ _ ⟨_, hB2⟩ (fun _ => ?_)
        clear hK K
        try simp only [Act.put, List.setIfInBounds_toArray, List.set_cons_zero, List.set_cons_succ]
        refine wpAnyH_take (i := 9) (oi := { dst := some 61, op := _, type := _, pos := _, after := _, guard := _ }) (v := ?_) rfl (by kernel_rfl) (by kernel_rfl) (by kernel_rfl) (fun _ _ _ h => h) (Or.inl ⟨by rfl, ?_⟩) ⟨_, hB2⟩ ?_
        rotate_left
        · intro W hSw
          have hSr := PS.who hSw
          go_simp
          first | done | rfl
        try simp only [Act.put, List.setIfInBounds_toArray, List.set_cons_zero, List.set_cons_succ]
        refine wpAnyH_take (i := 10) (oi := { dst := some 62, op := _, type := _, pos := _, after := _, guard := _ }) (v := ?_) rfl (by kernel_rfl) (by kernel_rfl) (by kernel_rfl) (fun _ _ _ h => h) (Or.inl ⟨by rfl, ?_⟩) ⟨_, hB2⟩ ?_
        rotate_left
        · intro W hSw
          have hSr := PS.who hSw
          go_simp
          first | done | rfl
        try simp only [Act.put, List.setIfInBounds_toArray, List.set_cons_zero, List.set_cons_succ]
        refine wpAnyH_ready (rs := [11]) (by kernel_rfl) (by simp) ?_
        refine AllReadyH.cons (o := { dst := none, op := _, type := _, pos := _, after := _, guard := _ }) rfl (fun K hK => ?_) AllReadyH.nil
        go_simp
        refine hK.out _ _ ⟨_, hB3⟩ (fun _ => ?_)
        clear hK K
        try simp only [Act.put, List.setIfInBounds_toArray, List.set_cons_zero, List.set_cons_succ]
        refine wpAnyH_done (by kernel_rfl) ?_ _
        refine NoPanic.normal ?_
        go_wp2_with fail
        go_roundw
        case rel => exact ⟨j + 1, by omega, by go_num, HFIN.out.1, HFIN.out.2⟩
        case measure => simp [intOf]; omega
      refine AllReadyH.cons (o := { dst := some 58, op := _, type := _, pos := _, after := _, guard := _ }) rfl (fun K hK => ?_) ?_
      · go_simp
        refine (HWI.out _).mono ?_
        rintro e wx ⟨rfl, rfl⟩
        refine hK.out _ _ hHeld (fun _ => ?_)
        clear hK K
        try simp only [Act.put, List.setIfInBounds_toArray, List.set_cons_zero, List.set_cons_succ]
        refine wpAnyH_ready (rs := [4, 7]) (by kernel_rfl) (by simp) ?_
        refine AllReadyH.cons (o := { dst := some 56, op := _, type := _, pos := _, after := _, guard := _ }) rfl (fun K hK => ?_) ?_
        · go_simp
          refine hK.out _ _ hHeld (fun _ => ?_)
          clear hK K
          try simp only [Act.put, List.setIfInBounds_toArray, List.set_cons_zero, List.set_cons_succ]
          refine wpAnyH_ready (rs := [7]) (by kernel_rfl) (by simp) ?_
          refine AllReadyH.cons (o := { dst := some 59, op := _, type := _, pos := _, after := _, guard := _ }) rfl (fun K hK => ?_) AllReadyH.nil
          go_simp
          refine hK.out _ _ ⟨_, hB1⟩ (fun _ => ?_)
          clear hK K
          try simp only [Act.put, List.setIfInBounds_toArray, List.set_cons_zero, List.set_cons_succ]
          refine wpAnyH_ready (rs := [8]) (by kernel_rfl) (by simp) ?_
          refine AllReadyH.cons (o := { dst := some 60, op := _, type := _, pos := _, after := _, guard := _ }) rfl (fun K hK => ?_) AllReadyH.nil
          refine step_app rfl _ _ 31 rfl _ _ 1 1 rfl rfl hrun ?_
          refine hK.out _ _ ⟨_, hB2⟩ (fun _ => ?_)
          clear hK K
          try simp only [Act.put, List.setIfInBounds_toArray, List.set_cons_zero, List.set_cons_succ]
          refine wpAnyH_take (i := 9) (oi := { dst := some 61, op := _, type := _, pos := _, after := _, guard := _ }) (v := ?_) rfl (by kernel_rfl) (by kernel_rfl) (by kernel_rfl) (fun _ _ _ h => h) (Or.inl ⟨by rfl, ?_⟩) ⟨_, hB2⟩ ?_
          rotate_left
          · intro W hSw
            have hSr := PS.who hSw
            go_simp
            first | done | rfl
          try simp only [Act.put, List.setIfInBounds_toArray, List.set_cons_zero, List.set_cons_succ]
          refine wpAnyH_take (i := 10) (oi := { dst := some 62, op := _, type := _, pos := _, after := _, guard := _ }) (v := ?_) rfl (by kernel_rfl) (by kernel_rfl) (by kernel_rfl) (fun _ _ _ h => h) (Or.inl ⟨by rfl, ?_⟩) ⟨_, hB2⟩ ?_
          rotate_left
          · intro W hSw
            have hSr := PS.who hSw
            go_simp
            first | done | rfl
          try simp only [Act.put, List.setIfInBounds_toArray, List.set_cons_zero, List.set_cons_succ]
          refine wpAnyH_ready (rs := [11]) (by kernel_rfl) (by simp) ?_
          refine AllReadyH.cons (o := { dst := none, op := _, type := _, pos := _, after := _, guard := _ }) rfl (fun K hK => ?_) AllReadyH.nil
          go_simp
          refine hK.out _ _ ⟨_, hB3⟩ (fun _ => ?_)
          clear hK K
          try simp only [Act.put, List.setIfInBounds_toArray, List.set_cons_zero, List.set_cons_succ]
          refine wpAnyH_done (by kernel_rfl) ?_ _
          refine NoPanic.normal ?_
          go_wp2_with fail
          go_roundw
          case rel => exact ⟨j + 1, by omega, by go_num, HFIN.out.1, HFIN.out.2⟩
          case measure => simp [intOf]; omega
        refine AllReadyH.cons (o := { dst := some 59, op := _, type := _, pos := _, after := _, guard := _ }) rfl (fun K hK => ?_) ?_
        · go_simp
          refine hK.out _ _ ⟨_, hB1⟩ (fun _ => ?_)
          clear hK K
          try simp only [Act.put, List.setIfInBounds_toArray, List.set_cons_zero, List.set_cons_succ]
          refine wpAnyH_ready (rs := [4]) (by kernel_rfl) (by simp) ?_
          refine AllReadyH.cons (o := { dst := some 56, op := _, type := _, pos := _, after := _, guard := _ }) rfl (fun K hK => ?_) AllReadyH.nil
          go_simp
          refine hK.out _ _ ⟨_, hB1⟩ (fun _ => ?_)
          clear hK K
          try simp only [Act.put, List.setIfInBounds_toArray, List.set_cons_zero, List.set_cons_succ]
          refine wpAnyH_ready (rs := [8]) (by kernel_rfl) (by simp) ?_
          refine AllReadyH.cons (o := { dst := some 60, op := _, type := _, pos := _, after := _, guard := _ }) rfl (fun K hK => ?_) AllReadyH.nil
          refine step_app rfl _ _ 31 rfl _ _ 1 1 rfl rfl hrun ?_
          refine hK.out _ _ ⟨_, hB2⟩ (fun _ => ?_)
          clear hK K
          try simp only [Act.put, List.setIfInBounds_toArray, List.set_cons_zero, List.set_cons_succ]
          refine wpAnyH_take (i := 9) (oi := { dst := some 61, op := _, type := _, pos := _, after := _, guard := _ }) (v := ?_) rfl (by kernel_rfl) (by kernel_rfl) (by kernel_rfl) (fun _ _ _ h => h) (Or.inl ⟨by rfl, ?_⟩) ⟨_, hB2⟩ ?_
          rotate_left
          · intro W hSw
            have hSr := PS.who hSw
            go_simp
            first | done | rfl
          try simp only [Act.put, List.setIfInBounds_toArray, List.set_cons_zero, List.set_cons_succ]
          refine wpAnyH_take (i := 10) (oi := { dst := some 62, op := _, type := _, pos := _, after := _, guard := _ }) (v := ?_) rfl (by kernel_rfl) (by kernel_rfl) (by kernel_rfl) (fun _ _ _ h => h) (Or.inl ⟨by rfl, ?_⟩) ⟨_, hB2⟩ ?_
          rotate_left
          · intro W hSw
            have hSr := PS.who hSw
            go_simp
            first | done | rfl
          try simp only [Act.put, List.setIfInBounds_toArray, List.set_cons_zero, List.set_cons_succ]
          refine wpAnyH_ready (rs := [11]) (by kernel_rfl) (by simp) ?_
          refine AllReadyH.cons (o := { dst := none, op := _, type := _, pos := _, after := _, guard := _ }) rfl (fun K hK => ?_) AllReadyH.nil
          go_simp
          refine hK.out _ _ ⟨_, hB3⟩ (fun _ => ?_)
          clear hK K
          try simp only [Act.put, List.setIfInBounds_toArray, List.set_cons_zero, List.set_cons_succ]
          refine wpAnyH_done (by kernel_rfl) ?_ _
          refine NoPanic.normal ?_
          go_wp2_with fail
          go_roundw
          case rel => exact ⟨j + 1, by omega, by go_num, HFIN.out.1, HFIN.out.2⟩
          case measure => simp [intOf]; omega
        exact AllReadyH.nil
      exact AllReadyH.nil
    · obtain rfl : j = m := by omega
      go_wp2_with fail
      go_ret2
      exact ⟨rfl, hP, hb1⟩
end Go.Proofs.Ytecaahcmebdglaa

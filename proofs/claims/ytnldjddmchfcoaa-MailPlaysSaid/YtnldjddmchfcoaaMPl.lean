/- The walk of MailPlays. -/
import Derived.Test.YtnldjddmchfcoaaMailH
import Derived.Deep.RegionHeld3
namespace Go.Proofs.Ytnldjddmchfcoaa
open Go.RowKit Go.Conc
set_option linter.unusedVariables false
def MB (w : World) (g c gr cap : Nat) (W : World) : Prop := ∃ L L2, MM w W g c gr cap L L2
theorem MB.cell {w W : World} {g c gr cap : Nat} (h : MB w g c gr cap W) {p : Addr} {v : Value} (hc : w.cell? p = some v) : W.cell? p = some v := by
  obtain ⟨_, _, h⟩ := h
  exact h.cell hc
set_option maxRecDepth 100000 in
set_option maxHeartbeats 40000000 in
theorem mplays_core (w : World) (cap : Nat) (ad : Option Addr) (cp1 : Nat) (A : List (List Value)) (hcap : 1 ≤ cap ∧ cap ≤ 4096) (hA : RowsAt w ad 4 A) (hlc : A.length ≤ cp1) (hcp : cp1 ≤ maxLen)
    (ht : ∀ r ∈ A, ∃ (c0 c1 c2 : Int) (c3 : ByteArray), r = [.int .i64 c0, .int .i64 c1, .int .i64 c2, .string c3] ∧ (-9223372036854775808 ≤ c0 ∧ c0 ≤ 9223372036854775807) ∧ (-9223372036854775808 ≤ c1 ∧ c1 ≤ 9223372036854775807) ∧ (-9223372036854775808 ≤ c2 ∧ c2 ≤ 9223372036854775807)) :
    Calls Try.prog 4 #[.int .i64 (cap : Int), .slice ad A.length cp1] w fun e w' => e = .returned (.bool true) ∧ Below w.heap.size w w' := by
  have HROW := Lib.hid (fun (i : Nat) (hi : i < A.length) => row4 hA ht i hi)
  have HCAP := Lib.hid (And.intro hlc hcp)
  obtain ⟨n, hn⟩ : ∃ n, n = A.length := ⟨_, rfl⟩
  have HN := Lib.hid hn
  rw [← hn]
  have HNB : Hid (∀ w1, Calls Try.prog 17 #[.int .i64 (cap : Int)] w1 fun e w' => e = .returned (.tuple #[.pointer (some ⟨w1.heap.size + 1, 0, none⟩), .int .i64 0]) ∧ Bx w' (w1.heap.size + 1) w1.heap.size cap [] ∧ Below w1.heap.size w1 w') := Lib.hid (fun w1 => by
    have := new_bx cap w1 (by omega)
    rwa [show ((cap : Int)).toNat = cap by omega] at this)
  have HNR : Hid (∀ w1, Calls Try.prog 18 #[.int .i64 (cap : Int)] w1 fun e w' => e = .returned (.tuple #[.pointer (some ⟨w1.heap.size, 0, none⟩), .int .i64 0]) ∧ Rx (fun q => w1.heap.size ≤ q) w' w1.heap.size (cap : Int) [] ∧ Below w1.heap.size w1 w') := Lib.hid (fun w1 => refnewb cap w1 (by omega))
  clear hA ht hlc hcp hn hcap
  go_enter Try.func4, Try.ntmps4
  go_wp2_with fail
  refine (awake20_any _).mono ?_
  rintro e w1 ⟨rfl, hb1⟩
  have B1 := Lib.hid hb1
  clear hb1
  go_wp2_with fail
  refine (HNB.out _).mono ?_
  rintro e w2 ⟨rfl, hB, hb2⟩
  obtain ⟨g, hg⟩ : ∃ g, g = w1.heap.size + 1 := ⟨_, rfl⟩
  have H2 := Lib.hid (And.intro hB (And.intro hb2 hg))
  rw [← hg]
  clear hB hb2 hg
  go_wp2_with fail
  refine (HNR.out _).mono ?_
  rintro e w3 ⟨rfl, hR, hb3⟩
  have hMM : MM w w3 g w1.heap.size w2.heap.size cap [] [] := by
    obtain ⟨hB, hb2, hg⟩ := H2.out
    rw [← hg] at hB
    have hs1 := B1.out.size
    have hgw := hB.2.1.1
    have hcw := hB.2.2.1
    exact ⟨hB.later hb3, ⟨by omega, hs1⟩, (B1.out.trans (hb2.mono hs1)).trans (hb3.mono (Nat.le_trans hs1 hb2.size)), _, hR.lt, fun q hq => ⟨fun e => by have := hq.1; omega, fun e => by have := hq.1; omega, by have := hq.1; have := hb2.size; omega, hq.2⟩⟩
  have HMM := Lib.hid hMM
  clear hMM hR hb3 H2 HNB HNR
  generalize w1.heap.size = c at *
  generalize w2.heap.size = gr at *
  go_wp2_with fail
  go_loopw [9] (fun iv wr => ∃ j : Nat, j ≤ n ∧ j ≤ 80 ∧ iv = .int .i64 j ∧ ∃ L : List Ltr, L.length ≤ j ∧ MM w wr g c gr cap L L) (fun iv _ => 81 - (intOf iv).toNat)
  case atStart => exact ⟨0, by omega, by omega, rfl, [], Nat.le_refl _, HMM.out⟩
  case round =>
    clear HMM
    obtain ⟨j, hj, hj80, rfl, L, hLj, hM0⟩ := hrel
    have HM0 := Lib.hid hM0
    have HLJ := Lib.hid hLj
    clear hM0 hLj
    by_cases hlt : j < n ∧ j < 80
    · obtain ⟨hlt1, hlt2⟩ := hlt
      obtain ⟨b0, o0, kd, x, rfl, c0, c1, c2, c3⟩ := HROW.out j (by rw [← HN.out]; exact hlt1)
      have hjn : j < n := hlt1
      have c0' : wr.cell? ⟨b0, o0 + j * 4, none⟩ = some (.int .i64 kd) := HM0.out.cell c0
      clear c0
      by_cases hk1 : kd = 1
      · subst hk1
        go_wp2_with fail
        refine wp_region_noPanic ?_
        refine wp_region_held_drew (S := MB w g c gr cap) (by kernel_rfl) (show MB w g c gr cap wr.drew from ⟨_, _, HM0.out.later ⟨rfl, rfl, rfl, Nat.le_refl _, fun _ _ => rfl⟩⟩) (fun hHeld => ?_)
        have hM7 : MM w wr.drew g c gr cap L L := HM0.out.later ⟨rfl, rfl, rfl, Nat.le_refl _, fun _ _ => rfl⟩
        generalize wr.drew = w7 at *
        obtain ⟨ev, hev⟩ : ∃ ev, ev = pErr cap L x := ⟨_, rfl⟩
        obtain ⟨L2, hL2e⟩ : ∃ L2, L2 = pL cap L x := ⟨_, rfl⟩
        have HEV := Lib.hid hev
        have HL2E := Lib.hid hL2e
        have HL2 : Hid (L2.length ≤ j + 1) := Lib.hid (by rw [hL2e]; have := pL_len cap L x; have := HLJ.out; omega)
        clear hev hL2e
        refine wpAnyH_take (i := 0) (oi := { dst := some 76, op := _, type := _, pos := _, after := _, guard := _ }) (v := ?_) rfl (by kernel_rfl) (by kernel_rfl) (by kernel_rfl) (fun _ _ _ h => h) (Or.inl ⟨by rfl, ?_⟩) hHeld ?_
        rotate_left
        · intro W hSw
          have d1 := hSw.cell c1
          have d2 := hSw.cell c2
          have d3 := hSw.cell c3
          go_simp
          first | done | rfl
        try simp only [Act.put, List.setIfInBounds_toArray, List.set_cons_zero, List.set_cons_succ]
        refine wpAnyH_take (i := 1) (oi := { dst := some 77, op := _, type := _, pos := _, after := _, guard := _ }) (v := ?_) rfl (by kernel_rfl) (by kernel_rfl) (by kernel_rfl) (fun _ _ _ h => h) (Or.inl ⟨by rfl, ?_⟩) hHeld ?_
        rotate_left
        · intro W hSw
          have d1 := hSw.cell c1
          have d2 := hSw.cell c2
          have d3 := hSw.cell c3
          go_simp
          first | done | rfl
        try simp only [Act.put, List.setIfInBounds_toArray, List.set_cons_zero, List.set_cons_succ]
        refine wpAnyH_take (i := 2) (oi := { dst := some 78, op := _, type := _, pos := _, after := _, guard := _ }) (v := ?_) rfl (by kernel_rfl) (by kernel_rfl) (by kernel_rfl) (fun _ _ _ h => h) (Or.inl ⟨by rfl, ?_⟩) hHeld ?_
        rotate_left
        · intro W hSw
          have d1 := hSw.cell c1
          have d2 := hSw.cell c2
          have d3 := hSw.cell c3
          go_simp
          first | done | rfl
        try simp only [Act.put, List.setIfInBounds_toArray, List.set_cons_zero, List.set_cons_succ]
        refine wpAnyH_take (i := 7) (oi := { dst := some 83, op := _, type := _, pos := _, after := _, guard := _ }) (v := ?_) rfl (by kernel_rfl) (by kernel_rfl) (by kernel_rfl) (fun _ _ _ h => h) (Or.inl ⟨by rfl, ?_⟩) hHeld ?_
        rotate_left
        · intro W hSw
          have d1 := hSw.cell c1
          have d2 := hSw.cell c2
          have d3 := hSw.cell c3
          go_simp
          first | done | rfl
        try simp only [Act.put, List.setIfInBounds_toArray, List.set_cons_zero, List.set_cons_succ]
        refine wpAnyH_take (i := 8) (oi := { dst := some 84, op := _, type := _, pos := _, after := _, guard := _ }) (v := ?_) rfl (by kernel_rfl) (by kernel_rfl) (by kernel_rfl) (fun _ _ _ h => h) (Or.inl ⟨by rfl, ?_⟩) hHeld ?_
        rotate_left
        · intro W hSw
          have d1 := hSw.cell c1
          have d2 := hSw.cell c2
          have d3 := hSw.cell c3
          go_simp
          first | done | rfl
        try simp only [Act.put, List.setIfInBounds_toArray, List.set_cons_zero, List.set_cons_succ]
        refine wpAnyH_take (i := 9) (oi := { dst := some 85, op := _, type := _, pos := _, after := _, guard := _ }) (v := ?_) rfl (by kernel_rfl) (by kernel_rfl) (by kernel_rfl) (fun _ _ _ h => h) (Or.inl ⟨by rfl, ?_⟩) hHeld ?_
        rotate_left
        · intro W hSw
          have d1 := hSw.cell c1
          have d2 := hSw.cell c2
          have d3 := hSw.cell c3
          go_simp
          first | done | rfl
        try simp only [Act.put, List.setIfInBounds_toArray, List.set_cons_zero, List.set_cons_succ]
        refine wpAnyH_take (i := 3) (oi := { dst := some 79, op := _, type := _, pos := _, after := _, guard := _ }) (v := ?_) rfl (by kernel_rfl) (by kernel_rfl) (by kernel_rfl) (fun _ _ _ h => h) (Or.inl ⟨by rfl, ?_⟩) hHeld ?_
        rotate_left
        · intro W hSw
          have d1 := hSw.cell c1
          have d2 := hSw.cell c2
          have d3 := hSw.cell c3
          go_simp
          first | done | rfl
        try simp only [Act.put, List.setIfInBounds_toArray, List.set_cons_zero, List.set_cons_succ]
        refine wpAnyH_take (i := 10) (oi := { dst := some 86, op := _, type := _, pos := _, after := _, guard := _ }) (v := ?_) rfl (by kernel_rfl) (by kernel_rfl) (by kernel_rfl) (fun _ _ _ h => h) (Or.inl ⟨by rfl, ?_⟩) hHeld ?_
        rotate_left
        · intro W hSw
          have d1 := hSw.cell c1
          have d2 := hSw.cell c2
          have d3 := hSw.cell c3
          go_simp
          first | done | rfl
        try simp only [Act.put, List.setIfInBounds_toArray, List.set_cons_zero, List.set_cons_succ]
        refine wpAnyH_take (i := 4) (oi := { dst := some 80, op := _, type := _, pos := _, after := _, guard := _ }) (v := ?_) rfl (by kernel_rfl) (by kernel_rfl) (by kernel_rfl) (fun _ _ _ h => h) (Or.inl ⟨by rfl, ?_⟩) hHeld ?_
        rotate_left
        · intro W hSw
          have d1 := hSw.cell c1
          have d2 := hSw.cell c2
          have d3 := hSw.cell c3
          go_simp
          first | done | rfl
        try simp only [Act.put, List.setIfInBounds_toArray, List.set_cons_zero, List.set_cons_succ]
        refine wpAnyH_take (i := 11) (oi := { dst := some 87, op := _, type := _, pos := _, after := _, guard := _ }) (v := ?_) rfl (by kernel_rfl) (by kernel_rfl) (by kernel_rfl) (fun _ _ _ h => h) (Or.inl ⟨by rfl, ?_⟩) hHeld ?_
        rotate_left
        · intro W hSw
          have d1 := hSw.cell c1
          have d2 := hSw.cell c2
          have d3 := hSw.cell c3
          go_simp
          first | done | rfl
        try simp only [Act.put, List.setIfInBounds_toArray, List.set_cons_zero, List.set_cons_succ]
        refine wpAnyH_take (i := 5) (oi := { dst := some 81, op := _, type := _, pos := _, after := _, guard := _ }) (v := ?_) rfl (by kernel_rfl) (by kernel_rfl) (by kernel_rfl) (fun _ _ _ h => h) (Or.inl ⟨by rfl, ?_⟩) hHeld ?_
        rotate_left
        · intro W hSw
          have d1 := hSw.cell c1
          have d2 := hSw.cell c2
          have d3 := hSw.cell c3
          go_simp
          first | done | rfl
        try simp only [Act.put, List.setIfInBounds_toArray, List.set_cons_zero, List.set_cons_succ]
        refine wpAnyH_take (i := 12) (oi := { dst := some 88, op := _, type := _, pos := _, after := _, guard := _ }) (v := ?_) rfl (by kernel_rfl) (by kernel_rfl) (by kernel_rfl) (fun _ _ _ h => h) (Or.inl ⟨by rfl, ?_⟩) hHeld ?_
        rotate_left
        · intro W hSw
          have d1 := hSw.cell c1
          have d2 := hSw.cell c2
          have d3 := hSw.cell c3
          go_simp
          first | done | rfl
        try simp only [Act.put, List.setIfInBounds_toArray, List.set_cons_zero, List.set_cons_succ]
        refine wpAnyH_ready (rs := [6]) (by kernel_rfl) (by simp) ?_
        refine AllReadyH.cons (o := { dst := some 82, op := _, type := _, pos := _, after := _, guard := _ }) rfl (fun K hK => ?_) AllReadyH.nil
        go_simp
        refine (mm_put hM7 x).mono ?_
        rw [← HEV.out, ← HL2E.out]
        rintro e wp ⟨rfl, hM6⟩
        refine hK.out _ _ ⟨_, _, hM6⟩ (fun _ => ?_)
        clear hK K
        try simp only [Act.put, List.setIfInBounds_toArray, List.set_cons_zero, List.set_cons_succ]
        refine wpAnyH_ready (rs := [13]) (by kernel_rfl) (by simp) ?_
        refine AllReadyH.cons (o := { dst := some 89, op := _, type := _, pos := _, after := _, guard := _ }) rfl (fun K hK => ?_) AllReadyH.nil
        go_simp
        refine (mm_refput hM6 (by have := HLJ.out; omega) x).mono ?_
        rw [← HEV.out, ← HL2E.out]
        rintro e WX ⟨rfl, hM⟩
        refine hK.out _ _ ⟨_, _, hM⟩ (fun _ => ?_)
        clear hK K
        try simp only [Act.put, List.setIfInBounds_toArray, List.set_cons_zero, List.set_cons_succ]
        refine wpAnyH_take (i := 14) (oi := { dst := some 90, op := _, type := _, pos := _, after := _, guard := _ }) (v := ?_) rfl (by kernel_rfl) (by kernel_rfl) (by kernel_rfl) (fun _ _ _ h => h) (Or.inl ⟨by rfl, ?_⟩) ⟨_, _, hM⟩ ?_
        rotate_left
        · intro W hSw
          have d1 := hSw.cell c1
          have d2 := hSw.cell c2
          have d3 := hSw.cell c3
          go_simp
          first | done | rfl
        try simp only [Act.put, List.setIfInBounds_toArray, List.set_cons_zero, List.set_cons_succ]
        refine wpAnyH_done (by kernel_rfl) ?_ _
        refine NoPanic.normal ?_
        go_wp2_with fail
        obtain ⟨xr, cpr, rr, _, _⟩ := hM.cells
        obtain ⟨ln2, hln2⟩ : ∃ ln2, ln2 = L2.length := ⟨_, rfl⟩
        rw [← hln2] at rr
        have HLN2 := Lib.hid hln2
        clear hln2
        refine wp_region_noPanic ?_
        refine wp_region_held_drew (S := fun W => MM w W g c gr cap L2 L2 ∧ W.cell? ⟨gr, 1, none⟩ = some (.slice xr ln2 cpr)) (by kernel_rfl) (show MM w WX.drew g c gr cap L2 L2 ∧ WX.drew.cell? ⟨gr, 1, none⟩ = some (.slice xr ln2 cpr) from ⟨hM.later ⟨rfl, rfl, rfl, Nat.le_refl _, fun _ _ => rfl⟩, rr⟩) (fun hHeld => ?_)
        clear rr hM
        generalize WX.drew = w9 at *
        refine wpAnyH_take (i := 0) (oi := { dst := some 111, op := _, type := _, pos := _, after := _, guard := _ }) (v := ?_) rfl (by kernel_rfl) (by kernel_rfl) (by kernel_rfl) (fun _ _ _ h => h) (Or.inl ⟨by rfl, ?_⟩) hHeld ?_
        rotate_left
        · intro W hSw
          have rr := hSw.2
          go_simp
          first | done | rfl
        try simp only [Act.put, List.setIfInBounds_toArray, List.set_cons_zero, List.set_cons_succ]
        refine wpAnyH_take (i := 2) (oi := { dst := some 113, op := _, type := _, pos := _, after := _, guard := _ }) (v := ?_) rfl (by kernel_rfl) (by kernel_rfl) (by kernel_rfl) (fun _ _ _ h => h) (Or.inl ⟨by rfl, ?_⟩) hHeld ?_
        rotate_left
        · intro W hSw
          have rr := hSw.2
          go_simp
          first | done | rfl
        try simp only [Act.put, List.setIfInBounds_toArray, List.set_cons_zero, List.set_cons_succ]
        refine wpAnyH_take (i := 3) (oi := { dst := some 114, op := _, type := _, pos := _, after := _, guard := _ }) (v := ?_) rfl (by kernel_rfl) (by kernel_rfl) (by kernel_rfl) (fun _ _ _ h => h) (Or.inl ⟨by rfl, ?_⟩) hHeld ?_
        rotate_left
        · intro W hSw
          have rr := hSw.2
          go_simp
          first | done | rfl
        try simp only [Act.put, List.setIfInBounds_toArray, List.set_cons_zero, List.set_cons_succ]
        refine wpAnyH_take (i := 4) (oi := { dst := some 115, op := _, type := _, pos := _, after := _, guard := _ }) (v := ?_) rfl (by kernel_rfl) (by kernel_rfl) (by kernel_rfl) (fun _ _ _ h => h) (Or.inl ⟨by rfl, ?_⟩) hHeld ?_
        rotate_left
        · intro W hSw
          have rr := hSw.2
          go_simp
          first | done | rfl
        try simp only [Act.put, List.setIfInBounds_toArray, List.set_cons_zero, List.set_cons_succ]
        refine wpAnyH_take (i := 5) (oi := { dst := some 116, op := _, type := _, pos := _, after := _, guard := _ }) (v := ?_) rfl (by kernel_rfl) (by kernel_rfl) (by kernel_rfl) (fun _ _ _ h => h) (Or.inl ⟨by rfl, ?_⟩) hHeld ?_
        rotate_left
        · intro W hSw
          have rr := hSw.2
          go_simp
          first | done | rfl
        try simp only [Act.put, List.setIfInBounds_toArray, List.set_cons_zero, List.set_cons_succ]
        refine wpAnyH_take (i := 6) (oi := { dst := some 117, op := _, type := _, pos := _, after := _, guard := _ }) (v := ?_) rfl (by kernel_rfl) (by kernel_rfl) (by kernel_rfl) (fun _ _ _ h => h) (Or.inl ⟨by rfl, ?_⟩) hHeld ?_
        rotate_left
        · intro W hSw
          have rr := hSw.2
          go_simp
          first | done | rfl
        try simp only [Act.put, List.setIfInBounds_toArray, List.set_cons_zero, List.set_cons_succ]
        refine wpAnyH_ready (rs := [1]) (by kernel_rfl) (by simp) ?_
        refine AllReadyH.cons (o := { dst := some 112, op := _, type := _, pos := _, after := _, guard := _ }) rfl (fun K hK => ?_) AllReadyH.nil
        go_simp
        refine (mm_len2 hHeld.1).mono ?_
        rintro e wl ⟨rfl, rfl⟩
        rw [HLN2.out.symm]
        refine hK.out _ _ hHeld (fun _ => ?_)
        clear hK K
        try simp only [Act.put, List.setIfInBounds_toArray, List.set_cons_zero, List.set_cons_succ]
        refine wpAnyH_take (i := 7) (oi := { dst := some 118, op := _, type := _, pos := _, after := _, guard := _ }) (v := ?_) rfl (by kernel_rfl) (by kernel_rfl) (by kernel_rfl) (fun _ _ _ h => h) (Or.inl ⟨by rfl, ?_⟩) hHeld ?_
        rotate_left
        · intro W hSw
          have rr := hSw.2
          go_simp
          first | done | rfl
        try simp only [Act.put, List.setIfInBounds_toArray, List.set_cons_zero, List.set_cons_succ]
        refine wpAnyH_done (by kernel_rfl) ?_ _
        refine NoPanic.normal ?_
        go_wp2_with fail
        go_roundw
        case rel => exact ⟨j + 1, by omega, by omega, by go_num, L2, HL2.out, hHeld.1⟩
        case measure => simp [intOf]; omega
      · by_cases hk2 : kd = 2
        · subst hk2
          obtain ⟨y, ok, hy1, hy2, HT⟩ := mm_take HM0.out
          have HT := Lib.hid HT
          have HY1 := Lib.hid hy1
          have HY2 := Lib.hid hy2
          clear hy1 hy2 c1 c2 c3
          go_wp2_with fail
          refine (HT.out).mono ?_
          rintro e w4 ⟨rfl, hM4⟩
          have HR5 := Row.new w4 #[.int .i64 y.f, .int .i64 y.t, .string y.d] 40 w4.heap.size rfl
          have hlt5 : w4.heap.size < (w4.alloc (.cells #[.int .i64 y.f, .int .i64 y.t, .string y.d] 40)).heap.size := HR5.1
          obtain ⟨y2, ok2, h1, h2, HT2⟩ := mm_reftake hM4 (.cells #[.int .i64 y.f, .int .i64 y.t, .string y.d] 40) (by have := HLJ.out; omega)
          have hyy : y2 = y ∧ ok2 = ok := by
            cases hL : L with
            | nil =>
              obtain ⟨a1, a2⟩ := HY2.out hL
              obtain ⟨b1, b2⟩ := h2 hL
              exact ⟨b1.trans a1.symm, b2.trans a2.symm⟩
            | cons q r =>
              obtain ⟨a1, a2⟩ := HY1.out q r hL
              obtain ⟨b1, b2⟩ := h1 q r hL
              exact ⟨b1.trans a1.symm, b2.trans a2.symm⟩
          obtain ⟨e1, e2⟩ := hyy
          rw [e1, e2] at HT2
          have HT2 := Lib.hid HT2
          have HR5 := Lib.hid HR5
          clear h1 h2 e1 e2 hM4 HT HY1 HY2 hlt5
          go_wp2_with fail
          generalize w4.alloc (.cells #[.int .i64 y.f, .int .i64 y.t, .string y.d] 40) = w5 at *
          refine (HT2.out).mono ?_
          rintro e w6 ⟨rfl, hM6, hc6, hs6⟩
          have a0 : w6.cell? ⟨w4.heap.size, 0, none⟩ = some (.int .i64 y.f) := (hc6 0).trans (HR5.out.2 0 _ rfl)
          have a1 : w6.cell? ⟨w4.heap.size, 1, none⟩ = some (.int .i64 y.t) := (hc6 1).trans (HR5.out.2 1 _ rfl)
          have a2 : w6.cell? ⟨w4.heap.size, 2, none⟩ = some (.string y.d) := (hc6 2).trans (HR5.out.2 2 _ rfl)
          have HM7 := Lib.hid (hM6.later ((Below.refl _ _).alloc (Nat.le_refl _) (.cells #[.int .i64 y.f, .int .i64 y.t, .string y.d] 40)))
          clear hM6 hc6 HT2 HR5
          go_wp2_with fail
          generalize w6.alloc (.cells #[.int .i64 y.f, .int .i64 y.t, .string y.d] 40) = WX at *
          obtain ⟨L2, hL2e⟩ : ∃ L2, L2 = L.tail := ⟨_, rfl⟩
          have hM : MM w WX g c gr cap L2 L2 := by rw [hL2e]; exact HM7.out
          have HL2 : Hid (L2.length ≤ j + 1) := Lib.hid (by rw [hL2e, List.length_tail]; have := HLJ.out; omega)
          clear hL2e HM7 a0 a1 a2
          obtain ⟨xr, cpr, rr, _, _⟩ := hM.cells
          obtain ⟨ln2, hln2⟩ : ∃ ln2, ln2 = L2.length := ⟨_, rfl⟩
          rw [← hln2] at rr
          have HLN2 := Lib.hid hln2
          clear hln2
          refine wp_region_noPanic ?_
          refine wp_region_held_drew (S := fun W => MM w W g c gr cap L2 L2 ∧ W.cell? ⟨gr, 1, none⟩ = some (.slice xr ln2 cpr)) (by kernel_rfl) (show MM w WX.drew g c gr cap L2 L2 ∧ WX.drew.cell? ⟨gr, 1, none⟩ = some (.slice xr ln2 cpr) from ⟨hM.later ⟨rfl, rfl, rfl, Nat.le_refl _, fun _ _ => rfl⟩, rr⟩) (fun hHeld => ?_)
          clear rr hM
          generalize WX.drew = w9 at *
          refine wpAnyH_take (i := 0) (oi := { dst := some 111, op := _, type := _, pos := _, after := _, guard := _ }) (v := ?_) rfl (by kernel_rfl) (by kernel_rfl) (by kernel_rfl) (fun _ _ _ h => h) (Or.inl ⟨by rfl, ?_⟩) hHeld ?_
          rotate_left
          · intro W hSw
            have rr := hSw.2
            go_simp
            first | done | rfl
          try simp only [Act.put, List.setIfInBounds_toArray, List.set_cons_zero, List.set_cons_succ]
          refine wpAnyH_take (i := 2) (oi := { dst := some 113, op := _, type := _, pos := _, after := _, guard := _ }) (v := ?_) rfl (by kernel_rfl) (by kernel_rfl) (by kernel_rfl) (fun _ _ _ h => h) (Or.inl ⟨by rfl, ?_⟩) hHeld ?_
          rotate_left
          · intro W hSw
            have rr := hSw.2
            go_simp
            first | done | rfl
          try simp only [Act.put, List.setIfInBounds_toArray, List.set_cons_zero, List.set_cons_succ]
          refine wpAnyH_take (i := 3) (oi := { dst := some 114, op := _, type := _, pos := _, after := _, guard := _ }) (v := ?_) rfl (by kernel_rfl) (by kernel_rfl) (by kernel_rfl) (fun _ _ _ h => h) (Or.inl ⟨by rfl, ?_⟩) hHeld ?_
          rotate_left
          · intro W hSw
            have rr := hSw.2
            go_simp
            first | done | rfl
          try simp only [Act.put, List.setIfInBounds_toArray, List.set_cons_zero, List.set_cons_succ]
          refine wpAnyH_take (i := 4) (oi := { dst := some 115, op := _, type := _, pos := _, after := _, guard := _ }) (v := ?_) rfl (by kernel_rfl) (by kernel_rfl) (by kernel_rfl) (fun _ _ _ h => h) (Or.inl ⟨by rfl, ?_⟩) hHeld ?_
          rotate_left
          · intro W hSw
            have rr := hSw.2
            go_simp
            first | done | rfl
          try simp only [Act.put, List.setIfInBounds_toArray, List.set_cons_zero, List.set_cons_succ]
          refine wpAnyH_take (i := 5) (oi := { dst := some 116, op := _, type := _, pos := _, after := _, guard := _ }) (v := ?_) rfl (by kernel_rfl) (by kernel_rfl) (by kernel_rfl) (fun _ _ _ h => h) (Or.inl ⟨by rfl, ?_⟩) hHeld ?_
          rotate_left
          · intro W hSw
            have rr := hSw.2
            go_simp
            first | done | rfl
          try simp only [Act.put, List.setIfInBounds_toArray, List.set_cons_zero, List.set_cons_succ]
          refine wpAnyH_take (i := 6) (oi := { dst := some 117, op := _, type := _, pos := _, after := _, guard := _ }) (v := ?_) rfl (by kernel_rfl) (by kernel_rfl) (by kernel_rfl) (fun _ _ _ h => h) (Or.inl ⟨by rfl, ?_⟩) hHeld ?_
          rotate_left
          · intro W hSw
            have rr := hSw.2
            go_simp
            first | done | rfl
          try simp only [Act.put, List.setIfInBounds_toArray, List.set_cons_zero, List.set_cons_succ]
          refine wpAnyH_ready (rs := [1]) (by kernel_rfl) (by simp) ?_
          refine AllReadyH.cons (o := { dst := some 112, op := _, type := _, pos := _, after := _, guard := _ }) rfl (fun K hK => ?_) AllReadyH.nil
          go_simp
          refine (mm_len2 hHeld.1).mono ?_
          rintro e wl ⟨rfl, rfl⟩
          rw [HLN2.out.symm]
          refine hK.out _ _ hHeld (fun _ => ?_)
          clear hK K
          try simp only [Act.put, List.setIfInBounds_toArray, List.set_cons_zero, List.set_cons_succ]
          refine wpAnyH_take (i := 7) (oi := { dst := some 118, op := _, type := _, pos := _, after := _, guard := _ }) (v := ?_) rfl (by kernel_rfl) (by kernel_rfl) (by kernel_rfl) (fun _ _ _ h => h) (Or.inl ⟨by rfl, ?_⟩) hHeld ?_
          rotate_left
          · intro W hSw
            have rr := hSw.2
            go_simp
            first | done | rfl
          try simp only [Act.put, List.setIfInBounds_toArray, List.set_cons_zero, List.set_cons_succ]
          refine wpAnyH_done (by kernel_rfl) ?_ _
          refine NoPanic.normal ?_
          go_wp2_with fail
          go_roundw
          case rel => exact ⟨j + 1, by omega, by omega, by go_num, L2, HL2.out, hHeld.1⟩
          case measure => simp [intOf]; omega
        · have hk1' : (kd == 1) = false := by simp [hk1]
          have hk2' : (kd == 2) = false := by simp [hk2]
          clear hk1 hk2 c1 c2 c3
          go_wp2_with fail
          obtain ⟨xr, cpr, rr, _, _⟩ := HM0.out.cells
          obtain ⟨ln, hln⟩ : ∃ ln, ln = L.length := ⟨_, rfl⟩
          rw [← hln] at rr
          clear hln
          refine wp_region_noPanic ?_
          refine wp_region_held_drew (S := fun W => (∃ L', MM w W g c gr cap L' L) ∧ W.cell? ⟨gr, 1, none⟩ = some (.slice xr ln cpr)) (by kernel_rfl) (show (∃ L', MM w wr.drew g c gr cap L' L) ∧ wr.drew.cell? ⟨gr, 1, none⟩ = some (.slice xr ln cpr) from ⟨⟨_, HM0.out.later ⟨rfl, rfl, rfl, Nat.le_refl _, fun _ _ => rfl⟩⟩, rr⟩) (fun hHeld => ?_)
          have hM7 : MM w wr.drew g c gr cap L L := HM0.out.later ⟨rfl, rfl, rfl, Nat.le_refl _, fun _ _ => rfl⟩
          have rr : wr.drew.cell? ⟨gr, 1, none⟩ = some (.slice xr ln cpr) := rr
          generalize wr.drew = w7 at *
          refine wpAnyH_take (i := 0) (oi := { dst := some 63, op := _, type := _, pos := _, after := _, guard := _ }) (v := ?_) rfl (by kernel_rfl) (by kernel_rfl) (by kernel_rfl) (fun _ _ _ h => h) (Or.inl ⟨by rfl, ?_⟩) hHeld ?_
          rotate_left
          · intro W hSw
            have rs := hSw.2
            go_simp
            first | done | rfl
          try simp only [Act.put, List.setIfInBounds_toArray, List.set_cons_zero, List.set_cons_succ]
          refine wpAnyH_take (i := 2) (oi := { dst := some 65, op := _, type := _, pos := _, after := _, guard := _ }) (v := ?_) rfl (by kernel_rfl) (by kernel_rfl) (by kernel_rfl) (fun _ _ _ h => h) (Or.inl ⟨by rfl, ?_⟩) hHeld ?_
          rotate_left
          · intro W hSw
            have rs := hSw.2
            go_simp
            first | done | rfl
          try simp only [Act.put, List.setIfInBounds_toArray, List.set_cons_zero, List.set_cons_succ]
          refine wpAnyH_take (i := 3) (oi := { dst := some 66, op := _, type := _, pos := _, after := _, guard := _ }) (v := ?_) rfl (by kernel_rfl) (by kernel_rfl) (by kernel_rfl) (fun _ _ _ h => h) (Or.inl ⟨by rfl, ?_⟩) hHeld ?_
          rotate_left
          · intro W hSw
            have rs := hSw.2
            go_simp
            first | done | rfl
          try simp only [Act.put, List.setIfInBounds_toArray, List.set_cons_zero, List.set_cons_succ]
          refine wpAnyH_take (i := 4) (oi := { dst := some 67, op := _, type := _, pos := _, after := _, guard := _ }) (v := ?_) rfl (by kernel_rfl) (by kernel_rfl) (by kernel_rfl) (fun _ _ _ h => h) (Or.inl ⟨by rfl, ?_⟩) hHeld ?_
          rotate_left
          · intro W hSw
            have rs := hSw.2
            go_simp
            first | done | rfl
          try simp only [Act.put, List.setIfInBounds_toArray, List.set_cons_zero, List.set_cons_succ]
          refine wpAnyH_take (i := 5) (oi := { dst := some 68, op := _, type := _, pos := _, after := _, guard := _ }) (v := ?_) rfl (by kernel_rfl) (by kernel_rfl) (by kernel_rfl) (fun _ _ _ h => h) (Or.inl ⟨by rfl, ?_⟩) hHeld ?_
          rotate_left
          · intro W hSw
            have rs := hSw.2
            go_simp
            first | done | rfl
          try simp only [Act.put, List.setIfInBounds_toArray, List.set_cons_zero, List.set_cons_succ]
          refine wpAnyH_ready (rs := [1]) (by kernel_rfl) (by simp) ?_
          refine AllReadyH.cons (o := { dst := some 64, op := _, type := _, pos := _, after := _, guard := _ }) rfl (fun K hK => ?_) AllReadyH.nil
          go_simp
          refine (mm_all2 hM7 (by have := HLJ.out; omega) rr).mono ?_
          rintro e wa ⟨va, rfl, hRa, hRb, rra, hMa⟩
          refine hK.out _ _ ⟨⟨_, hMa⟩, rra⟩ (fun _ => ?_)
          clear hK K
          try simp only [Act.put, List.setIfInBounds_toArray, List.set_cons_zero, List.set_cons_succ]
          refine wpAnyH_ready (rs := [6]) (by kernel_rfl) (by simp) ?_
          refine AllReadyH.cons (o := { dst := some 69, op := _, type := _, pos := _, after := _, guard := _ }) rfl (fun K hK => ?_) AllReadyH.nil
          go_simp
          refine (mm_same2 (by have := HLJ.out; omega) hRa hRb).mono ?_
          rintro e WX ⟨rfl, ms, rfl⟩
          have hMs := hMa.drewN ms
          refine hK.out _ _ ⟨⟨_, hMs⟩, rra⟩ (fun _ => ?_)
          clear hK K
          try simp only [Act.put, List.setIfInBounds_toArray, List.set_cons_zero, List.set_cons_succ]
          refine wpAnyH_take (i := 7) (oi := { dst := some 70, op := _, type := _, pos := _, after := _, guard := _ }) (v := ?_) rfl (by kernel_rfl) (by kernel_rfl) (by kernel_rfl) (fun _ _ _ h => h) (Or.inl ⟨by rfl, ?_⟩) ⟨⟨_, hMs⟩, rra⟩ ?_
          rotate_left
          · intro W hSw
            have rs := hSw.2
            go_simp
            first | done | rfl
          try simp only [Act.put, List.setIfInBounds_toArray, List.set_cons_zero, List.set_cons_succ]
          refine wpAnyH_done (by kernel_rfl) ?_ _
          refine NoPanic.normal ?_
          obtain ⟨x9, cp9, q9, f9, _⟩ := hMs.cells
          have HMC := Lib.hid hMs.clear
          clear hMs hMa hRa hRb
          generalize wa.drewN ms = w8 at *
          go_wp2_with fail
          generalize w8.setCell ⟨gr, 1, none⟩ (.slice none 0 0) = WX at *
          obtain ⟨L2, hL2e⟩ : ∃ L2 : List Ltr, L2 = [] := ⟨_, rfl⟩
          have hM : MM w WX g c gr cap L2 L2 := by rw [hL2e]; exact HMC.out
          have HL2 : Hid (L2.length ≤ j + 1) := Lib.hid (by rw [hL2e]; simp)
          clear hL2e HMC q9 f9
          obtain ⟨xr, cpr, rr, _, _⟩ := hM.cells
          obtain ⟨ln2, hln2⟩ : ∃ ln2, ln2 = L2.length := ⟨_, rfl⟩
          rw [← hln2] at rr
          have HLN2 := Lib.hid hln2
          clear hln2
          refine wp_region_noPanic ?_
          refine wp_region_held_drew (S := fun W => MM w W g c gr cap L2 L2 ∧ W.cell? ⟨gr, 1, none⟩ = some (.slice xr ln2 cpr)) (by kernel_rfl) (show MM w WX.drew g c gr cap L2 L2 ∧ WX.drew.cell? ⟨gr, 1, none⟩ = some (.slice xr ln2 cpr) from ⟨hM.later ⟨rfl, rfl, rfl, Nat.le_refl _, fun _ _ => rfl⟩, rr⟩) (fun hHeld => ?_)
          clear rr hM
          generalize WX.drew = w9 at *
          refine wpAnyH_take (i := 0) (oi := { dst := some 111, op := _, type := _, pos := _, after := _, guard := _ }) (v := ?_) rfl (by kernel_rfl) (by kernel_rfl) (by kernel_rfl) (fun _ _ _ h => h) (Or.inl ⟨by rfl, ?_⟩) hHeld ?_
          rotate_left
          · intro W hSw
            have rr := hSw.2
            go_simp
            first | done | rfl
          try simp only [Act.put, List.setIfInBounds_toArray, List.set_cons_zero, List.set_cons_succ]
          refine wpAnyH_take (i := 2) (oi := { dst := some 113, op := _, type := _, pos := _, after := _, guard := _ }) (v := ?_) rfl (by kernel_rfl) (by kernel_rfl) (by kernel_rfl) (fun _ _ _ h => h) (Or.inl ⟨by rfl, ?_⟩) hHeld ?_
          rotate_left
          · intro W hSw
            have rr := hSw.2
            go_simp
            first | done | rfl
          try simp only [Act.put, List.setIfInBounds_toArray, List.set_cons_zero, List.set_cons_succ]
          refine wpAnyH_take (i := 3) (oi := { dst := some 114, op := _, type := _, pos := _, after := _, guard := _ }) (v := ?_) rfl (by kernel_rfl) (by kernel_rfl) (by kernel_rfl) (fun _ _ _ h => h) (Or.inl ⟨by rfl, ?_⟩) hHeld ?_
          rotate_left
          · intro W hSw
            have rr := hSw.2
            go_simp
            first | done | rfl
          try simp only [Act.put, List.setIfInBounds_toArray, List.set_cons_zero, List.set_cons_succ]
          refine wpAnyH_take (i := 4) (oi := { dst := some 115, op := _, type := _, pos := _, after := _, guard := _ }) (v := ?_) rfl (by kernel_rfl) (by kernel_rfl) (by kernel_rfl) (fun _ _ _ h => h) (Or.inl ⟨by rfl, ?_⟩) hHeld ?_
          rotate_left
          · intro W hSw
            have rr := hSw.2
            go_simp
            first | done | rfl
          try simp only [Act.put, List.setIfInBounds_toArray, List.set_cons_zero, List.set_cons_succ]
          refine wpAnyH_take (i := 5) (oi := { dst := some 116, op := _, type := _, pos := _, after := _, guard := _ }) (v := ?_) rfl (by kernel_rfl) (by kernel_rfl) (by kernel_rfl) (fun _ _ _ h => h) (Or.inl ⟨by rfl, ?_⟩) hHeld ?_
          rotate_left
          · intro W hSw
            have rr := hSw.2
            go_simp
            first | done | rfl
          try simp only [Act.put, List.setIfInBounds_toArray, List.set_cons_zero, List.set_cons_succ]
          refine wpAnyH_take (i := 6) (oi := { dst := some 117, op := _, type := _, pos := _, after := _, guard := _ }) (v := ?_) rfl (by kernel_rfl) (by kernel_rfl) (by kernel_rfl) (fun _ _ _ h => h) (Or.inl ⟨by rfl, ?_⟩) hHeld ?_
          rotate_left
          · intro W hSw
            have rr := hSw.2
            go_simp
            first | done | rfl
          try simp only [Act.put, List.setIfInBounds_toArray, List.set_cons_zero, List.set_cons_succ]
          refine wpAnyH_ready (rs := [1]) (by kernel_rfl) (by simp) ?_
          refine AllReadyH.cons (o := { dst := some 112, op := _, type := _, pos := _, after := _, guard := _ }) rfl (fun K hK => ?_) AllReadyH.nil
          go_simp
          refine (mm_len2 hHeld.1).mono ?_
          rintro e wl ⟨rfl, rfl⟩
          rw [HLN2.out.symm]
          refine hK.out _ _ hHeld (fun _ => ?_)
          clear hK K
          try simp only [Act.put, List.setIfInBounds_toArray, List.set_cons_zero, List.set_cons_succ]
          refine wpAnyH_take (i := 7) (oi := { dst := some 118, op := _, type := _, pos := _, after := _, guard := _ }) (v := ?_) rfl (by kernel_rfl) (by kernel_rfl) (by kernel_rfl) (fun _ _ _ h => h) (Or.inl ⟨by rfl, ?_⟩) hHeld ?_
          rotate_left
          · intro W hSw
            have rr := hSw.2
            go_simp
            first | done | rfl
          try simp only [Act.put, List.setIfInBounds_toArray, List.set_cons_zero, List.set_cons_succ]
          refine wpAnyH_done (by kernel_rfl) ?_ _
          refine NoPanic.normal ?_
          go_wp2_with fail
          go_roundw
          case rel => exact ⟨j + 1, by omega, by omega, by go_num, L2, HL2.out, hHeld.1⟩
          case measure => simp [intOf]; omega
    · have hbr : (¬ j < n) ∨ (j < n ∧ ¬ j < 80) := by omega
      clear hlt
      rcases hbr with q1 | ⟨q1, q2⟩
      all_goals
        go_wp2_with fail
        obtain ⟨xr, cpr, rr, _, _⟩ := HM0.out.cells
        obtain ⟨ln, hln⟩ : ∃ ln, ln = L.length := ⟨_, rfl⟩
        rw [← hln] at rr
        clear hln
        refine wp_region_noPanic ?_
        refine wp_region_held_drew (S := fun W => (∃ L', MM w W g c gr cap L' L) ∧ W.cell? ⟨gr, 1, none⟩ = some (.slice xr ln cpr)) (by kernel_rfl) (show (∃ L', MM w wr.drew g c gr cap L' L) ∧ wr.drew.cell? ⟨gr, 1, none⟩ = some (.slice xr ln cpr) from ⟨⟨_, HM0.out.later ⟨rfl, rfl, rfl, Nat.le_refl _, fun _ _ => rfl⟩⟩, rr⟩) (fun hHeld => ?_)
        have hM7 : MM w wr.drew g c gr cap L L := HM0.out.later ⟨rfl, rfl, rfl, Nat.le_refl _, fun _ _ => rfl⟩
        have rr : wr.drew.cell? ⟨gr, 1, none⟩ = some (.slice xr ln cpr) := rr
        generalize wr.drew = w7 at *
        refine wpAnyH_take (i := 0) (oi := { dst := some 119, op := _, type := _, pos := _, after := _, guard := _ }) (v := ?_) rfl (by kernel_rfl) (by kernel_rfl) (by kernel_rfl) (fun _ _ _ h => h) (Or.inl ⟨by rfl, ?_⟩) hHeld ?_
        rotate_left
        · intro W hSw
          have rs := hSw.2
          go_simp
          first | done | rfl
        try simp only [Act.put, List.setIfInBounds_toArray, List.set_cons_zero, List.set_cons_succ]
        refine wpAnyH_take (i := 2) (oi := { dst := some 121, op := _, type := _, pos := _, after := _, guard := _ }) (v := ?_) rfl (by kernel_rfl) (by kernel_rfl) (by kernel_rfl) (fun _ _ _ h => h) (Or.inl ⟨by rfl, ?_⟩) hHeld ?_
        rotate_left
        · intro W hSw
          have rs := hSw.2
          go_simp
          first | done | rfl
        try simp only [Act.put, List.setIfInBounds_toArray, List.set_cons_zero, List.set_cons_succ]
        refine wpAnyH_take (i := 3) (oi := { dst := some 122, op := _, type := _, pos := _, after := _, guard := _ }) (v := ?_) rfl (by kernel_rfl) (by kernel_rfl) (by kernel_rfl) (fun _ _ _ h => h) (Or.inl ⟨by rfl, ?_⟩) hHeld ?_
        rotate_left
        · intro W hSw
          have rs := hSw.2
          go_simp
          first | done | rfl
        try simp only [Act.put, List.setIfInBounds_toArray, List.set_cons_zero, List.set_cons_succ]
        refine wpAnyH_take (i := 4) (oi := { dst := some 123, op := _, type := _, pos := _, after := _, guard := _ }) (v := ?_) rfl (by kernel_rfl) (by kernel_rfl) (by kernel_rfl) (fun _ _ _ h => h) (Or.inl ⟨by rfl, ?_⟩) hHeld ?_
        rotate_left
        · intro W hSw
          have rs := hSw.2
          go_simp
          first | done | rfl
        try simp only [Act.put, List.setIfInBounds_toArray, List.set_cons_zero, List.set_cons_succ]
        refine wpAnyH_take (i := 5) (oi := { dst := some 124, op := _, type := _, pos := _, after := _, guard := _ }) (v := ?_) rfl (by kernel_rfl) (by kernel_rfl) (by kernel_rfl) (fun _ _ _ h => h) (Or.inl ⟨by rfl, ?_⟩) hHeld ?_
        rotate_left
        · intro W hSw
          have rs := hSw.2
          go_simp
          first | done | rfl
        try simp only [Act.put, List.setIfInBounds_toArray, List.set_cons_zero, List.set_cons_succ]
        refine wpAnyH_ready (rs := [1]) (by kernel_rfl) (by simp) ?_
        refine AllReadyH.cons (o := { dst := some 120, op := _, type := _, pos := _, after := _, guard := _ }) rfl (fun K hK => ?_) AllReadyH.nil
        go_simp
        refine (mm_all2 hM7 (by have := HLJ.out; omega) rr).mono ?_
        rintro e wa ⟨va, rfl, hRa, hRb, rra, hMa⟩
        refine hK.out _ _ ⟨⟨_, hMa⟩, rra⟩ (fun _ => ?_)
        clear hK K
        try simp only [Act.put, List.setIfInBounds_toArray, List.set_cons_zero, List.set_cons_succ]
        refine wpAnyH_ready (rs := [6]) (by kernel_rfl) (by simp) ?_
        refine AllReadyH.cons (o := { dst := some 125, op := _, type := _, pos := _, after := _, guard := _ }) rfl (fun K hK => ?_) AllReadyH.nil
        go_simp
        refine (mm_same2 (by have := HLJ.out; omega) hRa hRb).mono ?_
        rintro e WX ⟨rfl, ms, rfl⟩
        have hMs := hMa.drewN ms
        refine hK.out _ _ ⟨⟨_, hMs⟩, rra⟩ (fun _ => ?_)
        clear hK K
        try simp only [Act.put, List.setIfInBounds_toArray, List.set_cons_zero, List.set_cons_succ]
        refine wpAnyH_take (i := 7) (oi := { dst := some 4, op := _, type := _, pos := _, after := _, guard := _ }) (v := ?_) rfl (by kernel_rfl) (by kernel_rfl) (by kernel_rfl) (fun _ _ _ h => h) (Or.inl ⟨by rfl, ?_⟩) ⟨⟨_, hMs⟩, rra⟩ ?_
        rotate_left
        · intro W hSw
          have rs := hSw.2
          go_simp
          first | done | rfl
        try simp only [Act.put, List.setIfInBounds_toArray, List.set_cons_zero, List.set_cons_succ]
        refine wpAnyH_done (by kernel_rfl) ?_ _
        refine NoPanic.normal ?_
        have HEND := Lib.hid hMs.below
        clear hMs hMa hRa hRb
        go_wp2_with fail
        go_ret
        exact ⟨rfl, HEND.out⟩
end Go.Proofs.Ytnldjddmchfcoaa

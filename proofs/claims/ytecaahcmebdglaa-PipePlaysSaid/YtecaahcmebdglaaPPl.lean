/- The walk of PipePlays. -/
import Derived.Test.YtecaahcmebdglaaPipX
import Derived.Deep.RegionHeld3
import Derived.Test.YtecaahcmebdglaaPPlR
namespace Go.Proofs.Ytecaahcmebdglaa
open Go.RowKit
set_option linter.unusedVariables false
set_option maxRecDepth 100000 in
set_option maxHeartbeats 80000000 in
theorem plays_core (w : World) (c who k hd : Int) (ad : Option Addr) (cap : Nat) (L : List (List Value)) (cN : Nat) (hcN : c = (cN : Int)) (hc : c = 3 ∨ c = 5) (hw : 1 ≤ who ∧ who ≤ c) (h0 : 0 ≤ k) (h1 : hd ≤ 72057594037927935) (h2 : k ≤ hd) (h3 : hd - k ≤ 16) (hL : RowsAt w ad 3 L)
    (hlc : L.length ≤ cap) (hcap : cap ≤ maxLen) (ht : ∀ r ∈ L, ∃ (c0 : Int) (c1 : Int) (c2 : Int), r = [.int .i64 c0, .int .i64 c1, .int .i64 c2] ∧ (-9223372036854775808 ≤ c0 ∧ c0 ≤ 9223372036854775807) ∧ (-9223372036854775808 ≤ c1 ∧ c1 ≤ 9223372036854775807) ∧ (-9223372036854775808 ≤ c2 ∧ c2 ≤ 9223372036854775807)) :
    Calls Try.prog 12 #[.int .i64 c, .int .i64 who, .int .i64 k, .int .i64 hd, .slice ad L.length cap] w fun e w' => e = .returned (.bool true) ∧ Below w.heap.size w w' := by
  subst hcN
  have hrow := fun (W : World) (hb : Below w.heap.size w W) (i : Nat) (hi : i < L.length) => row3 hL ht i hi
  have HROW := Lib.hid hrow
  have HCAP := Lib.hid (And.intro hlc hcap)
  obtain ⟨n, hn⟩ : ∃ n, n = L.length := ⟨_, rfl⟩
  have HN := Lib.hid hn
  rw [← hn]
  clear hrow hL ht hlc hcap hn
  go_enter Try.func12, Try.ntmps12
  go_wp2_with fail
  refine (awake19_any _).mono ?_
  rintro e w1 ⟨rfl, hb1⟩
  have B1 := Lib.hid hb1
  clear hb1
  go_wp2_with fail
  refine (new_ok cN who k hd _ hc hw h0 h1 h2 h3).mono ?_
  rintro e w2 ⟨rfl, hP, hb2⟩
  have H2 := Lib.hid (And.intro hP (B1.out.trans (hb2.mono B1.out.size)))
  have hsz2 : w1.heap.size ≤ w2.heap.size := hb2.size
  clear hP hb2
  go_wp2_with fail
  refine (refnew_ok cN who k hd _ hc hw h0 h1 h2 h3).mono ?_
  rintro e w3 ⟨rfl, hR, hb3⟩
  obtain ⟨m, rfl⟩ : ∃ m : Nat, hd = k + m := ⟨(hd - k).toNat, by omega⟩
  rw [show (k + (m : Int) - k).toNat = m by omega] at H2 hR
  have hJ : JM w w3 w1.heap.size w2.heap.size cN who k (List.replicate m (Quo.wth 0 who)) k (k + ((List.replicate m (Quo.wth 0 who)).length : Int)) ((List.range m).map (fun (i : Nat) => (k + 1 + (i : Int), who))) := by
    rw [List.length_replicate]
    have hP := H2.out.1.lt
    have hbw := H2.out.2
    have hsz1 := B1.out.size
    refine ⟨_, _, hP.later hb3, hR.lt, fun q q1 q2 => ?_, fun q q1 => ⟨?_, ?_⟩, fun q q2 => ⟨?_, q2.2⟩, hbw.trans (hb3.mono hbw.size)⟩
    · have := q1.2; have := q2.1; omega
    · have := q1.1; omega
    · have := q1.2; have := hb3.size; omega
    · have := q2.1; omega
  have hS : SR cN who k (List.replicate m (Quo.wth 0 who)) ((List.range m).map (fun (i : Nat) => (k + 1 + (i : Int), who))) 16 :=
    ⟨Pip.Rel.new cN k who (by omega) (by omega) m, by omega, h0, by rw [List.length_replicate]; omega, by rw [List.length_replicate]; omega, by simp; omega⟩
  have HJ := Lib.hid (And.intro hJ hS)
  clear hJ hS hR hb3 H2 hsz2
  generalize w1.heap.size = gp at *
  generalize w2.heap.size = gr at *
  have HC := Lib.hid hc
  clear hw h0 h1 h2 h3 hc
  go_wp2_with fail
  go_loopw [15] (fun iv wr => ∃ j : Nat, j ≤ n ∧ j ≤ 80 ∧ iv = .int .i64 j ∧ ∃ (k : Int) (l : List Nat) (n : Nat) (row : List (Int × Int)), SR cN who k l row (16 + j) ∧ JS w wr gp gr cN who k l n row) (fun iv _ => 81 - (intOf iv).toNat)
  case atStart => exact ⟨0, by omega, by omega, rfl, k, _, _, _, HJ.out.2, rfl, HJ.out.1⟩
  case round =>
    clear HJ
    obtain ⟨j, hj, hj80, rfl, k, l, n1, row, hS, hJ⟩ := hrel
    by_cases hlt : j < n ∧ j < 80
    · obtain ⟨hlt1, hlt2⟩ := hlt
      have hb := hJ.below
      obtain ⟨b0, o0, x, y, z, rfl, c0, c1, c2, hy, hz⟩ := HROW.out wr hb j (by rw [← HN.out]; exact hlt1)
      have hjn : j < n := hlt1
      have c0' : wr.cell? ⟨b0, o0 + j * 3, none⟩ = some (.int .i64 x) := (hb.cell (cell_lt c0)).trans c0
      have c1' : wr.cell? ⟨b0, o0 + j * 3 + 1, none⟩ = some (.int .i64 y) := (hb.cell (cell_lt c1)).trans c1
      have c2' : wr.cell? ⟨b0, o0 + j * 3 + 2, none⟩ = some (.int .i64 z) := (hb.cell (cell_lt c2)).trans c2
      have HJS := Lib.hid (And.intro hJ hS)
      clear hb hJ hS c0 c1' c2'
      by_cases hx : x = 1
      · subst hx
        obtain ⟨l2, n2, row2, nv, ev, M, hS2, hn2e, HA1, HA2⟩ := js_add HJS.out.2 (by omega) HJS.out.1
        obtain ⟨k2, hk2e⟩ : ∃ k2, k2 = k := ⟨_, rfl⟩
        rw [← hk2e] at hS2 HA2
        have HS2 := Lib.hid hS2
        have HN2 := Lib.hid hn2e
        clear hS2 hn2e hk2e HJS
        have HA1 := Lib.hid HA1
        have HA2 := Lib.hid HA2
        go_wp2_with fail
        refine HA1.out.mono ?_
        rintro e w4 ⟨rfl, hM⟩
        go_wp2_with fail
        refine (HA2.out _ hM).mono ?_
        rintro e w5 ⟨rfl, hJ2⟩
        clear hM
        go_wp2_with fail
        have hk2 : 0 ≤ k2 ∧ k2 ≤ 72057594037927935 := ⟨HS2.out.k0, by have := HS2.out.k1; have := HS2.out.k0; omega⟩
        have hn2 : n2 ≤ 16 := by rw [HN2.out]; exact HS2.out.l16
        have hq2 : k2 + (n2 : Int) - k2 = n2 := by omega
        have hwk2 : IntKind.i64.wrap (k2 + 1) = k2 + 1 := IntWalk.i64_in _ (by omega)
        have hwn2 : IntKind.i64.wrap (n2 : Int) = n2 := IntWalk.i64_in _ (by omega)
        have HCM := Lib.hid (js_commit (w0 := w) (gp := gp) (gr := gr) (cN := cN) (n := n2) (who := who) (k := k2) (l := l2) (row := row2))
        have HHD := Lib.hid (js_head (w0 := w) (gp := gp) (gr := gr) (n := n2) HS2.out)
        have HRM := Lib.hid (js_room (w0 := w) (gp := gp) (gr := gr) (cN := cN) (n := n2) (who := who) (k := k2) (l := l2) (row := row2))
        have HDU := Lib.hid (js_due (w0 := w) (gp := gp) (gr := gr) (n := n2) HS2.out)
        have HRD := Lib.hid (js_refdue (w0 := w) (gp := gp) (gr := gr) (n := n2) HS2.out (by omega))
        have HSM := Lib.hid (fun W op v v2 => js_same (w0 := w) (gp := gp) (gr := gr) (cN := cN) (n := n2) (who := who) (k := k2) (l := l2) (row := row2) W op v v2 HS2.out.five)
        refine wp_region_noPanic ?_
        refine wp_region_held_drew (S := fun W => JS w W gp gr cN who k2 l2 n2 row2) (by kernel_rfl) (show JS w _ gp gr cN who k2 l2 n2 row2 from hJ2.later ⟨rfl, rfl, rfl, Nat.le_refl _, fun _ _ => rfl⟩) (fun hHeld => ?_)
        generalize World.drew _ = w9 at *
        refine wpAnyH_take (i := 0) (oi := { dst := some 110, op := _, type := _, pos := _, after := _, guard := _ }) (v := ?_) rfl (by kernel_rfl) (by kernel_rfl) (by kernel_rfl) (fun _ _ _ h => h) (Or.inl ⟨by rfl, ?_⟩) hHeld ?_
        rotate_left
        · intro W hSw
          have d1 := JS.cell hSw c1
          obtain ⟨e2, e3⟩ := JS.cells hSw
          go_simp
          first | done | rfl
        try simp only [Act.put, List.setIfInBounds_toArray, List.set_cons_zero, List.set_cons_succ]
        refine wpAnyH_take (i := 1) (oi := { dst := some 111, op := _, type := _, pos := _, after := _, guard := _ }) (v := ?_) rfl (by kernel_rfl) (by kernel_rfl) (by kernel_rfl) (fun _ _ _ h => h) (Or.inl ⟨by rfl, ?_⟩) hHeld ?_
        rotate_left
        · intro W hSw
          have d1 := JS.cell hSw c1
          obtain ⟨e2, e3⟩ := JS.cells hSw
          go_simp
          first | done | rfl
        try simp only [Act.put, List.setIfInBounds_toArray, List.set_cons_zero, List.set_cons_succ]
        refine wpAnyH_take (i := 2) (oi := { dst := some 112, op := _, type := _, pos := _, after := _, guard := _ }) (v := ?_) rfl (by kernel_rfl) (by kernel_rfl) (by kernel_rfl) (fun _ _ _ h => h) (Or.inl ⟨by rfl, ?_⟩) hHeld ?_
        rotate_left
        · intro W hSw
          have d1 := JS.cell hSw c1
          obtain ⟨e2, e3⟩ := JS.cells hSw
          go_simp
          first | done | rfl
        try simp only [Act.put, List.setIfInBounds_toArray, List.set_cons_zero, List.set_cons_succ]
        refine wpAnyH_take (i := 3) (oi := { dst := some 113, op := _, type := _, pos := _, after := _, guard := _ }) (v := ?_) rfl (by kernel_rfl) (by kernel_rfl) (by kernel_rfl) (fun _ _ _ h => h) (Or.inl ⟨by rfl, ?_⟩) hHeld ?_
        rotate_left
        · intro W hSw
          have d1 := JS.cell hSw c1
          obtain ⟨e2, e3⟩ := JS.cells hSw
          go_simp
          first | done | rfl
        try simp only [Act.put, List.setIfInBounds_toArray, List.set_cons_zero, List.set_cons_succ]
        refine wpAnyH_take (i := 4) (oi := { dst := some 114, op := _, type := _, pos := _, after := _, guard := _ }) (v := ?_) rfl (by kernel_rfl) (by kernel_rfl) (by kernel_rfl) (fun _ _ _ h => h) (Or.inl ⟨by rfl, ?_⟩) hHeld ?_
        rotate_left
        · intro W hSw
          have d1 := JS.cell hSw c1
          obtain ⟨e2, e3⟩ := JS.cells hSw
          go_simp
          first | done | rfl
        try simp only [Act.put, List.setIfInBounds_toArray, List.set_cons_zero, List.set_cons_succ]
        refine wpAnyH_take (i := 5) (oi := { dst := some 115, op := _, type := _, pos := _, after := _, guard := _ }) (v := ?_) rfl (by kernel_rfl) (by kernel_rfl) (by kernel_rfl) (fun _ _ _ h => h) (Or.inl ⟨by rfl, ?_⟩) hHeld ?_
        rotate_left
        · intro W hSw
          have d1 := JS.cell hSw c1
          obtain ⟨e2, e3⟩ := JS.cells hSw
          go_simp
          first | done | rfl
        try simp only [Act.put, List.setIfInBounds_toArray, List.set_cons_zero, List.set_cons_succ]
        refine wpAnyH_take (i := 6) (oi := { dst := some 116, op := _, type := _, pos := _, after := _, guard := _ }) (v := ?_) rfl (by kernel_rfl) (by kernel_rfl) (by kernel_rfl) (fun _ _ _ h => h) (Or.inl ⟨by rfl, ?_⟩) hHeld ?_
        rotate_left
        · intro W hSw
          have d1 := JS.cell hSw c1
          obtain ⟨e2, e3⟩ := JS.cells hSw
          go_simp
          first | done | rfl
        try simp only [Act.put, List.setIfInBounds_toArray, List.set_cons_zero, List.set_cons_succ]
        refine wpAnyH_take (i := 7) (oi := { dst := some 117, op := _, type := _, pos := _, after := _, guard := _ }) (v := ?_) rfl (by kernel_rfl) (by kernel_rfl) (by kernel_rfl) (fun _ _ _ h => h) (Or.inl ⟨by rfl, ?_⟩) hHeld ?_
        rotate_left
        · intro W hSw
          have d1 := JS.cell hSw c1
          obtain ⟨e2, e3⟩ := JS.cells hSw
          go_simp
          first | done | rfl
        try simp only [Act.put, List.setIfInBounds_toArray, List.set_cons_zero, List.set_cons_succ]
        refine wpAnyH_take (i := 8) (oi := { dst := some 118, op := _, type := _, pos := _, after := _, guard := _ }) (v := ?_) rfl (by kernel_rfl) (by kernel_rfl) (by kernel_rfl) (fun _ _ _ h => h) (Or.inl ⟨by rfl, ?_⟩) hHeld ?_
        rotate_left
        · intro W hSw
          have d1 := JS.cell hSw c1
          obtain ⟨e2, e3⟩ := JS.cells hSw
          go_simp
          first | done | rfl
        try simp only [Act.put, List.setIfInBounds_toArray, List.set_cons_zero, List.set_cons_succ]
        refine wpAnyH_take (i := 9) (oi := { dst := some 119, op := _, type := _, pos := _, after := _, guard := _ }) (v := ?_) rfl (by kernel_rfl) (by kernel_rfl) (by kernel_rfl) (fun _ _ _ h => h) (Or.inl ⟨by rfl, ?_⟩) hHeld ?_
        rotate_left
        · intro W hSw
          have d1 := JS.cell hSw c1
          obtain ⟨e2, e3⟩ := JS.cells hSw
          go_simp
          first | done | rfl
        try simp only [Act.put, List.setIfInBounds_toArray, List.set_cons_zero, List.set_cons_succ]
        refine wpAnyH_take (i := 11) (oi := { dst := some 121, op := _, type := _, pos := _, after := _, guard := _ }) (v := ?_) rfl (by kernel_rfl) (by kernel_rfl) (by kernel_rfl) (fun _ _ _ h => h) (Or.inl ⟨by rfl, ?_⟩) hHeld ?_
        rotate_left
        · intro W hSw
          have d1 := JS.cell hSw c1
          obtain ⟨e2, e3⟩ := JS.cells hSw
          go_simp
          first | done | rfl
        try simp only [Act.put, List.setIfInBounds_toArray, List.set_cons_zero, List.set_cons_succ]
        refine wpAnyH_take (i := 12) (oi := { dst := some 122, op := _, type := _, pos := _, after := _, guard := _ }) (v := ?_) rfl (by kernel_rfl) (by kernel_rfl) (by kernel_rfl) (fun _ _ _ h => h) (Or.inl ⟨by rfl, ?_⟩) hHeld ?_
        rotate_left
        · intro W hSw
          have d1 := JS.cell hSw c1
          obtain ⟨e2, e3⟩ := JS.cells hSw
          go_simp
          first | done | rfl
        try simp only [Act.put, List.setIfInBounds_toArray, List.set_cons_zero, List.set_cons_succ]
        refine wpAnyH_take (i := 13) (oi := { dst := some 123, op := _, type := _, pos := _, after := _, guard := _ }) (v := ?_) rfl (by kernel_rfl) (by kernel_rfl) (by kernel_rfl) (fun _ _ _ h => h) (Or.inl ⟨by rfl, ?_⟩) hHeld ?_
        rotate_left
        · intro W hSw
          have d1 := JS.cell hSw c1
          obtain ⟨e2, e3⟩ := JS.cells hSw
          go_simp
          first | done | rfl
        try simp only [Act.put, List.setIfInBounds_toArray, List.set_cons_zero, List.set_cons_succ]
        refine wpAnyH_take (i := 14) (oi := { dst := some 124, op := _, type := _, pos := _, after := _, guard := _ }) (v := ?_) rfl (by kernel_rfl) (by kernel_rfl) (by kernel_rfl) (fun _ _ _ h => h) (Or.inl ⟨by rfl, ?_⟩) hHeld ?_
        rotate_left
        · intro W hSw
          have d1 := JS.cell hSw c1
          obtain ⟨e2, e3⟩ := JS.cells hSw
          go_simp
          first | done | rfl
        try simp only [Act.put, List.setIfInBounds_toArray, List.set_cons_zero, List.set_cons_succ]
        refine wpAnyH_ready (rs := [10]) (by kernel_rfl) (by simp) ?_
        refine AllReadyH.cons (o := { dst := some 120, op := _, type := _, pos := _, after := _, guard := _ }) rfl (fun K hK => ?_) AllReadyH.nil
        go_simp
        refine (HCM.out _ hHeld).mono ?_
        rintro e wx10 ⟨rfl, hJ10⟩
        refine hK.out _ _ hJ10 (fun _ => ?_)
        clear hK K
        try simp only [Act.put, List.setIfInBounds_toArray, List.set_cons_zero, List.set_cons_succ]
        refine wpAnyH_take (i := 15) (oi := { dst := some 125, op := _, type := _, pos := _, after := _, guard := _ }) (v := ?_) rfl (by kernel_rfl) (by kernel_rfl) (by kernel_rfl) (fun _ _ _ h => h) (Or.inl ⟨by rfl, ?_⟩) hJ10 ?_
        rotate_left
        · intro W hSw
          have d1 := JS.cell hSw c1
          obtain ⟨e2, e3⟩ := JS.cells hSw
          go_simp
          first | done | rfl
        try simp only [Act.put, List.setIfInBounds_toArray, List.set_cons_zero, List.set_cons_succ]
        refine wpAnyH_take (i := 16) (oi := { dst := some 126, op := _, type := _, pos := _, after := _, guard := _ }) (v := ?_) rfl (by kernel_rfl) (by kernel_rfl) (by kernel_rfl) (fun _ _ _ h => h) (Or.inl ⟨by rfl, ?_⟩) hJ10 ?_
        rotate_left
        · intro W hSw
          have d1 := JS.cell hSw c1
          obtain ⟨e2, e3⟩ := JS.cells hSw
          go_simp
          first | done | rfl
        try simp only [Act.put, List.setIfInBounds_toArray, List.set_cons_zero, List.set_cons_succ]
        refine wpAnyH_take (i := 17) (oi := { dst := some 127, op := _, type := _, pos := _, after := _, guard := _ }) (v := ?_) rfl (by kernel_rfl) (by kernel_rfl) (by kernel_rfl) (fun _ _ _ h => h) (Or.inl ⟨by rfl, ?_⟩) hJ10 ?_
        rotate_left
        · intro W hSw
          have d1 := JS.cell hSw c1
          obtain ⟨e2, e3⟩ := JS.cells hSw
          go_simp
          first | done | rfl
        try simp only [Act.put, List.setIfInBounds_toArray, List.set_cons_zero, List.set_cons_succ]
        refine wpAnyH_take (i := 18) (oi := { dst := some 128, op := _, type := _, pos := _, after := _, guard := _ }) (v := ?_) rfl (by kernel_rfl) (by kernel_rfl) (by kernel_rfl) (fun _ _ _ h => h) (Or.inl ⟨by rfl, ?_⟩) hJ10 ?_
        rotate_left
        · intro W hSw
          have d1 := JS.cell hSw c1
          obtain ⟨e2, e3⟩ := JS.cells hSw
          go_simp
          first | done | rfl
        try simp only [Act.put, List.setIfInBounds_toArray, List.set_cons_zero, List.set_cons_succ]
        refine wpAnyH_take (i := 20) (oi := { dst := some 130, op := _, type := _, pos := _, after := _, guard := _ }) (v := ?_) rfl (by kernel_rfl) (by kernel_rfl) (by kernel_rfl) (fun _ _ _ h => h) (Or.inl ⟨by rfl, ?_⟩) hJ10 ?_
        rotate_left
        · intro W hSw
          have d1 := JS.cell hSw c1
          obtain ⟨e2, e3⟩ := JS.cells hSw
          go_simp
          first | done | rfl
        try simp only [Act.put, List.setIfInBounds_toArray, List.set_cons_zero, List.set_cons_succ]
        refine wpAnyH_take (i := 21) (oi := { dst := some 131, op := _, type := _, pos := _, after := _, guard := _ }) (v := ?_) rfl (by kernel_rfl) (by kernel_rfl) (by kernel_rfl) (fun _ _ _ h => h) (Or.inl ⟨by rfl, ?_⟩) hJ10 ?_
        rotate_left
        · intro W hSw
          have d1 := JS.cell hSw c1
          obtain ⟨e2, e3⟩ := JS.cells hSw
          go_simp
          first | done | rfl
        try simp only [Act.put, List.setIfInBounds_toArray, List.set_cons_zero, List.set_cons_succ]
        refine wpAnyH_take (i := 22) (oi := { dst := some 132, op := _, type := _, pos := _, after := _, guard := _ }) (v := ?_) rfl (by kernel_rfl) (by kernel_rfl) (by kernel_rfl) (fun _ _ _ h => h) (Or.inl ⟨by rfl, ?_⟩) hJ10 ?_
        rotate_left
        · intro W hSw
          have d1 := JS.cell hSw c1
          obtain ⟨e2, e3⟩ := JS.cells hSw
          go_simp
          first | done | rfl
        try simp only [Act.put, List.setIfInBounds_toArray, List.set_cons_zero, List.set_cons_succ]
        refine wpAnyH_take (i := 23) (oi := { dst := some 133, op := _, type := _, pos := _, after := _, guard := _ }) (v := ?_) rfl (by kernel_rfl) (by kernel_rfl) (by kernel_rfl) (fun _ _ _ h => h) (Or.inl ⟨by rfl, ?_⟩) hJ10 ?_
        rotate_left
        · intro W hSw
          have d1 := JS.cell hSw c1
          obtain ⟨e2, e3⟩ := JS.cells hSw
          go_simp
          first | done | rfl
        try simp only [Act.put, List.setIfInBounds_toArray, List.set_cons_zero, List.set_cons_succ]
        refine wpAnyH_ready (rs := [19]) (by kernel_rfl) (by simp) ?_
        refine AllReadyH.cons (o := { dst := some 129, op := _, type := _, pos := _, after := _, guard := _ }) rfl (fun K hK => ?_) AllReadyH.nil
        go_simp
        refine (HHD.out _ hJ10).mono ?_
        rintro e wx19 ⟨rfl, hJ19⟩
        refine hK.out _ _ hJ19 (fun _ => ?_)
        clear hK K
        try simp only [Act.put, List.setIfInBounds_toArray, List.set_cons_zero, List.set_cons_succ]
        refine wpAnyH_take (i := 24) (oi := { dst := some 134, op := _, type := _, pos := _, after := _, guard := _ }) (v := ?_) rfl (by kernel_rfl) (by kernel_rfl) (by kernel_rfl) (fun _ _ _ h => h) (Or.inl ⟨by rfl, ?_⟩) hJ19 ?_
        rotate_left
        · intro W hSw
          have d1 := JS.cell hSw c1
          obtain ⟨e2, e3⟩ := JS.cells hSw
          go_simp
          first | done | rfl
        try simp only [Act.put, List.setIfInBounds_toArray, List.set_cons_zero, List.set_cons_succ]
        refine wpAnyH_take (i := 25) (oi := { dst := some 135, op := _, type := _, pos := _, after := _, guard := _ }) (v := ?_) rfl (by kernel_rfl) (by kernel_rfl) (by kernel_rfl) (fun _ _ _ h => h) (Or.inl ⟨by rfl, ?_⟩) hJ19 ?_
        rotate_left
        · intro W hSw
          have d1 := JS.cell hSw c1
          obtain ⟨e2, e3⟩ := JS.cells hSw
          go_simp
          first | done | rfl
        try simp only [Act.put, List.setIfInBounds_toArray, List.set_cons_zero, List.set_cons_succ]
        refine wpAnyH_take (i := 26) (oi := { dst := some 136, op := _, type := _, pos := _, after := _, guard := _ }) (v := ?_) rfl (by kernel_rfl) (by kernel_rfl) (by kernel_rfl) (fun _ _ _ h => h) (Or.inl ⟨by rfl, ?_⟩) hJ19 ?_
        rotate_left
        · intro W hSw
          have d1 := JS.cell hSw c1
          obtain ⟨e2, e3⟩ := JS.cells hSw
          go_simp
          first | done | rfl
        try simp only [Act.put, List.setIfInBounds_toArray, List.set_cons_zero, List.set_cons_succ]
        refine wpAnyH_take (i := 27) (oi := { dst := some 137, op := _, type := _, pos := _, after := _, guard := _ }) (v := ?_) rfl (by kernel_rfl) (by kernel_rfl) (by kernel_rfl) (fun _ _ _ h => h) (Or.inl ⟨by rfl, ?_⟩) hJ19 ?_
        rotate_left
        · intro W hSw
          have d1 := JS.cell hSw c1
          obtain ⟨e2, e3⟩ := JS.cells hSw
          go_simp
          first | done | rfl
        try simp only [Act.put, List.setIfInBounds_toArray, List.set_cons_zero, List.set_cons_succ]
        refine wpAnyH_take (i := 29) (oi := { dst := some 139, op := _, type := _, pos := _, after := _, guard := _ }) (v := ?_) rfl (by kernel_rfl) (by kernel_rfl) (by kernel_rfl) (fun _ _ _ h => h) (Or.inl ⟨by rfl, ?_⟩) hJ19 ?_
        rotate_left
        · intro W hSw
          have d1 := JS.cell hSw c1
          obtain ⟨e2, e3⟩ := JS.cells hSw
          go_simp
          first | done | rfl
        try simp only [Act.put, List.setIfInBounds_toArray, List.set_cons_zero, List.set_cons_succ]
        refine wpAnyH_take (i := 33) (oi := { dst := some 143, op := _, type := _, pos := _, after := _, guard := _ }) (v := ?_) rfl (by kernel_rfl) (by kernel_rfl) (by kernel_rfl) (fun _ _ _ h => h) (Or.inl ⟨by rfl, ?_⟩) hJ19 ?_
        rotate_left
        · intro W hSw
          have d1 := JS.cell hSw c1
          obtain ⟨e2, e3⟩ := JS.cells hSw
          go_simp
          first | done | rfl
        try simp only [Act.put, List.setIfInBounds_toArray, List.set_cons_zero, List.set_cons_succ]
        refine wpAnyH_take (i := 30) (oi := { dst := some 140, op := _, type := _, pos := _, after := _, guard := _ }) (v := ?_) rfl (by kernel_rfl) (by kernel_rfl) (by kernel_rfl) (fun _ _ _ h => h) (Or.inl ⟨by rfl, ?_⟩) hJ19 ?_
        rotate_left
        · intro W hSw
          have d1 := JS.cell hSw c1
          obtain ⟨e2, e3⟩ := JS.cells hSw
          go_simp
          first | done | rfl
        try simp only [Act.put, List.setIfInBounds_toArray, List.set_cons_zero, List.set_cons_succ]
        refine wpAnyH_take (i := 34) (oi := { dst := some 144, op := _, type := _, pos := _, after := _, guard := _ }) (v := ?_) rfl (by kernel_rfl) (by kernel_rfl) (by kernel_rfl) (fun _ _ _ h => h) (Or.inl ⟨by rfl, ?_⟩) hJ19 ?_
        rotate_left
        · intro W hSw
          have d1 := JS.cell hSw c1
          obtain ⟨e2, e3⟩ := JS.cells hSw
          go_simp
          first | done | rfl
        try simp only [Act.put, List.setIfInBounds_toArray, List.set_cons_zero, List.set_cons_succ]
        refine wpAnyH_take (i := 31) (oi := { dst := some 141, op := _, type := _, pos := _, after := _, guard := _ }) (v := ?_) rfl (by kernel_rfl) (by kernel_rfl) (by kernel_rfl) (fun _ _ _ h => h) (Or.inl ⟨by rfl, ?_⟩) hJ19 ?_
        rotate_left
        · intro W hSw
          have d1 := JS.cell hSw c1
          obtain ⟨e2, e3⟩ := JS.cells hSw
          go_simp
          first | done | rfl
        try simp only [Act.put, List.setIfInBounds_toArray, List.set_cons_zero, List.set_cons_succ]
        refine wpAnyH_take (i := 35) (oi := { dst := some 145, op := _, type := _, pos := _, after := _, guard := _ }) (v := ?_) rfl (by kernel_rfl) (by kernel_rfl) (by kernel_rfl) (fun _ _ _ h => h) (Or.inl ⟨by rfl, ?_⟩) hJ19 ?_
        rotate_left
        · intro W hSw
          have d1 := JS.cell hSw c1
          obtain ⟨e2, e3⟩ := JS.cells hSw
          go_simp
          first | done | rfl
        try simp only [Act.put, List.setIfInBounds_toArray, List.set_cons_zero, List.set_cons_succ]
        refine wpAnyH_take (i := 32) (oi := { dst := some 142, op := _, type := _, pos := _, after := _, guard := _ }) (v := ?_) rfl (by kernel_rfl) (by kernel_rfl) (by kernel_rfl) (fun _ _ _ h => h) (Or.inl ⟨by rfl, ?_⟩) hJ19 ?_
        rotate_left
        · intro W hSw
          have d1 := JS.cell hSw c1
          obtain ⟨e2, e3⟩ := JS.cells hSw
          go_simp
          first | done | rfl
        try simp only [Act.put, List.setIfInBounds_toArray, List.set_cons_zero, List.set_cons_succ]
        refine wpAnyH_take (i := 36) (oi := { dst := some 146, op := _, type := _, pos := _, after := _, guard := _ }) (v := ?_) rfl (by kernel_rfl) (by kernel_rfl) (by kernel_rfl) (fun _ _ _ h => h) (Or.inl ⟨by rfl, ?_⟩) hJ19 ?_
        rotate_left
        · intro W hSw
          have d1 := JS.cell hSw c1
          obtain ⟨e2, e3⟩ := JS.cells hSw
          go_simp
          first | done | rfl
        try simp only [Act.put, List.setIfInBounds_toArray, List.set_cons_zero, List.set_cons_succ]
        refine wpAnyH_take (i := 37) (oi := { dst := some 147, op := _, type := _, pos := _, after := _, guard := _ }) (v := ?_) rfl (by kernel_rfl) (by kernel_rfl) (by kernel_rfl) (fun _ _ _ h => h) (Or.inl ⟨by rfl, ?_⟩) hJ19 ?_
        rotate_left
        · intro W hSw
          have d1 := JS.cell hSw c1
          obtain ⟨e2, e3⟩ := JS.cells hSw
          go_simp
          first | done | rfl
        try simp only [Act.put, List.setIfInBounds_toArray, List.set_cons_zero, List.set_cons_succ]
        refine wpAnyH_take (i := 38) (oi := { dst := some 148, op := _, type := _, pos := _, after := _, guard := _ }) (v := ?_) rfl (by kernel_rfl) (by kernel_rfl) (by kernel_rfl) (fun _ _ _ h => h) (Or.inl ⟨by rfl, ?_⟩) hJ19 ?_
        rotate_left
        · intro W hSw
          have d1 := JS.cell hSw c1
          obtain ⟨e2, e3⟩ := JS.cells hSw
          go_simp
          first | done | rfl
        try simp only [Act.put, List.setIfInBounds_toArray, List.set_cons_zero, List.set_cons_succ]
        refine wpAnyH_ready (rs := [28]) (by kernel_rfl) (by simp) ?_
        refine AllReadyH.cons (o := { dst := some 138, op := _, type := _, pos := _, after := _, guard := _ }) rfl (fun K hK => ?_) AllReadyH.nil
        go_simp
        refine (HRM.out _ hJ19).mono ?_
        rintro e wx28 ⟨rfl, hJ28⟩
        refine hK.out _ _ hJ28 (fun _ => ?_)
        clear hK K
        try simp only [Act.put, List.setIfInBounds_toArray, List.set_cons_zero, List.set_cons_succ]
        refine wpAnyH_take (i := 39) (oi := { dst := some 149, op := _, type := _, pos := _, after := _, guard := _ }) (v := ?_) rfl (by kernel_rfl) (by kernel_rfl) (by kernel_rfl) (fun _ _ _ h => h) (Or.inl ⟨by rfl, ?_⟩) hJ28 ?_
        rotate_left
        · intro W hSw
          have d1 := JS.cell hSw c1
          obtain ⟨e2, e3⟩ := JS.cells hSw
          go_simp
          first | done | rfl
        try simp only [Act.put, List.setIfInBounds_toArray, List.set_cons_zero, List.set_cons_succ]
        refine wpAnyH_take (i := 40) (oi := { dst := some 150, op := _, type := _, pos := _, after := _, guard := _ }) (v := ?_) rfl (by kernel_rfl) (by kernel_rfl) (by kernel_rfl) (fun _ _ _ h => h) (Or.inl ⟨by rfl, ?_⟩) hJ28 ?_
        rotate_left
        · intro W hSw
          have d1 := JS.cell hSw c1
          obtain ⟨e2, e3⟩ := JS.cells hSw
          go_simp
          first | done | rfl
        try simp only [Act.put, List.setIfInBounds_toArray, List.set_cons_zero, List.set_cons_succ]
        refine wpAnyH_take (i := 41) (oi := { dst := some 151, op := _, type := _, pos := _, after := _, guard := _ }) (v := ?_) rfl (by kernel_rfl) (by kernel_rfl) (by kernel_rfl) (fun _ _ _ h => h) (Or.inl ⟨by rfl, ?_⟩) hJ28 ?_
        rotate_left
        · intro W hSw
          have d1 := JS.cell hSw c1
          obtain ⟨e2, e3⟩ := JS.cells hSw
          go_simp
          first | done | rfl
        try simp only [Act.put, List.setIfInBounds_toArray, List.set_cons_zero, List.set_cons_succ]
        refine wpAnyH_take (i := 42) (oi := { dst := some 152, op := _, type := _, pos := _, after := _, guard := _ }) (v := ?_) rfl (by kernel_rfl) (by kernel_rfl) (by kernel_rfl) (fun _ _ _ h => h) (Or.inl ⟨by rfl, ?_⟩) hJ28 ?_
        rotate_left
        · intro W hSw
          have d1 := JS.cell hSw c1
          obtain ⟨e2, e3⟩ := JS.cells hSw
          go_simp
          first | done | rfl
        try simp only [Act.put, List.setIfInBounds_toArray, List.set_cons_zero, List.set_cons_succ]
        refine wpAnyH_take (i := 43) (oi := { dst := some 153, op := _, type := _, pos := _, after := _, guard := _ }) (v := ?_) rfl (by kernel_rfl) (by kernel_rfl) (by kernel_rfl) (fun _ _ _ h => h) (Or.inl ⟨by rfl, ?_⟩) hJ28 ?_
        rotate_left
        · intro W hSw
          have d1 := JS.cell hSw c1
          obtain ⟨e2, e3⟩ := JS.cells hSw
          go_simp
          first | done | rfl
        try simp only [Act.put, List.setIfInBounds_toArray, List.set_cons_zero, List.set_cons_succ]
        refine wpAnyH_take (i := 44) (oi := { dst := some 154, op := _, type := _, pos := _, after := _, guard := _ }) (v := ?_) rfl (by kernel_rfl) (by kernel_rfl) (by kernel_rfl) (fun _ _ _ h => h) (Or.inl ⟨by rfl, ?_⟩) hJ28 ?_
        rotate_left
        · intro W hSw
          have d1 := JS.cell hSw c1
          obtain ⟨e2, e3⟩ := JS.cells hSw
          go_simp
          first | done | rfl
        try simp only [Act.put, List.setIfInBounds_toArray, List.set_cons_zero, List.set_cons_succ]
        refine wpAnyH_take (i := 49) (oi := { dst := some 159, op := _, type := _, pos := _, after := _, guard := _ }) (v := ?_) rfl (by kernel_rfl) (by kernel_rfl) (by kernel_rfl) (fun _ _ _ h => h) (Or.inl ⟨by rfl, ?_⟩) hJ28 ?_
        rotate_left
        · intro W hSw
          have d1 := JS.cell hSw c1
          obtain ⟨e2, e3⟩ := JS.cells hSw
          go_simp
          first | done | rfl
        try simp only [Act.put, List.setIfInBounds_toArray, List.set_cons_zero, List.set_cons_succ]
        refine wpAnyH_take (i := 50) (oi := { dst := some 160, op := _, type := _, pos := _, after := _, guard := _ }) (v := ?_) rfl (by kernel_rfl) (by kernel_rfl) (by kernel_rfl) (fun _ _ _ h => h) (Or.inl ⟨by rfl, ?_⟩) hJ28 ?_
        rotate_left
        · intro W hSw
          have d1 := JS.cell hSw c1
          obtain ⟨e2, e3⟩ := JS.cells hSw
          go_simp
          first | done | rfl
        try simp only [Act.put, List.setIfInBounds_toArray, List.set_cons_zero, List.set_cons_succ]
        refine wpAnyH_take (i := 51) (oi := { dst := some 161, op := _, type := _, pos := _, after := _, guard := _ }) (v := ?_) rfl (by kernel_rfl) (by kernel_rfl) (by kernel_rfl) (fun _ _ _ h => h) (Or.inl ⟨by rfl, ?_⟩) hJ28 ?_
        rotate_left
        · intro W hSw
          have d1 := JS.cell hSw c1
          obtain ⟨e2, e3⟩ := JS.cells hSw
          go_simp
          first | done | rfl
        try simp only [Act.put, List.setIfInBounds_toArray, List.set_cons_zero, List.set_cons_succ]
        refine wpAnyH_take (i := 45) (oi := { dst := some 155, op := _, type := _, pos := _, after := _, guard := _ }) (v := ?_) rfl (by kernel_rfl) (by kernel_rfl) (by kernel_rfl) (fun _ _ _ h => h) (Or.inl ⟨by rfl, ?_⟩) hJ28 ?_
        rotate_left
        · intro W hSw
          have d1 := JS.cell hSw c1
          obtain ⟨e2, e3⟩ := JS.cells hSw
          go_simp
          first | done | rfl
        try simp only [Act.put, List.setIfInBounds_toArray, List.set_cons_zero, List.set_cons_succ]
        refine wpAnyH_take (i := 52) (oi := { dst := some 162, op := _, type := _, pos := _, after := _, guard := _ }) (v := ?_) rfl (by kernel_rfl) (by kernel_rfl) (by kernel_rfl) (fun _ _ _ h => h) (Or.inl ⟨by rfl, ?_⟩) hJ28 ?_
        rotate_left
        · intro W hSw
          have d1 := JS.cell hSw c1
          obtain ⟨e2, e3⟩ := JS.cells hSw
          go_simp
          first | done | rfl
        try simp only [Act.put, List.setIfInBounds_toArray, List.set_cons_zero, List.set_cons_succ]
        refine wpAnyH_take (i := 46) (oi := { dst := some 156, op := _, type := _, pos := _, after := _, guard := _ }) (v := ?_) rfl (by kernel_rfl) (by kernel_rfl) (by kernel_rfl) (fun _ _ _ h => h) (Or.inl ⟨by rfl, ?_⟩) hJ28 ?_
        rotate_left
        · intro W hSw
          have d1 := JS.cell hSw c1
          obtain ⟨e2, e3⟩ := JS.cells hSw
          go_simp
          first | done | rfl
        try simp only [Act.put, List.setIfInBounds_toArray, List.set_cons_zero, List.set_cons_succ]
        refine wpAnyH_take (i := 53) (oi := { dst := some 163, op := _, type := _, pos := _, after := _, guard := _ }) (v := ?_) rfl (by kernel_rfl) (by kernel_rfl) (by kernel_rfl) (fun _ _ _ h => h) (Or.inl ⟨by rfl, ?_⟩) hJ28 ?_
        rotate_left
        · intro W hSw
          have d1 := JS.cell hSw c1
          obtain ⟨e2, e3⟩ := JS.cells hSw
          go_simp
          first | done | rfl
        try simp only [Act.put, List.setIfInBounds_toArray, List.set_cons_zero, List.set_cons_succ]
        refine wpAnyH_take (i := 47) (oi := { dst := some 157, op := _, type := _, pos := _, after := _, guard := _ }) (v := ?_) rfl (by kernel_rfl) (by kernel_rfl) (by kernel_rfl) (fun _ _ _ h => h) (Or.inl ⟨by rfl, ?_⟩) hJ28 ?_
        rotate_left
        · intro W hSw
          have d1 := JS.cell hSw c1
          obtain ⟨e2, e3⟩ := JS.cells hSw
          go_simp
          first | done | rfl
        try simp only [Act.put, List.setIfInBounds_toArray, List.set_cons_zero, List.set_cons_succ]
        refine wpAnyH_take (i := 54) (oi := { dst := some 164, op := _, type := _, pos := _, after := _, guard := _ }) (v := ?_) rfl (by kernel_rfl) (by kernel_rfl) (by kernel_rfl) (fun _ _ _ h => h) (Or.inl ⟨by rfl, ?_⟩) hJ28 ?_
        rotate_left
        · intro W hSw
          have d1 := JS.cell hSw c1
          obtain ⟨e2, e3⟩ := JS.cells hSw
          go_simp
          first | done | rfl
        try simp only [Act.put, List.setIfInBounds_toArray, List.set_cons_zero, List.set_cons_succ]
        refine wpAnyH_ready (rs := [48]) (by kernel_rfl) (by simp) ?_
        refine AllReadyH.cons (o := { dst := some 158, op := _, type := _, pos := _, after := _, guard := _ }) rfl (fun K hK => ?_) AllReadyH.nil
        go_simp
        refine (HDU.out _ y hJ28).mono ?_
        rintro e wx48 ⟨v48, rfl, hR48, hJ48⟩
        refine hK.out _ _ hJ48 (fun _ => ?_)
        clear hK K
        try simp only [Act.put, List.setIfInBounds_toArray, List.set_cons_zero, List.set_cons_succ]
        refine wpAnyH_ready (rs := [55]) (by kernel_rfl) (by simp) ?_
        refine AllReadyH.cons (o := { dst := some 165, op := _, type := _, pos := _, after := _, guard := _ }) rfl (fun K hK => ?_) AllReadyH.nil
        go_simp
        refine (HRD.out _ y v48 hJ48 hR48).mono ?_
        rintro e wx55 ⟨v55, rfl, hQ48, hR55, hJ55⟩
        refine hK.out _ _ hJ55 (fun _ => ?_)
        clear hK K
        try simp only [Act.put, List.setIfInBounds_toArray, List.set_cons_zero, List.set_cons_succ]
        refine wpAnyH_ready (rs := [56]) (by kernel_rfl) (by simp) ?_
        refine AllReadyH.cons (o := { dst := some 166, op := _, type := _, pos := _, after := _, guard := _ }) rfl (fun K hK => ?_) AllReadyH.nil
        go_simp
        refine (HSM.out _ _ v48 v55 hJ55 hQ48 hR55).mono ?_
        rintro e wx56 ⟨rfl, hJ56⟩
        refine hK.out _ _ hJ56 (fun _ => ?_)
        clear hK K
        try simp only [Act.put, List.setIfInBounds_toArray, List.set_cons_zero, List.set_cons_succ]
        refine wpAnyH_take (i := 57) (oi := { dst := some 167, op := _, type := _, pos := _, after := _, guard := _ }) (v := ?_) rfl (by kernel_rfl) (by kernel_rfl) (by kernel_rfl) (fun _ _ _ h => h) (Or.inl ⟨by rfl, ?_⟩) hJ56 ?_
        rotate_left
        · intro W hSw
          have d1 := JS.cell hSw c1
          obtain ⟨e2, e3⟩ := JS.cells hSw
          go_simp
          first | done | rfl
        try simp only [Act.put, List.setIfInBounds_toArray, List.set_cons_zero, List.set_cons_succ]
        refine wpAnyH_take (i := 58) (oi := { dst := some 168, op := _, type := _, pos := _, after := _, guard := _ }) (v := ?_) rfl (by kernel_rfl) (by kernel_rfl) (by kernel_rfl) (fun _ _ _ h => h) (Or.inl ⟨by rfl, ?_⟩) hJ56 ?_
        rotate_left
        · intro W hSw
          have d1 := JS.cell hSw c1
          obtain ⟨e2, e3⟩ := JS.cells hSw
          go_simp
          first | done | rfl
        try simp only [Act.put, List.setIfInBounds_toArray, List.set_cons_zero, List.set_cons_succ]
        refine wpAnyH_take (i := 59) (oi := { dst := some 169, op := _, type := _, pos := _, after := _, guard := _ }) (v := ?_) rfl (by kernel_rfl) (by kernel_rfl) (by kernel_rfl) (fun _ _ _ h => h) (Or.inl ⟨by rfl, ?_⟩) hJ56 ?_
        rotate_left
        · intro W hSw
          have d1 := JS.cell hSw c1
          obtain ⟨e2, e3⟩ := JS.cells hSw
          go_simp
          first | done | rfl
        try simp only [Act.put, List.setIfInBounds_toArray, List.set_cons_zero, List.set_cons_succ]
        refine wpAnyH_take (i := 60) (oi := { dst := some 170, op := _, type := _, pos := _, after := _, guard := _ }) (v := ?_) rfl (by kernel_rfl) (by kernel_rfl) (by kernel_rfl) (fun _ _ _ h => h) (Or.inl ⟨by rfl, ?_⟩) hJ56 ?_
        rotate_left
        · intro W hSw
          have d1 := JS.cell hSw c1
          obtain ⟨e2, e3⟩ := JS.cells hSw
          go_simp
          first | done | rfl
        try simp only [Act.put, List.setIfInBounds_toArray, List.set_cons_zero, List.set_cons_succ]
        refine wpAnyH_take (i := 61) (oi := { dst := some 171, op := _, type := _, pos := _, after := _, guard := _ }) (v := ?_) rfl (by kernel_rfl) (by kernel_rfl) (by kernel_rfl) (fun _ _ _ h => h) (Or.inl ⟨by rfl, ?_⟩) hJ56 ?_
        rotate_left
        · intro W hSw
          have d1 := JS.cell hSw c1
          obtain ⟨e2, e3⟩ := JS.cells hSw
          go_simp
          first | done | rfl
        try simp only [Act.put, List.setIfInBounds_toArray, List.set_cons_zero, List.set_cons_succ]
        refine wpAnyH_take (i := 67) (oi := { dst := some 177, op := _, type := _, pos := _, after := _, guard := _ }) (v := ?_) rfl (by kernel_rfl) (by kernel_rfl) (by kernel_rfl) (fun _ _ _ h => h) (Or.inl ⟨by rfl, ?_⟩) hJ56 ?_
        rotate_left
        · intro W hSw
          have d1 := JS.cell hSw c1
          obtain ⟨e2, e3⟩ := JS.cells hSw
          go_simp
          first | done | rfl
        try simp only [Act.put, List.setIfInBounds_toArray, List.set_cons_zero, List.set_cons_succ]
        refine wpAnyH_take (i := 68) (oi := { dst := some 178, op := _, type := _, pos := _, after := _, guard := _ }) (v := ?_) rfl (by kernel_rfl) (by kernel_rfl) (by kernel_rfl) (fun _ _ _ h => h) (Or.inl ⟨by rfl, ?_⟩) hJ56 ?_
        rotate_left
        · intro W hSw
          have d1 := JS.cell hSw c1
          obtain ⟨e2, e3⟩ := JS.cells hSw
          go_simp
          first | done | rfl
        try simp only [Act.put, List.setIfInBounds_toArray, List.set_cons_zero, List.set_cons_succ]
        refine wpAnyH_take (i := 62) (oi := { dst := some 172, op := _, type := _, pos := _, after := _, guard := _ }) (v := ?_) rfl (by kernel_rfl) (by kernel_rfl) (by kernel_rfl) (fun _ _ _ h => h) (Or.inl ⟨by rfl, ?_⟩) hJ56 ?_
        rotate_left
        · intro W hSw
          have d1 := JS.cell hSw c1
          obtain ⟨e2, e3⟩ := JS.cells hSw
          go_simp
          first | done | rfl
        try simp only [Act.put, List.setIfInBounds_toArray, List.set_cons_zero, List.set_cons_succ]
        refine wpAnyH_take (i := 69) (oi := { dst := some 179, op := _, type := _, pos := _, after := _, guard := _ }) (v := ?_) rfl (by kernel_rfl) (by kernel_rfl) (by kernel_rfl) (fun _ _ _ h => h) (Or.inl ⟨by rfl, ?_⟩) hJ56 ?_
        rotate_left
        · intro W hSw
          have d1 := JS.cell hSw c1
          obtain ⟨e2, e3⟩ := JS.cells hSw
          go_simp
          first | done | rfl
        try simp only [Act.put, List.setIfInBounds_toArray, List.set_cons_zero, List.set_cons_succ]
        refine wpAnyH_take (i := 63) (oi := { dst := some 173, op := _, type := _, pos := _, after := _, guard := _ }) (v := ?_) rfl (by kernel_rfl) (by kernel_rfl) (by kernel_rfl) (fun _ _ _ h => h) (Or.inl ⟨by rfl, ?_⟩) hJ56 ?_
        rotate_left
        · intro W hSw
          have d1 := JS.cell hSw c1
          obtain ⟨e2, e3⟩ := JS.cells hSw
          go_simp
          first | done | rfl
        try simp only [Act.put, List.setIfInBounds_toArray, List.set_cons_zero, List.set_cons_succ]
        refine wpAnyH_take (i := 70) (oi := { dst := some 180, op := _, type := _, pos := _, after := _, guard := _ }) (v := ?_) rfl (by kernel_rfl) (by kernel_rfl) (by kernel_rfl) (fun _ _ _ h => h) (Or.inl ⟨by rfl, ?_⟩) hJ56 ?_
        rotate_left
        · intro W hSw
          have d1 := JS.cell hSw c1
          obtain ⟨e2, e3⟩ := JS.cells hSw
          go_simp
          first | done | rfl
        try simp only [Act.put, List.setIfInBounds_toArray, List.set_cons_zero, List.set_cons_succ]
        refine wpAnyH_take (i := 64) (oi := { dst := some 174, op := _, type := _, pos := _, after := _, guard := _ }) (v := ?_) rfl (by kernel_rfl) (by kernel_rfl) (by kernel_rfl) (fun _ _ _ h => h) (Or.inl ⟨by rfl, ?_⟩) hJ56 ?_
        rotate_left
        · intro W hSw
          have d1 := JS.cell hSw c1
          obtain ⟨e2, e3⟩ := JS.cells hSw
          go_simp
          first | done | rfl
        try simp only [Act.put, List.setIfInBounds_toArray, List.set_cons_zero, List.set_cons_succ]
        refine wpAnyH_take (i := 71) (oi := { dst := some 181, op := _, type := _, pos := _, after := _, guard := _ }) (v := ?_) rfl (by kernel_rfl) (by kernel_rfl) (by kernel_rfl) (fun _ _ _ h => h) (Or.inl ⟨by rfl, ?_⟩) hJ56 ?_
        rotate_left
        · intro W hSw
          have d1 := JS.cell hSw c1
          obtain ⟨e2, e3⟩ := JS.cells hSw
          go_simp
          first | done | rfl
        try simp only [Act.put, List.setIfInBounds_toArray, List.set_cons_zero, List.set_cons_succ]
        refine wpAnyH_take (i := 65) (oi := { dst := some 175, op := _, type := _, pos := _, after := _, guard := _ }) (v := ?_) rfl (by kernel_rfl) (by kernel_rfl) (by kernel_rfl) (fun _ _ _ h => h) (Or.inl ⟨by rfl, ?_⟩) hJ56 ?_
        rotate_left
        · intro W hSw
          have d1 := JS.cell hSw c1
          obtain ⟨e2, e3⟩ := JS.cells hSw
          go_simp
          first | done | rfl
        try simp only [Act.put, List.setIfInBounds_toArray, List.set_cons_zero, List.set_cons_succ]
        refine wpAnyH_take (i := 72) (oi := { dst := some 182, op := _, type := _, pos := _, after := _, guard := _ }) (v := ?_) rfl (by kernel_rfl) (by kernel_rfl) (by kernel_rfl) (fun _ _ _ h => h) (Or.inl ⟨by rfl, ?_⟩) hJ56 ?_
        rotate_left
        · intro W hSw
          have d1 := JS.cell hSw c1
          obtain ⟨e2, e3⟩ := JS.cells hSw
          go_simp
          first | done | rfl
        try simp only [Act.put, List.setIfInBounds_toArray, List.set_cons_zero, List.set_cons_succ]
        refine wpAnyH_ready (rs := [66]) (by kernel_rfl) (by simp) ?_
        refine AllReadyH.cons (o := { dst := some 176, op := _, type := _, pos := _, after := _, guard := _ }) rfl (fun K hK => ?_) AllReadyH.nil
        go_simp
        refine (HDU.out _ (k2 + 1) hJ56).mono ?_
        rintro e wx66 ⟨v66, rfl, hR66, hJ66⟩
        refine hK.out _ _ hJ66 (fun _ => ?_)
        clear hK K
        try simp only [Act.put, List.setIfInBounds_toArray, List.set_cons_zero, List.set_cons_succ]
        refine wpAnyH_ready (rs := [73]) (by kernel_rfl) (by simp) ?_
        refine AllReadyH.cons (o := { dst := some 183, op := _, type := _, pos := _, after := _, guard := _ }) rfl (fun K hK => ?_) AllReadyH.nil
        go_simp
        refine (HRD.out _ (k2 + 1) v66 hJ66 hR66).mono ?_
        rintro e wx73 ⟨v73, rfl, hQ66, hR73, hJ73⟩
        refine hK.out _ _ hJ73 (fun _ => ?_)
        clear hK K
        try simp only [Act.put, List.setIfInBounds_toArray, List.set_cons_zero, List.set_cons_succ]
        refine wpAnyH_ready (rs := [74]) (by kernel_rfl) (by simp) ?_
        refine AllReadyH.cons (o := { dst := some 184, op := _, type := _, pos := _, after := _, guard := _ }) rfl (fun K hK => ?_) AllReadyH.nil
        go_simp
        refine (HSM.out _ _ v66 v73 hJ73 hQ66 hR73).mono ?_
        rintro e wx74 ⟨rfl, hJ74⟩
        refine hK.out _ _ hJ74 (fun _ => ?_)
        clear hK K
        try simp only [Act.put, List.setIfInBounds_toArray, List.set_cons_zero, List.set_cons_succ]
        refine wpAnyH_take (i := 75) (oi := { dst := some 185, op := _, type := _, pos := _, after := _, guard := _ }) (v := ?_) rfl (by kernel_rfl) (by kernel_rfl) (by kernel_rfl) (fun _ _ _ h => h) (Or.inl ⟨by rfl, ?_⟩) hJ74 ?_
        rotate_left
        · intro W hSw
          have d1 := JS.cell hSw c1
          obtain ⟨e2, e3⟩ := JS.cells hSw
          go_simp
          first | done | rfl
        try simp only [Act.put, List.setIfInBounds_toArray, List.set_cons_zero, List.set_cons_succ]
        refine wpAnyH_take (i := 76) (oi := { dst := some 186, op := _, type := _, pos := _, after := _, guard := _ }) (v := ?_) rfl (by kernel_rfl) (by kernel_rfl) (by kernel_rfl) (fun _ _ _ h => h) (Or.inl ⟨by rfl, ?_⟩) hJ74 ?_
        rotate_left
        · intro W hSw
          have d1 := JS.cell hSw c1
          obtain ⟨e2, e3⟩ := JS.cells hSw
          go_simp
          first | done | rfl
        try simp only [Act.put, List.setIfInBounds_toArray, List.set_cons_zero, List.set_cons_succ]
        refine wpAnyH_done (by kernel_rfl) ?_ _
        refine NoPanic.normal ?_
        go_wp2_with fail
        go_roundw
        case rel => exact ⟨j + 1, by omega, by omega, by go_num, k2, l2, n2, row2, HS2.out, hJ74⟩
        case measure => simp [intOf]; omega
      · have hx' : (x == 1) = false := by simp [hx]
        obtain ⟨k2, l2, n2, row2, ev, M, hS2, hn2e, HMM, HMB, HK1, HK2⟩ := js_keep HJS.out.2 (by omega) HJS.out.1 y z
        have HS2 := Lib.hid hS2
        have HN2 := Lib.hid hn2e
        have HMM := Lib.hid HMM
        have HMB := Lib.hid HMB
        have HK1 := Lib.hid HK1
        have HK2 := Lib.hid HK2
        clear hS2 hn2e hx
        go_wp2_with fail
        refine wp_region_noPanic ?_
        refine wp_region_held_drew (S := fun W => Below w.heap.size w W) (by kernel_rfl) (show Below w.heap.size w wr.drew from HJS.out.1.below.drew) (fun hHeld => ?_)
        have hBd : Below wr.heap.size wr wr.drew := ⟨rfl, rfl, rfl, Nat.le_refl _, fun _ _ => rfl⟩
        generalize wr.drew = w7 at *
        refine wpAnyH_take (i := 0) (oi := { dst := some 86, op := _, type := _, pos := _, after := _, guard := _ }) (v := ?_) rfl (by kernel_rfl) (by kernel_rfl) (by kernel_rfl) (fun _ _ _ h => h) (Or.inl ⟨by rfl, ?_⟩) hHeld ?_
        rotate_left
        · intro W hSw
          have d1 := (Below.cell hSw (cell_lt c1)).trans c1
          have d2 := (Below.cell hSw (cell_lt c2)).trans c2
          go_simp
          first | done | rfl
        try simp only [Act.put, List.setIfInBounds_toArray, List.set_cons_zero, List.set_cons_succ]
        refine wpAnyH_take (i := 1) (oi := { dst := some 87, op := _, type := _, pos := _, after := _, guard := _ }) (v := ?_) rfl (by kernel_rfl) (by kernel_rfl) (by kernel_rfl) (fun _ _ _ h => h) (Or.inl ⟨by rfl, ?_⟩) hHeld ?_
        rotate_left
        · intro W hSw
          have d1 := (Below.cell hSw (cell_lt c1)).trans c1
          have d2 := (Below.cell hSw (cell_lt c2)).trans c2
          go_simp
          first | done | rfl
        try simp only [Act.put, List.setIfInBounds_toArray, List.set_cons_zero, List.set_cons_succ]
        refine wpAnyH_take (i := 2) (oi := { dst := some 88, op := _, type := _, pos := _, after := _, guard := _ }) (v := ?_) rfl (by kernel_rfl) (by kernel_rfl) (by kernel_rfl) (fun _ _ _ h => h) (Or.inl ⟨by rfl, ?_⟩) hHeld ?_
        rotate_left
        · intro W hSw
          have d1 := (Below.cell hSw (cell_lt c1)).trans c1
          have d2 := (Below.cell hSw (cell_lt c2)).trans c2
          go_simp
          first | done | rfl
        try simp only [Act.put, List.setIfInBounds_toArray, List.set_cons_zero, List.set_cons_succ]
        refine wpAnyH_take (i := 6) (oi := { dst := some 92, op := _, type := _, pos := _, after := _, guard := _ }) (v := ?_) rfl (by kernel_rfl) (by kernel_rfl) (by kernel_rfl) (fun _ _ _ h => h) (Or.inl ⟨by rfl, ?_⟩) hHeld ?_
        rotate_left
        · intro W hSw
          have d1 := (Below.cell hSw (cell_lt c1)).trans c1
          have d2 := (Below.cell hSw (cell_lt c2)).trans c2
          go_simp
          first | done | rfl
        try simp only [Act.put, List.setIfInBounds_toArray, List.set_cons_zero, List.set_cons_succ]
        refine wpAnyH_take (i := 7) (oi := { dst := some 93, op := _, type := _, pos := _, after := _, guard := _ }) (v := ?_) rfl (by kernel_rfl) (by kernel_rfl) (by kernel_rfl) (fun _ _ _ h => h) (Or.inl ⟨by rfl, ?_⟩) hHeld ?_
        rotate_left
        · intro W hSw
          have d1 := (Below.cell hSw (cell_lt c1)).trans c1
          have d2 := (Below.cell hSw (cell_lt c2)).trans c2
          go_simp
          first | done | rfl
        try simp only [Act.put, List.setIfInBounds_toArray, List.set_cons_zero, List.set_cons_succ]
        refine wpAnyH_take (i := 3) (oi := { dst := some 89, op := _, type := _, pos := _, after := _, guard := _ }) (v := ?_) rfl (by kernel_rfl) (by kernel_rfl) (by kernel_rfl) (fun _ _ _ h => h) (Or.inl ⟨by rfl, ?_⟩) hHeld ?_
        rotate_left
        · intro W hSw
          have d1 := (Below.cell hSw (cell_lt c1)).trans c1
          have d2 := (Below.cell hSw (cell_lt c2)).trans c2
          go_simp
          first | done | rfl
        try simp only [Act.put, List.setIfInBounds_toArray, List.set_cons_zero, List.set_cons_succ]
        refine wpAnyH_take (i := 8) (oi := { dst := some 94, op := _, type := _, pos := _, after := _, guard := _ }) (v := ?_) rfl (by kernel_rfl) (by kernel_rfl) (by kernel_rfl) (fun _ _ _ h => h) (Or.inl ⟨by rfl, ?_⟩) hHeld ?_
        rotate_left
        · intro W hSw
          have d1 := (Below.cell hSw (cell_lt c1)).trans c1
          have d2 := (Below.cell hSw (cell_lt c2)).trans c2
          go_simp
          first | done | rfl
        try simp only [Act.put, List.setIfInBounds_toArray, List.set_cons_zero, List.set_cons_succ]
        refine wpAnyH_take (i := 4) (oi := { dst := some 90, op := _, type := _, pos := _, after := _, guard := _ }) (v := ?_) rfl (by kernel_rfl) (by kernel_rfl) (by kernel_rfl) (fun _ _ _ h => h) (Or.inl ⟨by rfl, ?_⟩) hHeld ?_
        rotate_left
        · intro W hSw
          have d1 := (Below.cell hSw (cell_lt c1)).trans c1
          have d2 := (Below.cell hSw (cell_lt c2)).trans c2
          go_simp
          first | done | rfl
        try simp only [Act.put, List.setIfInBounds_toArray, List.set_cons_zero, List.set_cons_succ]
        refine wpAnyH_take (i := 9) (oi := { dst := some 95, op := _, type := _, pos := _, after := _, guard := _ }) (v := ?_) rfl (by kernel_rfl) (by kernel_rfl) (by kernel_rfl) (fun _ _ _ h => h) (Or.inl ⟨by rfl, ?_⟩) hHeld ?_
        rotate_left
        · intro W hSw
          have d1 := (Below.cell hSw (cell_lt c1)).trans c1
          have d2 := (Below.cell hSw (cell_lt c2)).trans c2
          go_simp
          first | done | rfl
        try simp only [Act.put, List.setIfInBounds_toArray, List.set_cons_zero, List.set_cons_succ]
        refine wpAnyH_take (i := 5) (oi := { dst := some 91, op := _, type := _, pos := _, after := _, guard := _ }) (v := ?_) rfl (by kernel_rfl) (by kernel_rfl) (by kernel_rfl) (fun _ _ _ h => h) (Or.inl ⟨by rfl, ?_⟩) hHeld ?_
        rotate_left
        · intro W hSw
          have d1 := (Below.cell hSw (cell_lt c1)).trans c1
          have d2 := (Below.cell hSw (cell_lt c2)).trans c2
          go_simp
          first | done | rfl
        try simp only [Act.put, List.setIfInBounds_toArray, List.set_cons_zero, List.set_cons_succ]
        refine wpAnyH_take (i := 10) (oi := { dst := some 96, op := _, type := _, pos := _, after := _, guard := _ }) (v := ?_) rfl (by kernel_rfl) (by kernel_rfl) (by kernel_rfl) (fun _ _ _ h => h) (Or.inl ⟨by rfl, ?_⟩) hHeld ?_
        rotate_left
        · intro W hSw
          have d1 := (Below.cell hSw (cell_lt c1)).trans c1
          have d2 := (Below.cell hSw (cell_lt c2)).trans c2
          go_simp
          first | done | rfl
        try simp only [Act.put, List.setIfInBounds_toArray, List.set_cons_zero, List.set_cons_succ]
        refine wpAnyH_ready (rs := [11]) (by kernel_rfl) (by simp) ?_
        refine AllReadyH.cons (o := { dst := some 97, op := _, type := _, pos := _, after := _, guard := _ }) rfl (fun K hK => ?_) AllReadyH.nil
        go_simp
        refine (HK1.out _ hBd).mono ?_
        rintro e wy16 ⟨rfl, hM16⟩
        have hM16 := And.intro hM16 (HMB.out _ hM16)
        refine hK.out _ _ hM16.2 (fun _ => ?_)
        clear hK K
        try simp only [Act.put, List.setIfInBounds_toArray, List.set_cons_zero, List.set_cons_succ]
        refine wpAnyH_take (i := 12) (oi := { dst := some 18, op := _, type := _, pos := _, after := _, guard := _ }) (v := ?_) rfl (by kernel_rfl) (by kernel_rfl) (by kernel_rfl) (fun _ _ _ h => h) (Or.inl ⟨by rfl, ?_⟩) hM16.2 ?_
        rotate_left
        · intro W hSw
          have d1 := (Below.cell hSw (cell_lt c1)).trans c1
          have d2 := (Below.cell hSw (cell_lt c2)).trans c2
          go_simp
          first | done | rfl
        try simp only [Act.put, List.setIfInBounds_toArray, List.set_cons_zero, List.set_cons_succ]
        refine wpAnyH_done (by kernel_rfl) ?_ _
        refine NoPanic.normal ?_
        go_wp2_with fail
        refine wp_region_noPanic ?_
        refine wp_region_held_drew (S := fun W => Below w.heap.size w W) (by kernel_rfl) (show Below w.heap.size w wy16.drew from hM16.2.drew) (fun hHeld => ?_)
        have hM17 := HMM.out _ wy16.drew hM16.1 ⟨rfl, rfl, rfl, Nat.le_refl _, fun _ _ => rfl⟩
        generalize wy16.drew = w8 at *
        refine wpAnyH_take (i := 0) (oi := { dst := some 98, op := _, type := _, pos := _, after := _, guard := _ }) (v := ?_) rfl (by kernel_rfl) (by kernel_rfl) (by kernel_rfl) (fun _ _ _ h => h) (Or.inl ⟨by rfl, ?_⟩) hHeld ?_
        rotate_left
        · intro W hSw
          have d1 := (Below.cell hSw (cell_lt c1)).trans c1
          have d2 := (Below.cell hSw (cell_lt c2)).trans c2
          go_simp
          first | done | rfl
        try simp only [Act.put, List.setIfInBounds_toArray, List.set_cons_zero, List.set_cons_succ]
        refine wpAnyH_take (i := 1) (oi := { dst := some 99, op := _, type := _, pos := _, after := _, guard := _ }) (v := ?_) rfl (by kernel_rfl) (by kernel_rfl) (by kernel_rfl) (fun _ _ _ h => h) (Or.inl ⟨by rfl, ?_⟩) hHeld ?_
        rotate_left
        · intro W hSw
          have d1 := (Below.cell hSw (cell_lt c1)).trans c1
          have d2 := (Below.cell hSw (cell_lt c2)).trans c2
          go_simp
          first | done | rfl
        try simp only [Act.put, List.setIfInBounds_toArray, List.set_cons_zero, List.set_cons_succ]
        refine wpAnyH_take (i := 2) (oi := { dst := some 100, op := _, type := _, pos := _, after := _, guard := _ }) (v := ?_) rfl (by kernel_rfl) (by kernel_rfl) (by kernel_rfl) (fun _ _ _ h => h) (Or.inl ⟨by rfl, ?_⟩) hHeld ?_
        rotate_left
        · intro W hSw
          have d1 := (Below.cell hSw (cell_lt c1)).trans c1
          have d2 := (Below.cell hSw (cell_lt c2)).trans c2
          go_simp
          first | done | rfl
        try simp only [Act.put, List.setIfInBounds_toArray, List.set_cons_zero, List.set_cons_succ]
        refine wpAnyH_take (i := 6) (oi := { dst := some 104, op := _, type := _, pos := _, after := _, guard := _ }) (v := ?_) rfl (by kernel_rfl) (by kernel_rfl) (by kernel_rfl) (fun _ _ _ h => h) (Or.inl ⟨by rfl, ?_⟩) hHeld ?_
        rotate_left
        · intro W hSw
          have d1 := (Below.cell hSw (cell_lt c1)).trans c1
          have d2 := (Below.cell hSw (cell_lt c2)).trans c2
          go_simp
          first | done | rfl
        try simp only [Act.put, List.setIfInBounds_toArray, List.set_cons_zero, List.set_cons_succ]
        refine wpAnyH_take (i := 7) (oi := { dst := some 105, op := _, type := _, pos := _, after := _, guard := _ }) (v := ?_) rfl (by kernel_rfl) (by kernel_rfl) (by kernel_rfl) (fun _ _ _ h => h) (Or.inl ⟨by rfl, ?_⟩) hHeld ?_
        rotate_left
        · intro W hSw
          have d1 := (Below.cell hSw (cell_lt c1)).trans c1
          have d2 := (Below.cell hSw (cell_lt c2)).trans c2
          go_simp
          first | done | rfl
        try simp only [Act.put, List.setIfInBounds_toArray, List.set_cons_zero, List.set_cons_succ]
        refine wpAnyH_take (i := 3) (oi := { dst := some 101, op := _, type := _, pos := _, after := _, guard := _ }) (v := ?_) rfl (by kernel_rfl) (by kernel_rfl) (by kernel_rfl) (fun _ _ _ h => h) (Or.inl ⟨by rfl, ?_⟩) hHeld ?_
        rotate_left
        · intro W hSw
          have d1 := (Below.cell hSw (cell_lt c1)).trans c1
          have d2 := (Below.cell hSw (cell_lt c2)).trans c2
          go_simp
          first | done | rfl
        try simp only [Act.put, List.setIfInBounds_toArray, List.set_cons_zero, List.set_cons_succ]
        refine wpAnyH_take (i := 8) (oi := { dst := some 106, op := _, type := _, pos := _, after := _, guard := _ }) (v := ?_) rfl (by kernel_rfl) (by kernel_rfl) (by kernel_rfl) (fun _ _ _ h => h) (Or.inl ⟨by rfl, ?_⟩) hHeld ?_
        rotate_left
        · intro W hSw
          have d1 := (Below.cell hSw (cell_lt c1)).trans c1
          have d2 := (Below.cell hSw (cell_lt c2)).trans c2
          go_simp
          first | done | rfl
        try simp only [Act.put, List.setIfInBounds_toArray, List.set_cons_zero, List.set_cons_succ]
        refine wpAnyH_take (i := 4) (oi := { dst := some 102, op := _, type := _, pos := _, after := _, guard := _ }) (v := ?_) rfl (by kernel_rfl) (by kernel_rfl) (by kernel_rfl) (fun _ _ _ h => h) (Or.inl ⟨by rfl, ?_⟩) hHeld ?_
        rotate_left
        · intro W hSw
          have d1 := (Below.cell hSw (cell_lt c1)).trans c1
          have d2 := (Below.cell hSw (cell_lt c2)).trans c2
          go_simp
          first | done | rfl
        try simp only [Act.put, List.setIfInBounds_toArray, List.set_cons_zero, List.set_cons_succ]
        refine wpAnyH_take (i := 9) (oi := { dst := some 107, op := _, type := _, pos := _, after := _, guard := _ }) (v := ?_) rfl (by kernel_rfl) (by kernel_rfl) (by kernel_rfl) (fun _ _ _ h => h) (Or.inl ⟨by rfl, ?_⟩) hHeld ?_
        rotate_left
        · intro W hSw
          have d1 := (Below.cell hSw (cell_lt c1)).trans c1
          have d2 := (Below.cell hSw (cell_lt c2)).trans c2
          go_simp
          first | done | rfl
        try simp only [Act.put, List.setIfInBounds_toArray, List.set_cons_zero, List.set_cons_succ]
        refine wpAnyH_take (i := 5) (oi := { dst := some 103, op := _, type := _, pos := _, after := _, guard := _ }) (v := ?_) rfl (by kernel_rfl) (by kernel_rfl) (by kernel_rfl) (fun _ _ _ h => h) (Or.inl ⟨by rfl, ?_⟩) hHeld ?_
        rotate_left
        · intro W hSw
          have d1 := (Below.cell hSw (cell_lt c1)).trans c1
          have d2 := (Below.cell hSw (cell_lt c2)).trans c2
          go_simp
          first | done | rfl
        try simp only [Act.put, List.setIfInBounds_toArray, List.set_cons_zero, List.set_cons_succ]
        refine wpAnyH_take (i := 10) (oi := { dst := some 108, op := _, type := _, pos := _, after := _, guard := _ }) (v := ?_) rfl (by kernel_rfl) (by kernel_rfl) (by kernel_rfl) (fun _ _ _ h => h) (Or.inl ⟨by rfl, ?_⟩) hHeld ?_
        rotate_left
        · intro W hSw
          have d1 := (Below.cell hSw (cell_lt c1)).trans c1
          have d2 := (Below.cell hSw (cell_lt c2)).trans c2
          go_simp
          first | done | rfl
        try simp only [Act.put, List.setIfInBounds_toArray, List.set_cons_zero, List.set_cons_succ]
        refine wpAnyH_ready (rs := [11]) (by kernel_rfl) (by simp) ?_
        refine AllReadyH.cons (o := { dst := some 109, op := _, type := _, pos := _, after := _, guard := _ }) rfl (fun K hK => ?_) AllReadyH.nil
        go_simp
        refine (HK2.out _ hM17).mono ?_
        rintro e wy17 ⟨rfl, hJ2⟩
        have hB17 := hJ2.below
        refine hK.out _ _ hB17 (fun _ => ?_)
        clear hK K
        try simp only [Act.put, List.setIfInBounds_toArray, List.set_cons_zero, List.set_cons_succ]
        refine wpAnyH_take (i := 12) (oi := { dst := some 19, op := _, type := _, pos := _, after := _, guard := _ }) (v := ?_) rfl (by kernel_rfl) (by kernel_rfl) (by kernel_rfl) (fun _ _ _ h => h) (Or.inl ⟨by rfl, ?_⟩) hB17 ?_
        rotate_left
        · intro W hSw
          have d1 := (Below.cell hSw (cell_lt c1)).trans c1
          have d2 := (Below.cell hSw (cell_lt c2)).trans c2
          go_simp
          first | done | rfl
        try simp only [Act.put, List.setIfInBounds_toArray, List.set_cons_zero, List.set_cons_succ]
        refine wpAnyH_done (by kernel_rfl) ?_ _
        refine NoPanic.normal ?_
        go_wp2_with fail
        have hk2 : 0 ≤ k2 ∧ k2 ≤ 72057594037927935 := ⟨HS2.out.k0, by have := HS2.out.k1; have := HS2.out.k0; omega⟩
        have hn2 : n2 ≤ 16 := by rw [HN2.out]; exact HS2.out.l16
        have hq2 : k2 + (n2 : Int) - k2 = n2 := by omega
        have hwk2 : IntKind.i64.wrap (k2 + 1) = k2 + 1 := IntWalk.i64_in _ (by omega)
        have hwn2 : IntKind.i64.wrap (n2 : Int) = n2 := IntWalk.i64_in _ (by omega)
        have HCM := Lib.hid (js_commit (w0 := w) (gp := gp) (gr := gr) (cN := cN) (n := n2) (who := who) (k := k2) (l := l2) (row := row2))
        have HHD := Lib.hid (js_head (w0 := w) (gp := gp) (gr := gr) (n := n2) HS2.out)
        have HRM := Lib.hid (js_room (w0 := w) (gp := gp) (gr := gr) (cN := cN) (n := n2) (who := who) (k := k2) (l := l2) (row := row2))
        have HDU := Lib.hid (js_due (w0 := w) (gp := gp) (gr := gr) (n := n2) HS2.out)
        have HRD := Lib.hid (js_refdue (w0 := w) (gp := gp) (gr := gr) (n := n2) HS2.out (by omega))
        have HSM := Lib.hid (fun W op v v2 => js_same (w0 := w) (gp := gp) (gr := gr) (cN := cN) (n := n2) (who := who) (k := k2) (l := l2) (row := row2) W op v v2 HS2.out.five)
        refine wp_region_noPanic ?_
        refine wp_region_held_drew (S := fun W => JS w W gp gr cN who k2 l2 n2 row2) (by kernel_rfl) (show JS w _ gp gr cN who k2 l2 n2 row2 from hJ2.later ⟨rfl, rfl, rfl, Nat.le_refl _, fun _ _ => rfl⟩) (fun hHeld => ?_)
        generalize World.drew _ = w9 at *
        refine wpAnyH_take (i := 0) (oi := { dst := some 110, op := _, type := _, pos := _, after := _, guard := _ }) (v := ?_) rfl (by kernel_rfl) (by kernel_rfl) (by kernel_rfl) (fun _ _ _ h => h) (Or.inl ⟨by rfl, ?_⟩) hHeld ?_
        rotate_left
        · intro W hSw
          have d1 := JS.cell hSw c1
          obtain ⟨e2, e3⟩ := JS.cells hSw
          go_simp
          first | done | rfl
        try simp only [Act.put, List.setIfInBounds_toArray, List.set_cons_zero, List.set_cons_succ]
        refine wpAnyH_take (i := 1) (oi := { dst := some 111, op := _, type := _, pos := _, after := _, guard := _ }) (v := ?_) rfl (by kernel_rfl) (by kernel_rfl) (by kernel_rfl) (fun _ _ _ h => h) (Or.inl ⟨by rfl, ?_⟩) hHeld ?_
        rotate_left
        · intro W hSw
          have d1 := JS.cell hSw c1
          obtain ⟨e2, e3⟩ := JS.cells hSw
          go_simp
          first | done | rfl
        try simp only [Act.put, List.setIfInBounds_toArray, List.set_cons_zero, List.set_cons_succ]
        refine wpAnyH_take (i := 2) (oi := { dst := some 112, op := _, type := _, pos := _, after := _, guard := _ }) (v := ?_) rfl (by kernel_rfl) (by kernel_rfl) (by kernel_rfl) (fun _ _ _ h => h) (Or.inl ⟨by rfl, ?_⟩) hHeld ?_
        rotate_left
        · intro W hSw
          have d1 := JS.cell hSw c1
          obtain ⟨e2, e3⟩ := JS.cells hSw
          go_simp
          first | done | rfl
        try simp only [Act.put, List.setIfInBounds_toArray, List.set_cons_zero, List.set_cons_succ]
        refine wpAnyH_take (i := 3) (oi := { dst := some 113, op := _, type := _, pos := _, after := _, guard := _ }) (v := ?_) rfl (by kernel_rfl) (by kernel_rfl) (by kernel_rfl) (fun _ _ _ h => h) (Or.inl ⟨by rfl, ?_⟩) hHeld ?_
        rotate_left
        · intro W hSw
          have d1 := JS.cell hSw c1
          obtain ⟨e2, e3⟩ := JS.cells hSw
          go_simp
          first | done | rfl
        try simp only [Act.put, List.setIfInBounds_toArray, List.set_cons_zero, List.set_cons_succ]
        refine wpAnyH_take (i := 4) (oi := { dst := some 114, op := _, type := _, pos := _, after := _, guard := _ }) (v := ?_) rfl (by kernel_rfl) (by kernel_rfl) (by kernel_rfl) (fun _ _ _ h => h) (Or.inl ⟨by rfl, ?_⟩) hHeld ?_
        rotate_left
        · intro W hSw
          have d1 := JS.cell hSw c1
          obtain ⟨e2, e3⟩ := JS.cells hSw
          go_simp
          first | done | rfl
        try simp only [Act.put, List.setIfInBounds_toArray, List.set_cons_zero, List.set_cons_succ]
        refine wpAnyH_take (i := 5) (oi := { dst := some 115, op := _, type := _, pos := _, after := _, guard := _ }) (v := ?_) rfl (by kernel_rfl) (by kernel_rfl) (by kernel_rfl) (fun _ _ _ h => h) (Or.inl ⟨by rfl, ?_⟩) hHeld ?_
        rotate_left
        · intro W hSw
          have d1 := JS.cell hSw c1
          obtain ⟨e2, e3⟩ := JS.cells hSw
          go_simp
          first | done | rfl
        try simp only [Act.put, List.setIfInBounds_toArray, List.set_cons_zero, List.set_cons_succ]
        refine wpAnyH_take (i := 6) (oi := { dst := some 116, op := _, type := _, pos := _, after := _, guard := _ }) (v := ?_) rfl (by kernel_rfl) (by kernel_rfl) (by kernel_rfl) (fun _ _ _ h => h) (Or.inl ⟨by rfl, ?_⟩) hHeld ?_
        rotate_left
        · intro W hSw
          have d1 := JS.cell hSw c1
          obtain ⟨e2, e3⟩ := JS.cells hSw
          go_simp
          first | done | rfl
        try simp only [Act.put, List.setIfInBounds_toArray, List.set_cons_zero, List.set_cons_succ]
        refine wpAnyH_take (i := 7) (oi := { dst := some 117, op := _, type := _, pos := _, after := _, guard := _ }) (v := ?_) rfl (by kernel_rfl) (by kernel_rfl) (by kernel_rfl) (fun _ _ _ h => h) (Or.inl ⟨by rfl, ?_⟩) hHeld ?_
        rotate_left
        · intro W hSw
          have d1 := JS.cell hSw c1
          obtain ⟨e2, e3⟩ := JS.cells hSw
          go_simp
          first | done | rfl
        try simp only [Act.put, List.setIfInBounds_toArray, List.set_cons_zero, List.set_cons_succ]
        refine wpAnyH_take (i := 8) (oi := { dst := some 118, op := _, type := _, pos := _, after := _, guard := _ }) (v := ?_) rfl (by kernel_rfl) (by kernel_rfl) (by kernel_rfl) (fun _ _ _ h => h) (Or.inl ⟨by rfl, ?_⟩) hHeld ?_
        rotate_left
        · intro W hSw
          have d1 := JS.cell hSw c1
          obtain ⟨e2, e3⟩ := JS.cells hSw
          go_simp
          first | done | rfl
        try simp only [Act.put, List.setIfInBounds_toArray, List.set_cons_zero, List.set_cons_succ]
        refine wpAnyH_take (i := 9) (oi := { dst := some 119, op := _, type := _, pos := _, after := _, guard := _ }) (v := ?_) rfl (by kernel_rfl) (by kernel_rfl) (by kernel_rfl) (fun _ _ _ h => h) (Or.inl ⟨by rfl, ?_⟩) hHeld ?_
        rotate_left
        · intro W hSw
          have d1 := JS.cell hSw c1
          obtain ⟨e2, e3⟩ := JS.cells hSw
          go_simp
          first | done | rfl
        try simp only [Act.put, List.setIfInBounds_toArray, List.set_cons_zero, List.set_cons_succ]
        refine wpAnyH_take (i := 11) (oi := { dst := some 121, op := _, type := _, pos := _, after := _, guard := _ }) (v := ?_) rfl (by kernel_rfl) (by kernel_rfl) (by kernel_rfl) (fun _ _ _ h => h) (Or.inl ⟨by rfl, ?_⟩) hHeld ?_
        rotate_left
        · intro W hSw
          have d1 := JS.cell hSw c1
          obtain ⟨e2, e3⟩ := JS.cells hSw
          go_simp
          first | done | rfl
        try simp only [Act.put, List.setIfInBounds_toArray, List.set_cons_zero, List.set_cons_succ]
        refine wpAnyH_take (i := 12) (oi := { dst := some 122, op := _, type := _, pos := _, after := _, guard := _ }) (v := ?_) rfl (by kernel_rfl) (by kernel_rfl) (by kernel_rfl) (fun _ _ _ h => h) (Or.inl ⟨by rfl, ?_⟩) hHeld ?_
        rotate_left
        · intro W hSw
          have d1 := JS.cell hSw c1
          obtain ⟨e2, e3⟩ := JS.cells hSw
          go_simp
          first | done | rfl
        try simp only [Act.put, List.setIfInBounds_toArray, List.set_cons_zero, List.set_cons_succ]
        refine wpAnyH_take (i := 13) (oi := { dst := some 123, op := _, type := _, pos := _, after := _, guard := _ }) (v := ?_) rfl (by kernel_rfl) (by kernel_rfl) (by kernel_rfl) (fun _ _ _ h => h) (Or.inl ⟨by rfl, ?_⟩) hHeld ?_
        rotate_left
        · intro W hSw
          have d1 := JS.cell hSw c1
          obtain ⟨e2, e3⟩ := JS.cells hSw
          go_simp
          first | done | rfl
        try simp only [Act.put, List.setIfInBounds_toArray, List.set_cons_zero, List.set_cons_succ]
        refine wpAnyH_take (i := 14) (oi := { dst := some 124, op := _, type := _, pos := _, after := _, guard := _ }) (v := ?_) rfl (by kernel_rfl) (by kernel_rfl) (by kernel_rfl) (fun _ _ _ h => h) (Or.inl ⟨by rfl, ?_⟩) hHeld ?_
        rotate_left
        · intro W hSw
          have d1 := JS.cell hSw c1
          obtain ⟨e2, e3⟩ := JS.cells hSw
          go_simp
          first | done | rfl
        try simp only [Act.put, List.setIfInBounds_toArray, List.set_cons_zero, List.set_cons_succ]
        refine wpAnyH_ready (rs := [10]) (by kernel_rfl) (by simp) ?_
        refine AllReadyH.cons (o := { dst := some 120, op := _, type := _, pos := _, after := _, guard := _ }) rfl (fun K hK => ?_) AllReadyH.nil
        go_simp
        refine (HCM.out _ hHeld).mono ?_
        rintro e wx10 ⟨rfl, hJ10⟩
        refine hK.out _ _ hJ10 (fun _ => ?_)
        clear hK K
        try simp only [Act.put, List.setIfInBounds_toArray, List.set_cons_zero, List.set_cons_succ]
        refine wpAnyH_take (i := 15) (oi := { dst := some 125, op := _, type := _, pos := _, after := _, guard := _ }) (v := ?_) rfl (by kernel_rfl) (by kernel_rfl) (by kernel_rfl) (fun _ _ _ h => h) (Or.inl ⟨by rfl, ?_⟩) hJ10 ?_
        rotate_left
        · intro W hSw
          have d1 := JS.cell hSw c1
          obtain ⟨e2, e3⟩ := JS.cells hSw
          go_simp
          first | done | rfl
        try simp only [Act.put, List.setIfInBounds_toArray, List.set_cons_zero, List.set_cons_succ]
        refine wpAnyH_take (i := 16) (oi := { dst := some 126, op := _, type := _, pos := _, after := _, guard := _ }) (v := ?_) rfl (by kernel_rfl) (by kernel_rfl) (by kernel_rfl) (fun _ _ _ h => h) (Or.inl ⟨by rfl, ?_⟩) hJ10 ?_
        rotate_left
        · intro W hSw
          have d1 := JS.cell hSw c1
          obtain ⟨e2, e3⟩ := JS.cells hSw
          go_simp
          first | done | rfl
        try simp only [Act.put, List.setIfInBounds_toArray, List.set_cons_zero, List.set_cons_succ]
        refine wpAnyH_take (i := 17) (oi := { dst := some 127, op := _, type := _, pos := _, after := _, guard := _ }) (v := ?_) rfl (by kernel_rfl) (by kernel_rfl) (by kernel_rfl) (fun _ _ _ h => h) (Or.inl ⟨by rfl, ?_⟩) hJ10 ?_
        rotate_left
        · intro W hSw
          have d1 := JS.cell hSw c1
          obtain ⟨e2, e3⟩ := JS.cells hSw
          go_simp
          first | done | rfl
        try simp only [Act.put, List.setIfInBounds_toArray, List.set_cons_zero, List.set_cons_succ]
        refine wpAnyH_take (i := 18) (oi := { dst := some 128, op := _, type := _, pos := _, after := _, guard := _ }) (v := ?_) rfl (by kernel_rfl) (by kernel_rfl) (by kernel_rfl) (fun _ _ _ h => h) (Or.inl ⟨by rfl, ?_⟩) hJ10 ?_
        rotate_left
        · intro W hSw
          have d1 := JS.cell hSw c1
          obtain ⟨e2, e3⟩ := JS.cells hSw
          go_simp
          first | done | rfl
        try simp only [Act.put, List.setIfInBounds_toArray, List.set_cons_zero, List.set_cons_succ]
        refine wpAnyH_take (i := 20) (oi := { dst := some 130, op := _, type := _, pos := _, after := _, guard := _ }) (v := ?_) rfl (by kernel_rfl) (by kernel_rfl) (by kernel_rfl) (fun _ _ _ h => h) (Or.inl ⟨by rfl, ?_⟩) hJ10 ?_
        rotate_left
        · intro W hSw
          have d1 := JS.cell hSw c1
          obtain ⟨e2, e3⟩ := JS.cells hSw
          go_simp
          first | done | rfl
        try simp only [Act.put, List.setIfInBounds_toArray, List.set_cons_zero, List.set_cons_succ]
        refine wpAnyH_take (i := 21) (oi := { dst := some 131, op := _, type := _, pos := _, after := _, guard := _ }) (v := ?_) rfl (by kernel_rfl) (by kernel_rfl) (by kernel_rfl) (fun _ _ _ h => h) (Or.inl ⟨by rfl, ?_⟩) hJ10 ?_
        rotate_left
        · intro W hSw
          have d1 := JS.cell hSw c1
          obtain ⟨e2, e3⟩ := JS.cells hSw
          go_simp
          first | done | rfl
        try simp only [Act.put, List.setIfInBounds_toArray, List.set_cons_zero, List.set_cons_succ]
        refine wpAnyH_take (i := 22) (oi := { dst := some 132, op := _, type := _, pos := _, after := _, guard := _ }) (v := ?_) rfl (by kernel_rfl) (by kernel_rfl) (by kernel_rfl) (fun _ _ _ h => h) (Or.inl ⟨by rfl, ?_⟩) hJ10 ?_
        rotate_left
        · intro W hSw
          have d1 := JS.cell hSw c1
          obtain ⟨e2, e3⟩ := JS.cells hSw
          go_simp
          first | done | rfl
        try simp only [Act.put, List.setIfInBounds_toArray, List.set_cons_zero, List.set_cons_succ]
        refine wpAnyH_take (i := 23) (oi := { dst := some 133, op := _, type := _, pos := _, after := _, guard := _ }) (v := ?_) rfl (by kernel_rfl) (by kernel_rfl) (by kernel_rfl) (fun _ _ _ h => h) (Or.inl ⟨by rfl, ?_⟩) hJ10 ?_
        rotate_left
        · intro W hSw
          have d1 := JS.cell hSw c1
          obtain ⟨e2, e3⟩ := JS.cells hSw
          go_simp
          first | done | rfl
        try simp only [Act.put, List.setIfInBounds_toArray, List.set_cons_zero, List.set_cons_succ]
        refine wpAnyH_ready (rs := [19]) (by kernel_rfl) (by simp) ?_
        refine AllReadyH.cons (o := { dst := some 129, op := _, type := _, pos := _, after := _, guard := _ }) rfl (fun K hK => ?_) AllReadyH.nil
        go_simp
        refine (HHD.out _ hJ10).mono ?_
        rintro e wx19 ⟨rfl, hJ19⟩
        refine hK.out _ _ hJ19 (fun _ => ?_)
        clear hK K
        try simp only [Act.put, List.setIfInBounds_toArray, List.set_cons_zero, List.set_cons_succ]
        refine wpAnyH_take (i := 24) (oi := { dst := some 134, op := _, type := _, pos := _, after := _, guard := _ }) (v := ?_) rfl (by kernel_rfl) (by kernel_rfl) (by kernel_rfl) (fun _ _ _ h => h) (Or.inl ⟨by rfl, ?_⟩) hJ19 ?_
        rotate_left
        · intro W hSw
          have d1 := JS.cell hSw c1
          obtain ⟨e2, e3⟩ := JS.cells hSw
          go_simp
          first | done | rfl
        try simp only [Act.put, List.setIfInBounds_toArray, List.set_cons_zero, List.set_cons_succ]
        refine wpAnyH_take (i := 25) (oi := { dst := some 135, op := _, type := _, pos := _, after := _, guard := _ }) (v := ?_) rfl (by kernel_rfl) (by kernel_rfl) (by kernel_rfl) (fun _ _ _ h => h) (Or.inl ⟨by rfl, ?_⟩) hJ19 ?_
        rotate_left
        · intro W hSw
          have d1 := JS.cell hSw c1
          obtain ⟨e2, e3⟩ := JS.cells hSw
          go_simp
          first | done | rfl
        try simp only [Act.put, List.setIfInBounds_toArray, List.set_cons_zero, List.set_cons_succ]
        refine wpAnyH_take (i := 26) (oi := { dst := some 136, op := _, type := _, pos := _, after := _, guard := _ }) (v := ?_) rfl (by kernel_rfl) (by kernel_rfl) (by kernel_rfl) (fun _ _ _ h => h) (Or.inl ⟨by rfl, ?_⟩) hJ19 ?_
        rotate_left
        · intro W hSw
          have d1 := JS.cell hSw c1
          obtain ⟨e2, e3⟩ := JS.cells hSw
          go_simp
          first | done | rfl
        try simp only [Act.put, List.setIfInBounds_toArray, List.set_cons_zero, List.set_cons_succ]
        refine wpAnyH_take (i := 27) (oi := { dst := some 137, op := _, type := _, pos := _, after := _, guard := _ }) (v := ?_) rfl (by kernel_rfl) (by kernel_rfl) (by kernel_rfl) (fun _ _ _ h => h) (Or.inl ⟨by rfl, ?_⟩) hJ19 ?_
        rotate_left
        · intro W hSw
          have d1 := JS.cell hSw c1
          obtain ⟨e2, e3⟩ := JS.cells hSw
          go_simp
          first | done | rfl
        try simp only [Act.put, List.setIfInBounds_toArray, List.set_cons_zero, List.set_cons_succ]
        refine wpAnyH_take (i := 29) (oi := { dst := some 139, op := _, type := _, pos := _, after := _, guard := _ }) (v := ?_) rfl (by kernel_rfl) (by kernel_rfl) (by kernel_rfl) (fun _ _ _ h => h) (Or.inl ⟨by rfl, ?_⟩) hJ19 ?_
        rotate_left
        · intro W hSw
          have d1 := JS.cell hSw c1
          obtain ⟨e2, e3⟩ := JS.cells hSw
          go_simp
          first | done | rfl
        try simp only [Act.put, List.setIfInBounds_toArray, List.set_cons_zero, List.set_cons_succ]
        refine wpAnyH_take (i := 33) (oi := { dst := some 143, op := _, type := _, pos := _, after := _, guard := _ }) (v := ?_) rfl (by kernel_rfl) (by kernel_rfl) (by kernel_rfl) (fun _ _ _ h => h) (Or.inl ⟨by rfl, ?_⟩) hJ19 ?_
        rotate_left
        · intro W hSw
          have d1 := JS.cell hSw c1
          obtain ⟨e2, e3⟩ := JS.cells hSw
          go_simp
          first | done | rfl
        try simp only [Act.put, List.setIfInBounds_toArray, List.set_cons_zero, List.set_cons_succ]
        refine wpAnyH_take (i := 30) (oi := { dst := some 140, op := _, type := _, pos := _, after := _, guard := _ }) (v := ?_) rfl (by kernel_rfl) (by kernel_rfl) (by kernel_rfl) (fun _ _ _ h => h) (Or.inl ⟨by rfl, ?_⟩) hJ19 ?_
        rotate_left
        · intro W hSw
          have d1 := JS.cell hSw c1
          obtain ⟨e2, e3⟩ := JS.cells hSw
          go_simp
          first | done | rfl
        try simp only [Act.put, List.setIfInBounds_toArray, List.set_cons_zero, List.set_cons_succ]
        refine wpAnyH_take (i := 34) (oi := { dst := some 144, op := _, type := _, pos := _, after := _, guard := _ }) (v := ?_) rfl (by kernel_rfl) (by kernel_rfl) (by kernel_rfl) (fun _ _ _ h => h) (Or.inl ⟨by rfl, ?_⟩) hJ19 ?_
        rotate_left
        · intro W hSw
          have d1 := JS.cell hSw c1
          obtain ⟨e2, e3⟩ := JS.cells hSw
          go_simp
          first | done | rfl
        try simp only [Act.put, List.setIfInBounds_toArray, List.set_cons_zero, List.set_cons_succ]
        refine wpAnyH_take (i := 31) (oi := { dst := some 141, op := _, type := _, pos := _, after := _, guard := _ }) (v := ?_) rfl (by kernel_rfl) (by kernel_rfl) (by kernel_rfl) (fun _ _ _ h => h) (Or.inl ⟨by rfl, ?_⟩) hJ19 ?_
        rotate_left
        · intro W hSw
          have d1 := JS.cell hSw c1
          obtain ⟨e2, e3⟩ := JS.cells hSw
          go_simp
          first | done | rfl
        try simp only [Act.put, List.setIfInBounds_toArray, List.set_cons_zero, List.set_cons_succ]
        refine wpAnyH_take (i := 35) (oi := { dst := some 145, op := _, type := _, pos := _, after := _, guard := _ }) (v := ?_) rfl (by kernel_rfl) (by kernel_rfl) (by kernel_rfl) (fun _ _ _ h => h) (Or.inl ⟨by rfl, ?_⟩) hJ19 ?_
        rotate_left
        · intro W hSw
          have d1 := JS.cell hSw c1
          obtain ⟨e2, e3⟩ := JS.cells hSw
          go_simp
          first | done | rfl
        try simp only [Act.put, List.setIfInBounds_toArray, List.set_cons_zero, List.set_cons_succ]
        refine wpAnyH_take (i := 32) (oi := { dst := some 142, op := _, type := _, pos := _, after := _, guard := _ }) (v := ?_) rfl (by kernel_rfl) (by kernel_rfl) (by kernel_rfl) (fun _ _ _ h => h) (Or.inl ⟨by rfl, ?_⟩) hJ19 ?_
        rotate_left
        · intro W hSw
          have d1 := JS.cell hSw c1
          obtain ⟨e2, e3⟩ := JS.cells hSw
          go_simp
          first | done | rfl
        try simp only [Act.put, List.setIfInBounds_toArray, List.set_cons_zero, List.set_cons_succ]
        refine wpAnyH_take (i := 36) (oi := { dst := some 146, op := _, type := _, pos := _, after := _, guard := _ }) (v := ?_) rfl (by kernel_rfl) (by kernel_rfl) (by kernel_rfl) (fun _ _ _ h => h) (Or.inl ⟨by rfl, ?_⟩) hJ19 ?_
        rotate_left
        · intro W hSw
          have d1 := JS.cell hSw c1
          obtain ⟨e2, e3⟩ := JS.cells hSw
          go_simp
          first | done | rfl
        try simp only [Act.put, List.setIfInBounds_toArray, List.set_cons_zero, List.set_cons_succ]
        refine wpAnyH_take (i := 37) (oi := { dst := some 147, op := _, type := _, pos := _, after := _, guard := _ }) (v := ?_) rfl (by kernel_rfl) (by kernel_rfl) (by kernel_rfl) (fun _ _ _ h => h) (Or.inl ⟨by rfl, ?_⟩) hJ19 ?_
        rotate_left
        · intro W hSw
          have d1 := JS.cell hSw c1
          obtain ⟨e2, e3⟩ := JS.cells hSw
          go_simp
          first | done | rfl
        try simp only [Act.put, List.setIfInBounds_toArray, List.set_cons_zero, List.set_cons_succ]
        refine wpAnyH_take (i := 38) (oi := { dst := some 148, op := _, type := _, pos := _, after := _, guard := _ }) (v := ?_) rfl (by kernel_rfl) (by kernel_rfl) (by kernel_rfl) (fun _ _ _ h => h) (Or.inl ⟨by rfl, ?_⟩) hJ19 ?_
        rotate_left
        · intro W hSw
          have d1 := JS.cell hSw c1
          obtain ⟨e2, e3⟩ := JS.cells hSw
          go_simp
          first | done | rfl
        try simp only [Act.put, List.setIfInBounds_toArray, List.set_cons_zero, List.set_cons_succ]
        refine wpAnyH_ready (rs := [28]) (by kernel_rfl) (by simp) ?_
        refine AllReadyH.cons (o := { dst := some 138, op := _, type := _, pos := _, after := _, guard := _ }) rfl (fun K hK => ?_) AllReadyH.nil
        go_simp
        refine (HRM.out _ hJ19).mono ?_
        rintro e wx28 ⟨rfl, hJ28⟩
        refine hK.out _ _ hJ28 (fun _ => ?_)
        clear hK K
        try simp only [Act.put, List.setIfInBounds_toArray, List.set_cons_zero, List.set_cons_succ]
        refine wpAnyH_take (i := 39) (oi := { dst := some 149, op := _, type := _, pos := _, after := _, guard := _ }) (v := ?_) rfl (by kernel_rfl) (by kernel_rfl) (by kernel_rfl) (fun _ _ _ h => h) (Or.inl ⟨by rfl, ?_⟩) hJ28 ?_
        rotate_left
        · intro W hSw
          have d1 := JS.cell hSw c1
          obtain ⟨e2, e3⟩ := JS.cells hSw
          go_simp
          first | done | rfl
        try simp only [Act.put, List.setIfInBounds_toArray, List.set_cons_zero, List.set_cons_succ]
        refine wpAnyH_take (i := 40) (oi := { dst := some 150, op := _, type := _, pos := _, after := _, guard := _ }) (v := ?_) rfl (by kernel_rfl) (by kernel_rfl) (by kernel_rfl) (fun _ _ _ h => h) (Or.inl ⟨by rfl, ?_⟩) hJ28 ?_
        rotate_left
        · intro W hSw
          have d1 := JS.cell hSw c1
          obtain ⟨e2, e3⟩ := JS.cells hSw
          go_simp
          first | done | rfl
        try simp only [Act.put, List.setIfInBounds_toArray, List.set_cons_zero, List.set_cons_succ]
        refine wpAnyH_take (i := 41) (oi := { dst := some 151, op := _, type := _, pos := _, after := _, guard := _ }) (v := ?_) rfl (by kernel_rfl) (by kernel_rfl) (by kernel_rfl) (fun _ _ _ h => h) (Or.inl ⟨by rfl, ?_⟩) hJ28 ?_
        rotate_left
        · intro W hSw
          have d1 := JS.cell hSw c1
          obtain ⟨e2, e3⟩ := JS.cells hSw
          go_simp
          first | done | rfl
        try simp only [Act.put, List.setIfInBounds_toArray, List.set_cons_zero, List.set_cons_succ]
        refine wpAnyH_take (i := 42) (oi := { dst := some 152, op := _, type := _, pos := _, after := _, guard := _ }) (v := ?_) rfl (by kernel_rfl) (by kernel_rfl) (by kernel_rfl) (fun _ _ _ h => h) (Or.inl ⟨by rfl, ?_⟩) hJ28 ?_
        rotate_left
        · intro W hSw
          have d1 := JS.cell hSw c1
          obtain ⟨e2, e3⟩ := JS.cells hSw
          go_simp
          first | done | rfl
        try simp only [Act.put, List.setIfInBounds_toArray, List.set_cons_zero, List.set_cons_succ]
        refine wpAnyH_take (i := 43) (oi := { dst := some 153, op := _, type := _, pos := _, after := _, guard := _ }) (v := ?_) rfl (by kernel_rfl) (by kernel_rfl) (by kernel_rfl) (fun _ _ _ h => h) (Or.inl ⟨by rfl, ?_⟩) hJ28 ?_
        rotate_left
        · intro W hSw
          have d1 := JS.cell hSw c1
          obtain ⟨e2, e3⟩ := JS.cells hSw
          go_simp
          first | done | rfl
        try simp only [Act.put, List.setIfInBounds_toArray, List.set_cons_zero, List.set_cons_succ]
        refine wpAnyH_take (i := 44) (oi := { dst := some 154, op := _, type := _, pos := _, after := _, guard := _ }) (v := ?_) rfl (by kernel_rfl) (by kernel_rfl) (by kernel_rfl) (fun _ _ _ h => h) (Or.inl ⟨by rfl, ?_⟩) hJ28 ?_
        rotate_left
        · intro W hSw
          have d1 := JS.cell hSw c1
          obtain ⟨e2, e3⟩ := JS.cells hSw
          go_simp
          first | done | rfl
        try simp only [Act.put, List.setIfInBounds_toArray, List.set_cons_zero, List.set_cons_succ]
        refine wpAnyH_take (i := 49) (oi := { dst := some 159, op := _, type := _, pos := _, after := _, guard := _ }) (v := ?_) rfl (by kernel_rfl) (by kernel_rfl) (by kernel_rfl) (fun _ _ _ h => h) (Or.inl ⟨by rfl, ?_⟩) hJ28 ?_
        rotate_left
        · intro W hSw
          have d1 := JS.cell hSw c1
          obtain ⟨e2, e3⟩ := JS.cells hSw
          go_simp
          first | done | rfl
        try simp only [Act.put, List.setIfInBounds_toArray, List.set_cons_zero, List.set_cons_succ]
        refine wpAnyH_take (i := 50) (oi := { dst := some 160, op := _, type := _, pos := _, after := _, guard := _ }) (v := ?_) rfl (by kernel_rfl) (by kernel_rfl) (by kernel_rfl) (fun _ _ _ h => h) (Or.inl ⟨by rfl, ?_⟩) hJ28 ?_
        rotate_left
        · intro W hSw
          have d1 := JS.cell hSw c1
          obtain ⟨e2, e3⟩ := JS.cells hSw
          go_simp
          first | done | rfl
        try simp only [Act.put, List.setIfInBounds_toArray, List.set_cons_zero, List.set_cons_succ]
        refine wpAnyH_take (i := 51) (oi := { dst := some 161, op := _, type := _, pos := _, after := _, guard := _ }) (v := ?_) rfl (by kernel_rfl) (by kernel_rfl) (by kernel_rfl) (fun _ _ _ h => h) (Or.inl ⟨by rfl, ?_⟩) hJ28 ?_
        rotate_left
        · intro W hSw
          have d1 := JS.cell hSw c1
          obtain ⟨e2, e3⟩ := JS.cells hSw
          go_simp
          first | done | rfl
        try simp only [Act.put, List.setIfInBounds_toArray, List.set_cons_zero, List.set_cons_succ]
        refine wpAnyH_take (i := 45) (oi := { dst := some 155, op := _, type := _, pos := _, after := _, guard := _ }) (v := ?_) rfl (by kernel_rfl) (by kernel_rfl) (by kernel_rfl) (fun _ _ _ h => h) (Or.inl ⟨by rfl, ?_⟩) hJ28 ?_
        rotate_left
        · intro W hSw
          have d1 := JS.cell hSw c1
          obtain ⟨e2, e3⟩ := JS.cells hSw
          go_simp
          first | done | rfl
        try simp only [Act.put, List.setIfInBounds_toArray, List.set_cons_zero, List.set_cons_succ]
        refine wpAnyH_take (i := 52) (oi := { dst := some 162, op := _, type := _, pos := _, after := _, guard := _ }) (v := ?_) rfl (by kernel_rfl) (by kernel_rfl) (by kernel_rfl) (fun _ _ _ h => h) (Or.inl ⟨by rfl, ?_⟩) hJ28 ?_
        rotate_left
        · intro W hSw
          have d1 := JS.cell hSw c1
          obtain ⟨e2, e3⟩ := JS.cells hSw
          go_simp
          first | done | rfl
        try simp only [Act.put, List.setIfInBounds_toArray, List.set_cons_zero, List.set_cons_succ]
        refine wpAnyH_take (i := 46) (oi := { dst := some 156, op := _, type := _, pos := _, after := _, guard := _ }) (v := ?_) rfl (by kernel_rfl) (by kernel_rfl) (by kernel_rfl) (fun _ _ _ h => h) (Or.inl ⟨by rfl, ?_⟩) hJ28 ?_
        rotate_left
        · intro W hSw
          have d1 := JS.cell hSw c1
          obtain ⟨e2, e3⟩ := JS.cells hSw
          go_simp
          first | done | rfl
        try simp only [Act.put, List.setIfInBounds_toArray, List.set_cons_zero, List.set_cons_succ]
        refine wpAnyH_take (i := 53) (oi := { dst := some 163, op := _, type := _, pos := _, after := _, guard := _ }) (v := ?_) rfl (by kernel_rfl) (by kernel_rfl) (by kernel_rfl) (fun _ _ _ h => h) (Or.inl ⟨by rfl, ?_⟩) hJ28 ?_
        rotate_left
        · intro W hSw
          have d1 := JS.cell hSw c1
          obtain ⟨e2, e3⟩ := JS.cells hSw
          go_simp
          first | done | rfl
        try simp only [Act.put, List.setIfInBounds_toArray, List.set_cons_zero, List.set_cons_succ]
        refine wpAnyH_take (i := 47) (oi := { dst := some 157, op := _, type := _, pos := _, after := _, guard := _ }) (v := ?_) rfl (by kernel_rfl) (by kernel_rfl) (by kernel_rfl) (fun _ _ _ h => h) (Or.inl ⟨by rfl, ?_⟩) hJ28 ?_
        rotate_left
        · intro W hSw
          have d1 := JS.cell hSw c1
          obtain ⟨e2, e3⟩ := JS.cells hSw
          go_simp
          first | done | rfl
        try simp only [Act.put, List.setIfInBounds_toArray, List.set_cons_zero, List.set_cons_succ]
        refine wpAnyH_take (i := 54) (oi := { dst := some 164, op := _, type := _, pos := _, after := _, guard := _ }) (v := ?_) rfl (by kernel_rfl) (by kernel_rfl) (by kernel_rfl) (fun _ _ _ h => h) (Or.inl ⟨by rfl, ?_⟩) hJ28 ?_
        rotate_left
        · intro W hSw
          have d1 := JS.cell hSw c1
          obtain ⟨e2, e3⟩ := JS.cells hSw
          go_simp
          first | done | rfl
        try simp only [Act.put, List.setIfInBounds_toArray, List.set_cons_zero, List.set_cons_succ]
        refine wpAnyH_ready (rs := [48]) (by kernel_rfl) (by simp) ?_
        refine AllReadyH.cons (o := { dst := some 158, op := _, type := _, pos := _, after := _, guard := _ }) rfl (fun K hK => ?_) AllReadyH.nil
        go_simp
        refine (HDU.out _ y hJ28).mono ?_
        rintro e wx48 ⟨v48, rfl, hR48, hJ48⟩
        refine hK.out _ _ hJ48 (fun _ => ?_)
        clear hK K
        try simp only [Act.put, List.setIfInBounds_toArray, List.set_cons_zero, List.set_cons_succ]
        refine wpAnyH_ready (rs := [55]) (by kernel_rfl) (by simp) ?_
        refine AllReadyH.cons (o := { dst := some 165, op := _, type := _, pos := _, after := _, guard := _ }) rfl (fun K hK => ?_) AllReadyH.nil
        go_simp
        refine (HRD.out _ y v48 hJ48 hR48).mono ?_
        rintro e wx55 ⟨v55, rfl, hQ48, hR55, hJ55⟩
        refine hK.out _ _ hJ55 (fun _ => ?_)
        clear hK K
        try simp only [Act.put, List.setIfInBounds_toArray, List.set_cons_zero, List.set_cons_succ]
        refine wpAnyH_ready (rs := [56]) (by kernel_rfl) (by simp) ?_
        refine AllReadyH.cons (o := { dst := some 166, op := _, type := _, pos := _, after := _, guard := _ }) rfl (fun K hK => ?_) AllReadyH.nil
        go_simp
        refine (HSM.out _ _ v48 v55 hJ55 hQ48 hR55).mono ?_
        rintro e wx56 ⟨rfl, hJ56⟩
        refine hK.out _ _ hJ56 (fun _ => ?_)
        clear hK K
        try simp only [Act.put, List.setIfInBounds_toArray, List.set_cons_zero, List.set_cons_succ]
        refine wpAnyH_take (i := 57) (oi := { dst := some 167, op := _, type := _, pos := _, after := _, guard := _ }) (v := ?_) rfl (by kernel_rfl) (by kernel_rfl) (by kernel_rfl) (fun _ _ _ h => h) (Or.inl ⟨by rfl, ?_⟩) hJ56 ?_
        rotate_left
        · intro W hSw
          have d1 := JS.cell hSw c1
          obtain ⟨e2, e3⟩ := JS.cells hSw
          go_simp
          first | done | rfl
        try simp only [Act.put, List.setIfInBounds_toArray, List.set_cons_zero, List.set_cons_succ]
        refine wpAnyH_take (i := 58) (oi := { dst := some 168, op := _, type := _, pos := _, after := _, guard := _ }) (v := ?_) rfl (by kernel_rfl) (by kernel_rfl) (by kernel_rfl) (fun _ _ _ h => h) (Or.inl ⟨by rfl, ?_⟩) hJ56 ?_
        rotate_left
        · intro W hSw
          have d1 := JS.cell hSw c1
          obtain ⟨e2, e3⟩ := JS.cells hSw
          go_simp
          first | done | rfl
        try simp only [Act.put, List.setIfInBounds_toArray, List.set_cons_zero, List.set_cons_succ]
        refine wpAnyH_take (i := 59) (oi := { dst := some 169, op := _, type := _, pos := _, after := _, guard := _ }) (v := ?_) rfl (by kernel_rfl) (by kernel_rfl) (by kernel_rfl) (fun _ _ _ h => h) (Or.inl ⟨by rfl, ?_⟩) hJ56 ?_
        rotate_left
        · intro W hSw
          have d1 := JS.cell hSw c1
          obtain ⟨e2, e3⟩ := JS.cells hSw
          go_simp
          first | done | rfl
        try simp only [Act.put, List.setIfInBounds_toArray, List.set_cons_zero, List.set_cons_succ]
        refine wpAnyH_take (i := 60) (oi := { dst := some 170, op := _, type := _, pos := _, after := _, guard := _ }) (v := ?_) rfl (by kernel_rfl) (by kernel_rfl) (by kernel_rfl) (fun _ _ _ h => h) (Or.inl ⟨by rfl, ?_⟩) hJ56 ?_
        rotate_left
        · intro W hSw
          have d1 := JS.cell hSw c1
          obtain ⟨e2, e3⟩ := JS.cells hSw
          go_simp
          first | done | rfl
        try simp only [Act.put, List.setIfInBounds_toArray, List.set_cons_zero, List.set_cons_succ]
        refine wpAnyH_take (i := 61) (oi := { dst := some 171, op := _, type := _, pos := _, after := _, guard := _ }) (v := ?_) rfl (by kernel_rfl) (by kernel_rfl) (by kernel_rfl) (fun _ _ _ h => h) (Or.inl ⟨by rfl, ?_⟩) hJ56 ?_
        rotate_left
        · intro W hSw
          have d1 := JS.cell hSw c1
          obtain ⟨e2, e3⟩ := JS.cells hSw
          go_simp
          first | done | rfl
        try simp only [Act.put, List.setIfInBounds_toArray, List.set_cons_zero, List.set_cons_succ]
        refine wpAnyH_take (i := 67) (oi := { dst := some 177, op := _, type := _, pos := _, after := _, guard := _ }) (v := ?_) rfl (by kernel_rfl) (by kernel_rfl) (by kernel_rfl) (fun _ _ _ h => h) (Or.inl ⟨by rfl, ?_⟩) hJ56 ?_
        rotate_left
        · intro W hSw
          have d1 := JS.cell hSw c1
          obtain ⟨e2, e3⟩ := JS.cells hSw
          go_simp
          first | done | rfl
        try simp only [Act.put, List.setIfInBounds_toArray, List.set_cons_zero, List.set_cons_succ]
        refine wpAnyH_take (i := 68) (oi := { dst := some 178, op := _, type := _, pos := _, after := _, guard := _ }) (v := ?_) rfl (by kernel_rfl) (by kernel_rfl) (by kernel_rfl) (fun _ _ _ h => h) (Or.inl ⟨by rfl, ?_⟩) hJ56 ?_
        rotate_left
        · intro W hSw
          have d1 := JS.cell hSw c1
          obtain ⟨e2, e3⟩ := JS.cells hSw
          go_simp
          first | done | rfl
        try simp only [Act.put, List.setIfInBounds_toArray, List.set_cons_zero, List.set_cons_succ]
        refine wpAnyH_take (i := 62) (oi := { dst := some 172, op := _, type := _, pos := _, after := _, guard := _ }) (v := ?_) rfl (by kernel_rfl) (by kernel_rfl) (by kernel_rfl) (fun _ _ _ h => h) (Or.inl ⟨by rfl, ?_⟩) hJ56 ?_
        rotate_left
        · intro W hSw
          have d1 := JS.cell hSw c1
          obtain ⟨e2, e3⟩ := JS.cells hSw
          go_simp
          first | done | rfl
        try simp only [Act.put, List.setIfInBounds_toArray, List.set_cons_zero, List.set_cons_succ]
        refine wpAnyH_take (i := 69) (oi := { dst := some 179, op := _, type := _, pos := _, after := _, guard := _ }) (v := ?_) rfl (by kernel_rfl) (by kernel_rfl) (by kernel_rfl) (fun _ _ _ h => h) (Or.inl ⟨by rfl, ?_⟩) hJ56 ?_
        rotate_left
        · intro W hSw
          have d1 := JS.cell hSw c1
          obtain ⟨e2, e3⟩ := JS.cells hSw
          go_simp
          first | done | rfl
        try simp only [Act.put, List.setIfInBounds_toArray, List.set_cons_zero, List.set_cons_succ]
        refine wpAnyH_take (i := 63) (oi := { dst := some 173, op := _, type := _, pos := _, after := _, guard := _ }) (v := ?_) rfl (by kernel_rfl) (by kernel_rfl) (by kernel_rfl) (fun _ _ _ h => h) (Or.inl ⟨by rfl, ?_⟩) hJ56 ?_
        rotate_left
        · intro W hSw
          have d1 := JS.cell hSw c1
          obtain ⟨e2, e3⟩ := JS.cells hSw
          go_simp
          first | done | rfl
        try simp only [Act.put, List.setIfInBounds_toArray, List.set_cons_zero, List.set_cons_succ]
        refine wpAnyH_take (i := 70) (oi := { dst := some 180, op := _, type := _, pos := _, after := _, guard := _ }) (v := ?_) rfl (by kernel_rfl) (by kernel_rfl) (by kernel_rfl) (fun _ _ _ h => h) (Or.inl ⟨by rfl, ?_⟩) hJ56 ?_
        rotate_left
        · intro W hSw
          have d1 := JS.cell hSw c1
          obtain ⟨e2, e3⟩ := JS.cells hSw
          go_simp
          first | done | rfl
        try simp only [Act.put, List.setIfInBounds_toArray, List.set_cons_zero, List.set_cons_succ]
        refine wpAnyH_take (i := 64) (oi := { dst := some 174, op := _, type := _, pos := _, after := _, guard := _ }) (v := ?_) rfl (by kernel_rfl) (by kernel_rfl) (by kernel_rfl) (fun _ _ _ h => h) (Or.inl ⟨by rfl, ?_⟩) hJ56 ?_
        rotate_left
        · intro W hSw
          have d1 := JS.cell hSw c1
          obtain ⟨e2, e3⟩ := JS.cells hSw
          go_simp
          first | done | rfl
        try simp only [Act.put, List.setIfInBounds_toArray, List.set_cons_zero, List.set_cons_succ]
        refine wpAnyH_take (i := 71) (oi := { dst := some 181, op := _, type := _, pos := _, after := _, guard := _ }) (v := ?_) rfl (by kernel_rfl) (by kernel_rfl) (by kernel_rfl) (fun _ _ _ h => h) (Or.inl ⟨by rfl, ?_⟩) hJ56 ?_
        rotate_left
        · intro W hSw
          have d1 := JS.cell hSw c1
          obtain ⟨e2, e3⟩ := JS.cells hSw
          go_simp
          first | done | rfl
        try simp only [Act.put, List.setIfInBounds_toArray, List.set_cons_zero, List.set_cons_succ]
        refine wpAnyH_take (i := 65) (oi := { dst := some 175, op := _, type := _, pos := _, after := _, guard := _ }) (v := ?_) rfl (by kernel_rfl) (by kernel_rfl) (by kernel_rfl) (fun _ _ _ h => h) (Or.inl ⟨by rfl, ?_⟩) hJ56 ?_
        rotate_left
        · intro W hSw
          have d1 := JS.cell hSw c1
          obtain ⟨e2, e3⟩ := JS.cells hSw
          go_simp
          first | done | rfl
        try simp only [Act.put, List.setIfInBounds_toArray, List.set_cons_zero, List.set_cons_succ]
        refine wpAnyH_take (i := 72) (oi := { dst := some 182, op := _, type := _, pos := _, after := _, guard := _ }) (v := ?_) rfl (by kernel_rfl) (by kernel_rfl) (by kernel_rfl) (fun _ _ _ h => h) (Or.inl ⟨by rfl, ?_⟩) hJ56 ?_
        rotate_left
        · intro W hSw
          have d1 := JS.cell hSw c1
          obtain ⟨e2, e3⟩ := JS.cells hSw
          go_simp
          first | done | rfl
        try simp only [Act.put, List.setIfInBounds_toArray, List.set_cons_zero, List.set_cons_succ]
        refine wpAnyH_ready (rs := [66]) (by kernel_rfl) (by simp) ?_
        refine AllReadyH.cons (o := { dst := some 176, op := _, type := _, pos := _, after := _, guard := _ }) rfl (fun K hK => ?_) AllReadyH.nil
        go_simp
        refine (HDU.out _ (k2 + 1) hJ56).mono ?_
        rintro e wx66 ⟨v66, rfl, hR66, hJ66⟩
        refine hK.out _ _ hJ66 (fun _ => ?_)
        clear hK K
        try simp only [Act.put, List.setIfInBounds_toArray, List.set_cons_zero, List.set_cons_succ]
        refine wpAnyH_ready (rs := [73]) (by kernel_rfl) (by simp) ?_
        refine AllReadyH.cons (o := { dst := some 183, op := _, type := _, pos := _, after := _, guard := _ }) rfl (fun K hK => ?_) AllReadyH.nil
        go_simp
        refine (HRD.out _ (k2 + 1) v66 hJ66 hR66).mono ?_
        rintro e wx73 ⟨v73, rfl, hQ66, hR73, hJ73⟩
        refine hK.out _ _ hJ73 (fun _ => ?_)
        clear hK K
        try simp only [Act.put, List.setIfInBounds_toArray, List.set_cons_zero, List.set_cons_succ]
        refine wpAnyH_ready (rs := [74]) (by kernel_rfl) (by simp) ?_
        refine AllReadyH.cons (o := { dst := some 184, op := _, type := _, pos := _, after := _, guard := _ }) rfl (fun K hK => ?_) AllReadyH.nil
        go_simp
        refine (HSM.out _ _ v66 v73 hJ73 hQ66 hR73).mono ?_
        rintro e wx74 ⟨rfl, hJ74⟩
        refine hK.out _ _ hJ74 (fun _ => ?_)
        clear hK K
        try simp only [Act.put, List.setIfInBounds_toArray, List.set_cons_zero, List.set_cons_succ]
        refine wpAnyH_take (i := 75) (oi := { dst := some 185, op := _, type := _, pos := _, after := _, guard := _ }) (v := ?_) rfl (by kernel_rfl) (by kernel_rfl) (by kernel_rfl) (fun _ _ _ h => h) (Or.inl ⟨by rfl, ?_⟩) hJ74 ?_
        rotate_left
        · intro W hSw
          have d1 := JS.cell hSw c1
          obtain ⟨e2, e3⟩ := JS.cells hSw
          go_simp
          first | done | rfl
        try simp only [Act.put, List.setIfInBounds_toArray, List.set_cons_zero, List.set_cons_succ]
        refine wpAnyH_take (i := 76) (oi := { dst := some 186, op := _, type := _, pos := _, after := _, guard := _ }) (v := ?_) rfl (by kernel_rfl) (by kernel_rfl) (by kernel_rfl) (fun _ _ _ h => h) (Or.inl ⟨by rfl, ?_⟩) hJ74 ?_
        rotate_left
        · intro W hSw
          have d1 := JS.cell hSw c1
          obtain ⟨e2, e3⟩ := JS.cells hSw
          go_simp
          first | done | rfl
        try simp only [Act.put, List.setIfInBounds_toArray, List.set_cons_zero, List.set_cons_succ]
        refine wpAnyH_done (by kernel_rfl) ?_ _
        refine NoPanic.normal ?_
        go_wp2_with fail
        go_roundw
        case rel => exact ⟨j + 1, by omega, by omega, by go_num, k2, l2, n2, row2, HS2.out, hJ74⟩
        case measure => simp [intOf]; omega
    · have HF := Lib.hid hJ.below
      clear hJ hS
      by_cases q1 : j < n
      · obtain rfl : j = 80 := by omega
        go_wp2_with fail
        go_ret
        exact ⟨rfl, HF.out⟩
      · obtain rfl : j = n := by omega
        go_wp2_with fail
        go_ret
        exact ⟨rfl, HF.out⟩
end Go.Proofs.Ytecaahcmebdglaa

/- The walk of ChooseTurns. -/
import Derived.Test.YtpbjjmenkoigjaaDoorMgLawChooseTurnsAM
import Derived.Test.YtpbjjmenkoigjaaDoorMgLawChooseTurnsAN
namespace Go.Proofs.YtpbjjmenkoigjaaDoor
open Go.RowKit
set_option linter.unusedVariables false
theorem wrap64_id (n : Int) (h : -9223372036854775808 ≤ n ∧ n ≤ 9223372036854775807) : wrap64 n = n := by unfold wrap64; omega
theorem runC_len {l : List Mst} {wh : Bool} : ∀ {f : Nat} {o v s : Int} {E E' : List Est}, runC l wh f o v s E = some E' → E'.length ≤ E.length + f
  | 0, o, v, s, E, E', h => by
    have h : some E = some E' := h
    injection h with h
    subst h
    omega
  | f + 1, o, v, s, E, E', h => by
    rw [show runC l wh (f + 1) o v s E = (if badStub (told l (o + 1)) o v s then some E else match held l (o + 1) (told l (o + 1)).2.1 with
      | none => if wh = true then some E else none
      | some e => runC l wh f e.mo e.mv e.sum (E ++ [e])) from rfl] at h
    split at h
    · injection h with h; subst h; omega
    · split at h
      · split at h
        · injection h with h; subst h; omega
        · cases h
      · have := runC_len h
        simp at this
        omega
theorem chooseV_len (C : Int) (L : List Mst) : (chooseV C L).es.length ≤ 8 := by
  unfold chooseV
  split
  · unfold chooseL
    split
    · exact Nat.zero_le _
    · split
      · exact Nat.zero_le _
      · split
        · exact Nat.zero_le _
        · next h => have := runC_len h; simpa using this
  · exact Nat.zero_le _
set_option maxRecDepth 100000 in
set_option maxHeartbeats 40000000 in
theorem turns_walk (C turn : Int) (ad : Option Addr) (cap : Nat) (L : List Mst) (w : World) (hr : RowsAt 33 w ad (L.map Mst.row)) (hcap : L.length ≤ cap) (hin : ∀ m ∈ L, m.In w) (hg : Gl w) :
    Calls Tryd.prog 5 #[.int .i64 C, .slice ad L.length cap, .int .i64 turn] w fun e w' => e = .returned (.bool true) ∧ Below w.heap.size w w' := by
  have HAW := Lib.hid (awake18_any w hg)
  have HGR := Lib.hid (fun W (hW : Below w.heap.size w W) => great_any ad cap L W (hr.later hW) (fun m hm => (hin m hm).later hW))
  have HR := Lib.hid hr
  have HIN := Lib.hid hin
  have HG := Lib.hid hg
  obtain ⟨N, hN⟩ : ∃ N, N = L.length := ⟨_, rfl⟩
  have HN := Lib.hid hN
  rw [← hN] at hcap ⊢
  simp only [← hN] at HGR
  clear hr hin hg hN
  go_enter Tryd.func5, Tryd.ntmps5
  go_wp2_with fail
  refine HAW.out.mono ?_
  rintro e w1 ⟨rfl, hb1⟩
  have HB1 := Lib.hid hb1
  go_wp2_with fail
  refine (HGR.out _ hb1).mono ?_
  rintro e w1' ⟨⟨v, rfl, hv⟩, rfl⟩
  cases v
  · have h12 : L.length ≤ 12 := hv rfl
    rw [← HN.out] at h12
    have HLA := Lib.hid (fun W (hW : Below w.heap.size w W) => (⟨HR.out.later hW, by rw [← HN.out]; exact hcap, by rw [← HN.out]; omega, fun m hm => (HIN.out m hm).later hW⟩ : LogsAt W ad cap L))
    clear hv hb1 HAW HGR
    go_wp2_with fail
    go_loopw [7] (fun iv wr => ∃ j : Nat, j ≤ N ∧ iv = .int .i64 (j : Int) ∧ Dist L j ∧ Below w.heap.size w wr) (fun iv _ => N - (intOf iv).toNat)
    case atStart => exact ⟨0, by omega, rfl, dist_zero L, HB1.out⟩
    case round =>
      clear HB1
      obtain ⟨j, hj, rfl, hd, hbw⟩ := hrel
      have HD := Lib.hid hd
      have HB := Lib.hid hbw
      clear hd hbw
      by_cases hlt : j < N
      · have hlti : (j : Int) < (N : Int) := by omega
        obtain ⟨x, hx⟩ : ∃ x, L[j]? = some x := ⟨L[j]'(by rw [← HN.out]; exact hlt), List.getElem?_eq_getElem _⟩
        obtain ⟨b, off, rfl, hbl, hra⟩ := HR.out.range (i := j) (x := x.row) (by rw [List.getElem?_map, hx]; rfl)
        have HX := Lib.hid hx
        have HF1 : Hid (∀ W, Below w.heap.size w W → W.cell? ⟨b, off + j * 33 + 1, none⟩ = some (.int .i64 x.f)) := Lib.hid (fun W hW => rangeAt.later hra hbl hW 1 _ rfl)
        clear hra hbl hx
        go_wp2_with fail
        go_loopw [8] (fun iv wr2 => ∃ k : Nat, k ≤ j ∧ iv = .int .i64 (k : Int) ∧ (∀ b' y', b' < k → L[b']? = some y' → x.f ≠ y'.f) ∧ Below w.heap.size w wr2) (fun iv _ => j - (intOf iv).toNat)
        case atStart => exact ⟨0, by omega, rfl, fun b' y' h => absurd h (by omega), HB.out⟩
        case round =>
          clear HB
          obtain ⟨k, hk, rfl, hne, hbw⟩ := hrel
          have HNE := Lib.hid hne
          have HB2 := Lib.hid hbw
          clear hne hbw
          by_cases hkl : k < j
          · have hkli : (k : Int) < (j : Int) := by omega
            have hkN : (k : Int) < (N : Int) := by omega
            obtain ⟨y, hy⟩ : ∃ y, L[k]? = some y := ⟨L[k]'(by rw [← HN.out]; omega), List.getElem?_eq_getElem _⟩
            obtain ⟨b2, off2, hbb, hbl2, hra2⟩ := HR.out.range (i := k) (x := y.row) (by rw [List.getElem?_map, hy]; rfl)
            injection hbb with hbb
            injection hbb with hb1' hb2' _
            subst hb1' hb2'
            have HY := Lib.hid hy
            have HF2 : Hid (∀ W, Below w.heap.size w W → W.cell? ⟨b, off + k * 33 + 1, none⟩ = some (.int .i64 y.f)) := Lib.hid (fun W hW => rangeAt.later hra2 hbl2 hW 1 _ rfl)
            clear hra2 hbl2 hy
            go_wp2_with fail
            by_cases hf : x.f = y.f
            · rw [hf] at HF1
              refine wp_region_noPanic ?_
              refine wp_region_held_drew (S := fun W => Below w.heap.size w W) (by kernel_rfl) (show Below w.heap.size w wr.drew from HB2.out.trans ⟨rfl, rfl, rfl, Nat.le_refl _, fun _ _ => rfl⟩) (fun hHeld => ?_)
              generalize wr.drew = w5 at *
              refine wpAnyH_take (i := 0) (oi := { dst := some 26, op := _, type := _, pos := _, after := _, guard := _ }) (v := ?_) rfl (by kernel_rfl) (by kernel_rfl) (by kernel_rfl) (fun _ _ _ h => h) (Or.inl ⟨by rfl, ?_⟩) hHeld ?_
              rotate_left
              · intro W hSw
                have q1 := HF1.out W hSw
                have q2 := HF2.out W hSw
                go_simp
                first | done | rfl
              try simp only [Act.put, List.setIfInBounds_toArray, List.set_cons_zero, List.set_cons_succ]
              refine wpAnyH_take (i := 1) (oi := { dst := some 27, op := _, type := _, pos := _, after := _, guard := _ }) (v := ?_) rfl (by kernel_rfl) (by kernel_rfl) (by kernel_rfl) (fun _ _ _ h => h) (Or.inl ⟨by rfl, ?_⟩) hHeld ?_
              rotate_left
              · intro W hSw
                have q1 := HF1.out W hSw
                have q2 := HF2.out W hSw
                go_simp
                first | done | rfl
              try simp only [Act.put, List.setIfInBounds_toArray, List.set_cons_zero, List.set_cons_succ]
              refine wpAnyH_take (i := 5) (oi := { dst := some 31, op := _, type := _, pos := _, after := _, guard := _ }) (v := ?_) rfl (by kernel_rfl) (by kernel_rfl) (by kernel_rfl) (fun _ _ _ h => h) (Or.inl ⟨by rfl, ?_⟩) hHeld ?_
              rotate_left
              · intro W hSw
                have q1 := HF1.out W hSw
                have q2 := HF2.out W hSw
                go_simp
                first | done | rfl
              try simp only [Act.put, List.setIfInBounds_toArray, List.set_cons_zero, List.set_cons_succ]
              refine wpAnyH_take (i := 6) (oi := { dst := some 32, op := _, type := _, pos := _, after := _, guard := _ }) (v := ?_) rfl (by kernel_rfl) (by kernel_rfl) (by kernel_rfl) (fun _ _ _ h => h) (Or.inl ⟨by rfl, ?_⟩) hHeld ?_
              rotate_left
              · intro W hSw
                have q1 := HF1.out W hSw
                have q2 := HF2.out W hSw
                go_simp
                first | done | rfl
              try simp only [Act.put, List.setIfInBounds_toArray, List.set_cons_zero, List.set_cons_succ]
              refine wpAnyH_take (i := 2) (oi := { dst := some 28, op := _, type := _, pos := _, after := _, guard := _ }) (v := ?_) rfl (by kernel_rfl) (by kernel_rfl) (by kernel_rfl) (fun _ _ _ h => h) (Or.inl ⟨by rfl, ?_⟩) hHeld ?_
              rotate_left
              · intro W hSw
                have q1 := HF1.out W hSw
                have q2 := HF2.out W hSw
                go_simp
                first | done | rfl
              try simp only [Act.put, List.setIfInBounds_toArray, List.set_cons_zero, List.set_cons_succ]
              refine wpAnyH_take (i := 7) (oi := { dst := some 33, op := _, type := _, pos := _, after := _, guard := _ }) (v := ?_) rfl (by kernel_rfl) (by kernel_rfl) (by kernel_rfl) (fun _ _ _ h => h) (Or.inl ⟨by rfl, ?_⟩) hHeld ?_
              rotate_left
              · intro W hSw
                have q1 := HF1.out W hSw
                have q2 := HF2.out W hSw
                go_simp
                first | done | rfl
              try simp only [Act.put, List.setIfInBounds_toArray, List.set_cons_zero, List.set_cons_succ]
              refine wpAnyH_take (i := 3) (oi := { dst := some 29, op := _, type := _, pos := _, after := _, guard := _ }) (v := ?_) rfl (by kernel_rfl) (by kernel_rfl) (by kernel_rfl) (fun _ _ _ h => h) (Or.inl ⟨by rfl, ?_⟩) hHeld ?_
              rotate_left
              · intro W hSw
                have q1 := HF1.out W hSw
                have q2 := HF2.out W hSw
                go_simp
                first | done | rfl
              try simp only [Act.put, List.setIfInBounds_toArray, List.set_cons_zero, List.set_cons_succ]
              refine wpAnyH_take (i := 8) (oi := { dst := some 34, op := _, type := _, pos := _, after := _, guard := _ }) (v := ?_) rfl (by kernel_rfl) (by kernel_rfl) (by kernel_rfl) (fun _ _ _ h => h) (Or.inl ⟨by rfl, ?_⟩) hHeld ?_
              rotate_left
              · intro W hSw
                have q1 := HF1.out W hSw
                have q2 := HF2.out W hSw
                go_simp
                first | done | rfl
              try simp only [Act.put, List.setIfInBounds_toArray, List.set_cons_zero, List.set_cons_succ]
              refine wpAnyH_take (i := 4) (oi := { dst := some 30, op := _, type := _, pos := _, after := _, guard := _ }) (v := ?_) rfl (by kernel_rfl) (by kernel_rfl) (by kernel_rfl) (fun _ _ _ h => h) (Or.inl ⟨by rfl, ?_⟩) hHeld ?_
              rotate_left
              · intro W hSw
                have q1 := HF1.out W hSw
                have q2 := HF2.out W hSw
                go_simp
                first | done | rfl
              try simp only [Act.put, List.setIfInBounds_toArray, List.set_cons_zero, List.set_cons_succ]
              refine wpAnyH_take (i := 9) (oi := { dst := some 35, op := _, type := _, pos := _, after := _, guard := _ }) (v := ?_) rfl (by kernel_rfl) (by kernel_rfl) (by kernel_rfl) (fun _ _ _ h => h) (Or.inl ⟨by rfl, ?_⟩) hHeld ?_
              rotate_left
              · intro W hSw
                have q1 := HF1.out W hSw
                have q2 := HF2.out W hSw
                go_simp
                first | done | rfl
              try simp only [Act.put, List.setIfInBounds_toArray, List.set_cons_zero, List.set_cons_succ]
              refine wpAnyH_take (i := 10) (oi := { dst := some 36, op := _, type := _, pos := _, after := _, guard := _ }) (v := ?_) rfl (by kernel_rfl) (by kernel_rfl) (by kernel_rfl) (fun _ _ _ h => h) (Or.inl ⟨by rfl, ?_⟩) hHeld ?_
              rotate_left
              · intro W hSw
                have q1 := HF1.out W hSw
                have q2 := HF2.out W hSw
                go_simp
                first | done | rfl
              try simp only [Act.put, List.setIfInBounds_toArray, List.set_cons_zero, List.set_cons_succ]
              refine wpAnyH_done (by kernel_rfl) ?_ _
              refine NoPanic.normal ?_
              go_wp2_with fail
              go_ret
              exact ⟨rfl, hHeld⟩

            · have hfb : (x.f == y.f) = false := beq_eq_false_iff_ne.2 hf
              refine wp_region_noPanic ?_
              refine wp_region_held_drew (S := fun W => Below w.heap.size w W) (by kernel_rfl) (show Below w.heap.size w wr.drew from HB2.out.trans ⟨rfl, rfl, rfl, Nat.le_refl _, fun _ _ => rfl⟩) (fun hHeld => ?_)
              generalize wr.drew = w5 at *
              refine wpAnyH_take (i := 0) (oi := { dst := some 26, op := _, type := _, pos := _, after := _, guard := _ }) (v := ?_) rfl (by kernel_rfl) (by kernel_rfl) (by kernel_rfl) (fun _ _ _ h => h) (Or.inl ⟨by rfl, ?_⟩) hHeld ?_
              rotate_left
              · intro W hSw
                have q1 := HF1.out W hSw
                have q2 := HF2.out W hSw
                go_simp
                first | done | rfl
              try simp only [Act.put, List.setIfInBounds_toArray, List.set_cons_zero, List.set_cons_succ]
              refine wpAnyH_take (i := 1) (oi := { dst := some 27, op := _, type := _, pos := _, after := _, guard := _ }) (v := ?_) rfl (by kernel_rfl) (by kernel_rfl) (by kernel_rfl) (fun _ _ _ h => h) (Or.inl ⟨by rfl, ?_⟩) hHeld ?_
              rotate_left
              · intro W hSw
                have q1 := HF1.out W hSw
                have q2 := HF2.out W hSw
                go_simp
                first | done | rfl
              try simp only [Act.put, List.setIfInBounds_toArray, List.set_cons_zero, List.set_cons_succ]
              refine wpAnyH_take (i := 5) (oi := { dst := some 31, op := _, type := _, pos := _, after := _, guard := _ }) (v := ?_) rfl (by kernel_rfl) (by kernel_rfl) (by kernel_rfl) (fun _ _ _ h => h) (Or.inl ⟨by rfl, ?_⟩) hHeld ?_
              rotate_left
              · intro W hSw
                have q1 := HF1.out W hSw
                have q2 := HF2.out W hSw
                go_simp
                first | done | rfl
              try simp only [Act.put, List.setIfInBounds_toArray, List.set_cons_zero, List.set_cons_succ]
              refine wpAnyH_take (i := 6) (oi := { dst := some 32, op := _, type := _, pos := _, after := _, guard := _ }) (v := ?_) rfl (by kernel_rfl) (by kernel_rfl) (by kernel_rfl) (fun _ _ _ h => h) (Or.inl ⟨by rfl, ?_⟩) hHeld ?_
              rotate_left
              · intro W hSw
                have q1 := HF1.out W hSw
                have q2 := HF2.out W hSw
                go_simp
                first | done | rfl
              try simp only [Act.put, List.setIfInBounds_toArray, List.set_cons_zero, List.set_cons_succ]
              refine wpAnyH_take (i := 2) (oi := { dst := some 28, op := _, type := _, pos := _, after := _, guard := _ }) (v := ?_) rfl (by kernel_rfl) (by kernel_rfl) (by kernel_rfl) (fun _ _ _ h => h) (Or.inl ⟨by rfl, ?_⟩) hHeld ?_
              rotate_left
              · intro W hSw
                have q1 := HF1.out W hSw
                have q2 := HF2.out W hSw
                go_simp
                first | done | rfl
              try simp only [Act.put, List.setIfInBounds_toArray, List.set_cons_zero, List.set_cons_succ]
              refine wpAnyH_take (i := 7) (oi := { dst := some 33, op := _, type := _, pos := _, after := _, guard := _ }) (v := ?_) rfl (by kernel_rfl) (by kernel_rfl) (by kernel_rfl) (fun _ _ _ h => h) (Or.inl ⟨by rfl, ?_⟩) hHeld ?_
              rotate_left
              · intro W hSw
                have q1 := HF1.out W hSw
                have q2 := HF2.out W hSw
                go_simp
                first | done | rfl
              try simp only [Act.put, List.setIfInBounds_toArray, List.set_cons_zero, List.set_cons_succ]
              refine wpAnyH_take (i := 3) (oi := { dst := some 29, op := _, type := _, pos := _, after := _, guard := _ }) (v := ?_) rfl (by kernel_rfl) (by kernel_rfl) (by kernel_rfl) (fun _ _ _ h => h) (Or.inl ⟨by rfl, ?_⟩) hHeld ?_
              rotate_left
              · intro W hSw
                have q1 := HF1.out W hSw
                have q2 := HF2.out W hSw
                go_simp
                first | done | rfl
              try simp only [Act.put, List.setIfInBounds_toArray, List.set_cons_zero, List.set_cons_succ]
              refine wpAnyH_take (i := 8) (oi := { dst := some 34, op := _, type := _, pos := _, after := _, guard := _ }) (v := ?_) rfl (by kernel_rfl) (by kernel_rfl) (by kernel_rfl) (fun _ _ _ h => h) (Or.inl ⟨by rfl, ?_⟩) hHeld ?_
              rotate_left
              · intro W hSw
                have q1 := HF1.out W hSw
                have q2 := HF2.out W hSw
                go_simp
                first | done | rfl
              try simp only [Act.put, List.setIfInBounds_toArray, List.set_cons_zero, List.set_cons_succ]
              refine wpAnyH_take (i := 4) (oi := { dst := some 30, op := _, type := _, pos := _, after := _, guard := _ }) (v := ?_) rfl (by kernel_rfl) (by kernel_rfl) (by kernel_rfl) (fun _ _ _ h => h) (Or.inl ⟨by rfl, ?_⟩) hHeld ?_
              rotate_left
              · intro W hSw
                have q1 := HF1.out W hSw
                have q2 := HF2.out W hSw
                go_simp
                first | done | rfl
              try simp only [Act.put, List.setIfInBounds_toArray, List.set_cons_zero, List.set_cons_succ]
              refine wpAnyH_take (i := 9) (oi := { dst := some 35, op := _, type := _, pos := _, after := _, guard := _ }) (v := ?_) rfl (by kernel_rfl) (by kernel_rfl) (by kernel_rfl) (fun _ _ _ h => h) (Or.inl ⟨by rfl, ?_⟩) hHeld ?_
              rotate_left
              · intro W hSw
                have q1 := HF1.out W hSw
                have q2 := HF2.out W hSw
                go_simp
                first | done | rfl
              try simp only [Act.put, List.setIfInBounds_toArray, List.set_cons_zero, List.set_cons_succ]
              refine wpAnyH_take (i := 10) (oi := { dst := some 36, op := _, type := _, pos := _, after := _, guard := _ }) (v := ?_) rfl (by kernel_rfl) (by kernel_rfl) (by kernel_rfl) (fun _ _ _ h => h) (Or.inl ⟨by rfl, ?_⟩) hHeld ?_
              rotate_left
              · intro W hSw
                have q1 := HF1.out W hSw
                have q2 := HF2.out W hSw
                go_simp
                first | done | rfl
              try simp only [Act.put, List.setIfInBounds_toArray, List.set_cons_zero, List.set_cons_succ]
              refine wpAnyH_done (by kernel_rfl) ?_ _
              refine NoPanic.normal ?_
              go_wp2_with fail
              go_roundw
              case rel => exact ⟨k + 1, by omega, by go_num, fun b' y' hb' hy' => by
                rcases Nat.lt_succ_iff_lt_or_eq.1 hb' with q | q
                · exact HNE.out b' y' q hy'
                · subst q
                  have := HY.out.symm.trans hy'
                  injection this with this
                  rw [← this]
                  exact hf, hHeld⟩
              case measure => simp [intOf]; omega

          · obtain rfl : j = k := by omega
            have HD2 := Lib.hid (dist_snoc HX.out HD.out HNE.out)
            go_wp2_with fail
            go_roundw
            case rel => exact ⟨j + 1, by omega, by go_num, HD2.out, HB2.out⟩
            case measure => simp [intOf]; omega
      · obtain rfl : N = j := by omega
        clear hj
        by_cases h0 : N = 0
        · subst h0
          have hL : L = [] := List.eq_nil_of_length_eq_zero HN.out.symm
          have HCH := Lib.hid (choose_any C ad cap L _ (HLA.out _ HB.out) (HG.out.later HB.out))
          rw [← HN.out] at HCH
          have hcr : (chooseV C L).r = false := by rw [hL]; exact chooseV_nil C
          have HCR := Lib.hid hcr
          generalize chooseV C L = cc at *
          clear hL hcr
          go_wp2_with fail
          refine HCH.out.mono ?_
          rintro e w6 ⟨⟨ea, cx, rfl, _, _⟩, hb6⟩
          have HF := Lib.hid (HB.out.trans (hb6.mono HB.out.size))
          rw [HCR.out]
          clear hb6 HCH
          unfold crow
          have hfl : ∀ W, (Instr.field 30 (.agg #[.bool false, .int .i64 cc.co, .int .i64 cc.cv, .int .u64 cc.cs, .int .i64 cc.cm, .slice ea cc.es.length cx]) 0).run Tryd.prog W = .ok (.bool false) W := fun W => by kernel_rfl
          go_wp2_with fail
          go_ret
          exact ⟨rfl, HF.out⟩
        · have h0b : ((N : Int) == 0) = false := beq_eq_false_iff_ne.2 (by omega)
          have h0i : ¬ (N : Int) = 0 := by omega
          obtain ⟨t, htN, ht⟩ : ∃ t : Nat, t < N ∧ (IntKind.u64.wrap turn).tmod (N : Int) = (t : Int) := by
            have h1 : 0 ≤ IntKind.u64.wrap turn := by simp [IntKind.wrap, IntKind.bits, IntKind.signed]; omega
            have h2 := Int.tmod_lt_of_pos (IntKind.u64.wrap turn) (show (0 : Int) < N by omega)
            have h3 := Int.tmod_nonneg (N : Int) h1
            exact ⟨((IntKind.u64.wrap turn).tmod (N : Int)).toNat, by omega, by omega⟩
          have hwt : wrap64 (t : Int) = (t : Int) := wrap64_id _ (by omega)
          have hN0 : 0 < L.length := by rw [← HN.out]; omega
          have HEQ : Hid (chooseV C (rot L t N) = chooseV C L) := Lib.hid (by have := HD.out; rw [HN.out] at this ⊢; exact chooseV_rot this (by rw [← HN.out]; exact htN) C)
          have HRL : Hid (∀ i, (rot L t i).length = i) := Lib.hid (rot_len t hN0)
          have H0 : Hid (OwnC (fun q => w.heap.size ≤ q) (wr.alloc (.cells #[] 45)) (.slice (some ⟨wr.heap.size, 0, none⟩) 0 0) 0 33 (rcells ((rot L t 0).map Mst.row)) ∧ Below w.heap.size w (wr.alloc (.cells #[] 45))) := Lib.hid ⟨OwnC.empty _ _ _ HB.out.size (by simp), HB.out.alloc HB.out.size _⟩
          go_wp2_with fail
          generalize wr.alloc (.cells #[] 45) = W0 at *
          clear HB ht hwt
          go_loopw [9, 10] (fun lv iv wr => ∃ (i : Nat) (ad2 : Option Addr) (cap2 : Nat), i ≤ N ∧ iv = .int .i64 (i : Int) ∧ lv = .slice ad2 i cap2 ∧ OwnC (fun q => w.heap.size ≤ q) wr (.slice ad2 i cap2) i 33 (rcells ((rot L t i).map Mst.row)) ∧ Below w.heap.size w wr) (fun _ iv _ => N - (intOf iv).toNat)
          case atStart => exact ⟨0, _, 0, by omega, rfl, rfl, H0.out.1, H0.out.2⟩
          case round =>
            clear H0
            obtain ⟨i, ad2, cap2, hi, rfl, rfl, hO, hbw⟩ := hrel
            have HO := Lib.hid hO
            have HB := Lib.hid hbw
            clear hO hbw
            by_cases hil : i < N
            · have hili : (i : Int) < (N : Int) := by omega
              have hs : wrap64 ((i : Int) + (t : Int)) = (i : Int) + (t : Int) := wrap64_id _ (by omega)
              obtain ⟨m, hm⟩ : ∃ m, m = (i + t) % N := ⟨_, rfl⟩
              have hmt : ((i : Int) + (t : Int)).tmod (N : Int) = (m : Int) := by
                rw [hm, Int.tmod_eq_emod_of_nonneg (by omega)]
                simp
              have hmN : m < N := by rw [hm]; exact Nat.mod_lt _ (by omega)
              have hmi : (m : Int) < (N : Int) := by omega
              obtain ⟨x, hx⟩ : ∃ x, L[m]? = some x := ⟨L[m]'(by rw [← HN.out]; exact hmN), List.getElem?_eq_getElem _⟩
              obtain ⟨b, off, rfl, hbl, hra⟩ := HR.out.range (i := m) (x := x.row) (by rw [List.getElem?_map, hx]; rfl)
              have HSN : Hid (rot L t (i + 1) = rot L t i ++ [x]) := Lib.hid (by rw [rot, ← HN.out, ← hm, hx]; rfl)
              have l67 := Lib.hid (load_at 45 _ (rangeAt.later hra hbl HB.out) Tryd.underlying45 rfl (by kernel_rfl))
              obtain ⟨x', cap', w5, happ, hO5, hT5⟩ := run_msg x HO.out (by omega)
              have HO5 := Lib.hid (hO5.mono (Y' := fun q => w.heap.size ≤ q) (fun q hq => by rcases hq with h | h; exact h; have := HB.out.size; omega))
              have HB5 := Lib.hid (HB.out.trans (hT5.below (fun q hq => hq) HB.out.size))
              have happ := Lib.hid happ
              clear hra hbl hx hm hO5 hT5
              go_wp2_with (first | (guard_target =~ wpList _ _ _ (⟨_, Op.load _ (Operand.tmp 67), _, _, _, _⟩ :: _) _ _; refine wpList_load_eq 45 (Operand.tmp 67) rfl rfl l67.out rfl ?_) | (guard_target =~ wpList _ _ _ (⟨_, Op.buildSlice _ 1 _, _, _, _, _⟩ :: _) _ _; refine wpList_bslice_eq 22 (Operand.tmp 68) rfl rfl rfl (bslice_msg x _) ?_) | (guard_target =~ wpList _ _ _ (⟨_, Op.call { callee := Callee.builtin Builtin.append, args := _, argTypes := _ }, _, _, _, _⟩ :: _) _ _; refine wpList_app_eq 22 (Operand.tmp 59) (Operand.tmp 69) rfl rfl rfl rfl rfl happ.out ?_))
              go_roundw
              case rel => exact ⟨i + 1, x', cap', by omega, by go_num, rfl, by rw [HSN.out]; have := HO5.out; rw [rcells_snoc] at this; simpa using this, HB5.out⟩
              case measure => simp [intOf]; omega
            · obtain rfl : N = i := by omega
              have HC1 := Lib.hid (choose_any C ad cap L wr (HLA.out _ HB.out) (HG.out.later HB.out))
              rw [← HN.out] at HC1
              have HLB : Hid (∀ W, Below wr.heap.size wr W → LogsAt W ad2 cap2 (rot L t N)) := Lib.hid (fun W hW => by
                have h1 := HO.out
                have h2 : OwnC (fun q => w.heap.size ≤ q) wr (.slice ad2 ((rot L t N).map Mst.row).length cap2) ((rot L t N).map Mst.row).length 33 (rcells ((rot L t N).map Mst.row)) := by rw [List.length_map, HRL.out]; exact h1
                have h3 := h2.rowsAt (fun y hy => by obtain ⟨m, _, rfl⟩ := List.mem_map.1 hy; rfl)
                rw [List.length_map, HRL.out] at h3
                exact ⟨h3.1.later hW, by rw [HRL.out]; exact h3.2, by rw [HRL.out]; omega, fun m hm => (HIN.out m (by rw [HN.out] at hm; exact (rot_same (by rw [← HN.out]; exact htN) m).1 hm)).later (HB.out.trans (hW.mono HB.out.size))⟩)
              have HLE := Lib.hid (chooseV_len C L)
              have HC2 := Lib.hid (fun W (hW : Below wr.heap.size wr W) => choose_any C ad2 cap2 (rot L t N) W (HLB.out W hW) (HG.out.later (HB.out.trans (hW.mono HB.out.size))))
              rw [HRL.out, HEQ.out] at HC2
              generalize chooseV C L = cc at *
              clear HEQ HLB
              go_wp2_with fail
              refine HC1.out.mono ?_
              rintro e w6 ⟨⟨ea, cx, rfl, hra, hca⟩, hb6⟩
              have HRA := Lib.hid hra
              have HB6 := Lib.hid hb6
              clear hra HC1
              go_wp2_with fail
              refine (HC2.out _ hb6).mono ?_
              rintro e w7 ⟨⟨ea2, cx2, rfl, hra2, hca2⟩, hb7⟩
              have HSM := Lib.hid (same18_eq cc.r cc.co cc.cv cc.cs cc.cm ea ea2 cx cx2 cc.es.length cc.es w7 rfl (HRA.out.later hb7) hra2 hca hca2 (by have := HLE.out; omega))
              have HB7 : Hid (Below w.heap.size w w7) := Lib.hid ((HB.out.trans (HB6.out.mono HB.out.size)).trans (hb7.mono (HB.out.trans (HB6.out.mono HB.out.size)).size))
              clear hra2 hb6 hb7 HC2
              go_wp2_with fail
              refine HSM.out.mono ?_
              rintro e w8 ⟨rfl, hb8⟩
              have HB8 := Lib.hid (HB7.out.trans (hb8.mono HB7.out.size))
              clear hb8
              go_wp2_with fail
              go_ret
              exact ⟨rfl, HB8.out⟩
  · go_wp2_with fail
    go_ret
    exact ⟨rfl, HB1.out⟩
end Go.Proofs.YtpbjjmenkoigjaaDoor

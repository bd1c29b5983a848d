/- The walk of PipeSure. -/
import Derived.Test.YtecaahcmebdglaaPipZ
import Derived.Test.YtecaahcmebdglaaPPlR
import Derived.Deep.RegionHeld3
import Derived.Deep.OwnRows
namespace Go.Proofs.Ytecaahcmebdglaa
open Go.RowKit
set_option linter.unusedVariables false
theorem made81 : madeCells #[.int .i64 0] 81 = tcells (List.replicate 81 0) := by kernel_rfl
set_option maxRecDepth 100000 in
set_option maxHeartbeats 80000000 in
theorem psure_core (w : World) (who k0 : Int) (ad : Option Addr) (cap : Nat) (L : List (List Value)) (cN : Nat) (hc : cN = 3 ∨ cN = 5) (hw : 1 ≤ who ∧ who ≤ cN) (h0 : 0 ≤ k0) (h1 : k0 ≤ 72057594037927935) (hL : RowsAt w ad 3 L)
    (hlc : L.length ≤ cap) (hcap : cap ≤ maxLen) (ht : ∀ r ∈ L, ∃ (c0 : Int) (c1 : Int) (c2 : Int), r = [.int .i64 c0, .int .i64 c1, .int .i64 c2] ∧ (-9223372036854775808 ≤ c0 ∧ c0 ≤ 9223372036854775807) ∧ (-9223372036854775808 ≤ c1 ∧ c1 ≤ 9223372036854775807) ∧ (-9223372036854775808 ≤ c2 ∧ c2 ≤ 9223372036854775807)) :
    Calls Try.prog 10 #[.int .i64 (cN : Int), .int .i64 who, .int .i64 k0, .slice ad L.length cap] w fun e w' => e = .returned (.bool true) ∧ Below w.heap.size w w' := by
  have HROW := Lib.hid (fun (i : Nat) (hi : i < L.length) => row3 hL ht i hi)
  have HCAP := Lib.hid (And.intro hlc hcap)
  obtain ⟨n, hn⟩ : ∃ n, n = L.length := ⟨_, rfl⟩
  have HN := Lib.hid hn
  rw [← hn]
  have HS0 := Lib.hid (SR.first cN who k0 hc hw h0 0 (by simpa using h1) (by decide))
  have HNW : Hid (∀ w1, Below w.heap.size w w1 → Calls Try.prog 35 #[.int .i64 (cN : Int), .int .i64 who, .int .i64 k0, .int .i64 k0] w1 fun e w' => e = .returned (.tuple #[.pointer (some ⟨w1.heap.size, 0, none⟩), .int .i64 0]) ∧ JP w (fun q => q = w'.heap.size) w' w1.heap.size cN who k0 [] ∧ Below w1.heap.size w1 w') := Lib.hid (fun w1 hb => by
    refine (jp_new (X := fun _ => False) w w1 hb (fun q h => h.elim) who k0 k0 hc hw h0 h1 (Int.le_refl _) (by omega)).mono ?_
    rintro e w' ⟨rfl, ⟨Z, hP, hz, hww⟩, hb2⟩
    rw [show (k0 - k0).toNat = 0 by omega] at hP
    exact ⟨rfl, ⟨Z, hP, fun q hq => ⟨(hz q hq).1, (hz q hq).2.1, fun e => by have := (hz q hq).2.1; omega⟩, hww⟩, hb2⟩)
  have HWI : Hid (∀ w, Calls Try.prog 20 #[.int .i64 0, .int .i64 who] w fun e w' => e = .returned (.int .i64 ((Quo.wth 0 who : Nat) : Int)) ∧ w = w') := Lib.hid (fun w => with_any 0 who w (by omega) (by omega))
  have HWS : Hid (∀ (s : Nat) (f : Int) w, s < 32 → (-9223372036854775808 ≤ f ∧ f ≤ 9223372036854775807) → Calls Try.prog 20 #[.int .i64 (s : Int), .int .i64 f] w fun e w' => e = .returned (.int .i64 ((Quo.wth s f : Nat) : Int)) ∧ w = w') := Lib.hid (fun s f w hs hf => by
    have := with_any s f w (by omega) hf
    rwa [show qs (s : Int) = s from by unfold qs; omega] at this)
  have HSZ : Hid (∀ (s : Nat) w, s < 32 → Calls Try.prog 24 #[.int .i64 (s : Int)] w fun e w' => e = .returned (.int .i64 ((Quo.size s : Nat) : Int)) ∧ w = w') := Lib.hid (fun s w hs => by
    have := size_any s w (by omega)
    rwa [show qs (s : Int) = s from by unfold qs; omega] at this)
  have HEN : Hid (∀ w, Calls Try.prog 16 #[.int .i64 (cN : Int)] w fun e w' => e = .returned (.int .i64 (Quo.enough cN)) ∧ w = w') := Lib.hid (fun w => enough_any cN w)
  have HK0 := Lib.hid (And.intro h0 h1)
  clear hL ht hlc hcap hn hc hw h0 h1
  go_enter Try.func10, Try.ntmps10
  go_wp2_with fail
  refine (awake19_any _).mono ?_
  rintro e w1 ⟨rfl, hb1⟩
  have B1 := Lib.hid hb1
  clear hb1
  go_wp2_with fail
  refine (HNW.out _ B1.out).mono ?_
  rintro e w2 ⟨rfl, hJ, hb2⟩
  have HJ0 := Lib.hid hJ
  clear hJ hb2 HNW
  generalize w1.heap.size = g at *
  go_wp2_with fail
  obtain ⟨i0, hi0, hz0, hz1, hz2⟩ := info_int
  have hmk : (Instr.makeSlice 31 (.int .i64 81) (.int .i64 81)).run Try.prog w2 = .ok (.slice (some ⟨w2.heap.size, 0, none⟩) 81 81) (w2.alloc (.cells (madeCells #[.int .i64 0] 81) 3)) := run_make_row 31 3 i0 (.int .i64 0) Try.underlying31 hi0 hz0 hz1 rfl .i64 .i64 81 (by rw [hz2]; decide) (by decide) w2
  rw [hmk]
  clear hmk
  have hBm := Blk.new w2 (madeCells #[.int .i64 0] 81) 3 w2.heap.size rfl
  have hJm := HJ0.out.later ((Below.refl _ _).alloc (Nat.le_refl _) (.cells (madeCells #[.int .i64 0] 81) 3))
  have hwb : Hid (w.heap.size ≤ w2.heap.size) := Lib.hid HJ0.out.below.size
  rw [made81] at hBm hJm
  rw [made81]
  have HB0 := Lib.hid hBm
  have HJ1 := Lib.hid hJm
  clear hBm hJm HJ0 hi0 hz0 hz1 hz2
  obtain ⟨b, hb⟩ : ∃ b, b = w2.heap.size := ⟨_, rfl⟩
  rw [← hb] at HB0 HJ1 hwb ⊢
  clear hb
  generalize w2.alloc (.cells (tcells (List.replicate 81 0)) 3) = w3 at *
  have HT0 : Hid (TS k0 k0 [] (List.replicate 81 0)) := Lib.hid ⟨by simp, fun x hx => by rw [(List.mem_replicate.1 hx).2]; decide, fun i s hi => by simp at hi⟩
  generalize List.replicate 81 0 = T0 at *
  have hk00 := HK0.out.1
  have hk01 := HK0.out.2
  go_wp2_with fail
  go_loopw [12, 13] (fun kv iv wr => ∃ j : Nat, j ≤ n ∧ j ≤ 80 ∧ iv = .int .i64 j ∧ ∃ (k : Int) (l : List Nat) (row : List (Int × Int)) (T : List Nat), kv = .int .i64 k ∧ k0 ≤ k ∧ k + l.length ≤ k0 + j ∧ SR cN who k l row (16 + j) ∧ TS k0 k l T ∧ JP w (fun q => q = b) wr g cN who k l ∧ Blk wr b (tcells T)) (fun _ iv _ => 81 - (intOf iv).toNat)
  case atStart => exact ⟨0, by omega, by omega, rfl, k0, _, _, T0, rfl, by omega, by simp, HS0.out, HT0.out, HJ1.out, HB0.out⟩
  case round =>
    clear HJ1 HS0 HT0 HB0
    obtain ⟨j, hj, hj80, rfl, k, l, row, T, rfl, hk0, h80, hS, hT, hJ, hB⟩ := hrel
    have HJ := Lib.hid hJ
    have HS := Lib.hid hS
    have HT := Lib.hid hT
    have HB := Lib.hid hB
    have hkk0 := hS.k0
    have hkk1 := hS.k1
    have hXb : ∀ q, q = b → q < wr.heap.size := fun q e => by rw [e]; exact hB.1
    have HXb := Lib.hid hXb
    clear hJ hS hT hB hXb
    obtain ⟨ln, hln⟩ : ∃ ln, ln = l.length := ⟨_, rfl⟩
    rw [← hln] at h80 hkk1
    have HLN := Lib.hid hln
    by_cases hlt : j < n ∧ j < 80
    · obtain ⟨hlt1, hlt2⟩ := hlt
      obtain ⟨b0, o0, x, y, z, rfl, c0, c1, c2, hy, hz⟩ := HROW.out j (by rw [← HN.out]; exact hlt1)
      have hjn : j < n := hlt1
      have c0' : wr.cell? ⟨b0, o0 + j * 3, none⟩ = some (.int .i64 x) := HJ.out.cell c0
      have c1' : wr.cell? ⟨b0, o0 + j * 3 + 1, none⟩ = some (.int .i64 y) := HJ.out.cell c1
      clear c0
      by_cases hx : x = 1
      · subst hx
        have HA := Lib.hid (jp_add HS.out HXb.out HJ.out)
        have HF := Lib.hid HS.out.add.1
        clear c1 c2 c1' HJ
        by_cases hf : full k l
        · simp only [if_pos hf] at HA HF
          clear hf hln
          go_wp2_with fail
          refine (HA.out).mono ?_
          rintro e WX ⟨rfl, hJX, hTX⟩
          have hBX : Blk WX b (tcells T) := HB.out.turned hTX (fun h => h rfl)
          have HSX := HF
          have HTX := HT
          have HZX : Hid (∀ i : Nat, k + 1 + (i : Int) ≤ k → ∃ t, t < 32 ∧ T[(k + 1 + (i : Int) - k0).toNat]? = some t ∧ Quo.enough cN ≤ Quo.size t) := Lib.hid (fun i hi => by omega)
          have hkk : k ≤ k := Int.le_refl _
          have h80x : k + (l.length : Int) ≤ k0 + (j + 1) := by rw [← HLN.out]; omega
          clear hTX HA HF HB HS
          obtain ⟨k2, hk2e⟩ : ∃ k2, k2 = k := ⟨_, rfl⟩
          obtain ⟨l2, hl2e⟩ : ∃ l2, l2 = l := ⟨_, rfl⟩
          obtain ⟨T2, hT2e⟩ : ∃ T2, T2 = T := ⟨_, rfl⟩
          have HK2 := Lib.hid (And.intro hk2e (And.intro hl2e hT2e))
          have hJX : JP w (fun q => q = b) WX g cN who k2 l2 := by rw [hk2e, hl2e]; exact hJX
          have hBX : Blk WX b (tcells T2) := by rw [hT2e]; exact hBX
          have HSX : Hid (SR cN who k2 l2 _ (16 + (j + 1))) := Lib.hid (by rw [hk2e, hl2e]; exact HSX.out)
          have HTX : Hid (TS k0 k2 l2 T2) := Lib.hid (by rw [hk2e, hl2e, hT2e]; exact HTX.out)
          have HZX : Hid (∀ i : Nat, k + 1 + (i : Int) ≤ k2 → ∃ t, t < 32 ∧ T2[(k + 1 + (i : Int) - k0).toNat]? = some t ∧ Quo.enough cN ≤ Quo.size t) := Lib.hid (by rw [hk2e, hT2e]; exact HZX.out)
          have hkk : k ≤ k2 := by rw [hk2e]; exact hkk
          have h80x : k2 + (l2.length : Int) ≤ k0 + (j + 1) := by rw [hk2e, hl2e]; exact h80x
          clear hk2e hl2e hT2e
          have HCM := Lib.hid (jp_commit (w0 := w) (X := fun q => q = b) WX hJX)
          have HHE := Lib.hid (fun m => jp_head (w0 := w) (X := fun q => q = b) HSX.out (WX.drewN m) (hJX.drewN m))
          have HPX := Lib.hid (fun m => hJX.drewN m)
          have HBX := Lib.hid hBX
          have hk20 := HSX.out.k0
          have hk21 := HSX.out.k1
          obtain ⟨ln2, hln2⟩ : ∃ ln2, ln2 = l2.length := ⟨_, rfl⟩
          rw [← hln2] at HHE hk21 h80x
          have HLN2 := Lib.hid hln2
          clear hJX hBX hln2
          have hn1 : ¬ k2 < k := by omega
          have hn2 : ¬ k2 + (ln2 : Int) < k2 := by omega
          go_wp2_with (first | (go_at_call 38; refine (HCM.out).mono ?_; rintro e w' ⟨rfl, m, rfl⟩) | (go_at_call 39; refine (HHE.out _).mono ?_; rintro e w' ⟨rfl, m2, rfl⟩))
          clear HCM HHE hn1 hn2
          go_loopw [17] (fun nv wr2 => ∃ i : Nat, k + 1 + i ≤ k2 + 1 ∧ nv = .int .i64 (k + 1 + (i : Int)) ∧ ∃ m, wr2 = WX.drewN m) (fun nv _ => (k2 + 2 - intOf nv).toNat)
          case atStart => exact ⟨0, by omega, by simp, _, rfl⟩
          case round =>
            obtain ⟨i, hi, rfl, m4, rfl⟩ := hrel
            by_cases hle : k + 1 + (i : Int) ≤ k2
            · obtain ⟨t, ht32, hT, hE⟩ := HZX.out i hle
              obtain ⟨q, hq⟩ : ∃ q : Nat, k + 1 + (i : Int) - k0 = q := ⟨(k + 1 + (i : Int) - k0).toNat, by omega⟩
              have hq81 : q < 81 := by omega
              have hwq : IntKind.i64.wrap (q : Int) = q := IntWalk.i64_in _ (by omega)
              rw [show (k + 1 + (i : Int) - k0).toNat = q by omega] at hT
              have rT := (HBX.out.2 _ _ (tcells_get hT)).1
              have HS1 := Lib.hid (fun w => HSZ.out t w ht32)
              obtain ⟨z1, hz1⟩ : ∃ z1, z1 = Quo.size t := ⟨_, rfl⟩
              obtain ⟨en, hen⟩ : ∃ en, en = Quo.enough cN := ⟨_, rfl⟩
              have HEN1 := Lib.hid HEN.out
              rw [← hz1] at HS1 hE
              rw [← hen] at HEN1 hE
              have hne : ¬ (z1 : Int) < en := by omega
              clear hz1 hen hT
              go_wp2_with (first | (go_at_call 24; refine (HS1.out _).mono ?_; rintro e w' ⟨rfl, rfl⟩) | (go_at_call 16; refine (HEN1.out _).mono ?_; rintro e w' ⟨rfl, rfl⟩))
              go_roundw
              case rel => exact ⟨i + 1, by omega, by go_num, _, rfl⟩
              case measure => simp [intOf]; omega
            · go_wp2_with fail
              go_roundw
              case rel => exact ⟨j + 1, by omega, by omega, by go_num, k2, l2, _, T2, rfl, by omega, by rw [← HLN2.out]; omega, HSX.out, HTX.out, HPX.out _, HBX.out⟩
              case measure => simp [intOf]; omega
        · simp only [if_neg hf] at HA HF
          have hf2 := hf
          unfold full at hf2
          rw [← hln] at HA
          have hTA := Lib.hid (HT.out.add hk0 (by rw [← hln]; omega) (Quo.wth 0 who) (Quo.wth_lt _ _ (by decide)))
          rw [← hln] at hTA hf2
          obtain ⟨q, hq⟩ : ∃ q : Nat, k + (ln : Int) + 1 - k0 = q := ⟨(k + (ln : Int) + 1 - k0).toNat, by omega⟩
          rw [show (k + (ln : Int) + 1 - k0).toNat = q by omega] at hTA
          have hq81 : q < 81 := by omega
          have hwq : IntKind.i64.wrap (q : Int) = q := IntWalk.i64_in _ (by omega)
          have hq80 : (q : Int) ≤ 80 := by omega
          obtain ⟨t0, ht0⟩ : ∃ t0, T[q]? = some t0 := ⟨T[q]'(by rw [HT.out.len]; exact hq81), List.getElem?_eq_getElem _⟩
          have HWI1 := Lib.hid HWI.out
          obtain ⟨a0, ha0⟩ : ∃ a0, a0 = Quo.wth 0 who := ⟨_, rfl⟩
          rw [← ha0] at HA HF hTA HWI1
          clear hf hln ha0
          go_wp2_with fail
          refine (HA.out).mono ?_
          rintro e w4 ⟨rfl, hJ4, hT4⟩
          have hB4 : Blk w4 b (tcells T) := HB.out.turned hT4 (fun h => h rfl)
          obtain ⟨rT, fT⟩ := hB4.2 _ _ (tcells_get ht0)
          have HJ4 := Lib.hid hJ4
          have HB4 := Lib.hid hB4
          clear hJ4 hT4 hB4 ht0 HA
          go_wp2_with (go_at_call 20; refine (HWI1.out _).mono ?_; rintro e w' ⟨rfl, rfl⟩)
          have hJX := HJ4.out.turned (Turned.setCell (X := fun q => q = b) ⟨b, q, none⟩ (.int .i64 (a0 : Int)) rfl) (fun q e => by rw [e]; exact hwb.out)
          have hBX := HB4.out.set_ q (.int .i64 (a0 : Int))
          rw [tcells_set] at hBX
          generalize w4.setCell ⟨b, q, none⟩ (.int .i64 (a0 : Int)) = WX at *
          have HSX := HF
          have HTX := hTA
          have HZX : Hid (∀ i : Nat, k + 1 + (i : Int) ≤ k → ∃ t, t < 32 ∧ (T.set q a0)[(k + 1 + (i : Int) - k0).toNat]? = some t ∧ Quo.enough cN ≤ Quo.size t) := Lib.hid (fun i hi => by omega)
          have hkk : k ≤ k := Int.le_refl _
          have h80x : k + ((l ++ [a0]).length : Int) ≤ k0 + (j + 1) := by rw [List.length_append, ← HLN.out, List.length_singleton]; omega
          clear rT fT HF HB HS hTA HB4 HJ4 hq hq81 hq80
          obtain ⟨k2, hk2e⟩ : ∃ k2, k2 = k := ⟨_, rfl⟩
          obtain ⟨l2, hl2e⟩ : ∃ l2, l2 = l ++ [a0] := ⟨_, rfl⟩
          obtain ⟨T2, hT2e⟩ : ∃ T2, T2 = T.set q a0 := ⟨_, rfl⟩
          have HK2 := Lib.hid (And.intro hk2e (And.intro hl2e hT2e))
          have hJX : JP w (fun q => q = b) WX g cN who k2 l2 := by rw [hk2e, hl2e]; exact hJX
          have hBX : Blk WX b (tcells T2) := by rw [hT2e]; exact hBX
          have HSX : Hid (SR cN who k2 l2 _ (16 + (j + 1))) := Lib.hid (by rw [hk2e, hl2e]; exact HSX.out)
          have HTX : Hid (TS k0 k2 l2 T2) := Lib.hid (by rw [hk2e, hl2e, hT2e]; exact HTX.out)
          have HZX : Hid (∀ i : Nat, k + 1 + (i : Int) ≤ k2 → ∃ t, t < 32 ∧ T2[(k + 1 + (i : Int) - k0).toNat]? = some t ∧ Quo.enough cN ≤ Quo.size t) := Lib.hid (by rw [hk2e, hT2e]; exact HZX.out)
          have hkk : k ≤ k2 := by rw [hk2e]; exact hkk
          have h80x : k2 + (l2.length : Int) ≤ k0 + (j + 1) := by rw [hk2e, hl2e]; exact h80x
          clear hk2e hl2e hT2e
          have HCM := Lib.hid (jp_commit (w0 := w) (X := fun q => q = b) WX hJX)
          have HHE := Lib.hid (fun m => jp_head (w0 := w) (X := fun q => q = b) HSX.out (WX.drewN m) (hJX.drewN m))
          have HPX := Lib.hid (fun m => hJX.drewN m)
          have HBX := Lib.hid hBX
          have hk20 := HSX.out.k0
          have hk21 := HSX.out.k1
          obtain ⟨ln2, hln2⟩ : ∃ ln2, ln2 = l2.length := ⟨_, rfl⟩
          rw [← hln2] at HHE hk21 h80x
          have HLN2 := Lib.hid hln2
          clear hJX hBX hln2
          have hn1 : ¬ k2 < k := by omega
          have hn2 : ¬ k2 + (ln2 : Int) < k2 := by omega
          go_wp2_with (first | (go_at_call 38; refine (HCM.out).mono ?_; rintro e w' ⟨rfl, m, rfl⟩) | (go_at_call 39; refine (HHE.out _).mono ?_; rintro e w' ⟨rfl, m2, rfl⟩))
          clear HCM HHE hn1 hn2
          go_loopw [17] (fun nv wr2 => ∃ i : Nat, k + 1 + i ≤ k2 + 1 ∧ nv = .int .i64 (k + 1 + (i : Int)) ∧ ∃ m, wr2 = WX.drewN m) (fun nv _ => (k2 + 2 - intOf nv).toNat)
          case atStart => exact ⟨0, by omega, by simp, _, rfl⟩
          case round =>
            obtain ⟨i, hi, rfl, m4, rfl⟩ := hrel
            by_cases hle : k + 1 + (i : Int) ≤ k2
            · obtain ⟨t, ht32, hT, hE⟩ := HZX.out i hle
              obtain ⟨q, hq⟩ : ∃ q : Nat, k + 1 + (i : Int) - k0 = q := ⟨(k + 1 + (i : Int) - k0).toNat, by omega⟩
              have hq81 : q < 81 := by omega
              have hwq : IntKind.i64.wrap (q : Int) = q := IntWalk.i64_in _ (by omega)
              rw [show (k + 1 + (i : Int) - k0).toNat = q by omega] at hT
              have rT := (HBX.out.2 _ _ (tcells_get hT)).1
              have HS1 := Lib.hid (fun w => HSZ.out t w ht32)
              obtain ⟨z1, hz1⟩ : ∃ z1, z1 = Quo.size t := ⟨_, rfl⟩
              obtain ⟨en, hen⟩ : ∃ en, en = Quo.enough cN := ⟨_, rfl⟩
              have HEN1 := Lib.hid HEN.out
              rw [← hz1] at HS1 hE
              rw [← hen] at HEN1 hE
              have hne : ¬ (z1 : Int) < en := by omega
              clear hz1 hen hT
              go_wp2_with (first | (go_at_call 24; refine (HS1.out _).mono ?_; rintro e w' ⟨rfl, rfl⟩) | (go_at_call 16; refine (HEN1.out _).mono ?_; rintro e w' ⟨rfl, rfl⟩))
              go_roundw
              case rel => exact ⟨i + 1, by omega, by go_num, _, rfl⟩
              case measure => simp [intOf]; omega
            · go_wp2_with fail
              go_roundw
              case rel => exact ⟨j + 1, by omega, by omega, by go_num, k2, l2, _, T2, rfl, by omega, by rw [← HLN2.out]; omega, HSX.out, HTX.out, HPX.out _, HBX.out⟩
              case measure => simp [intOf]; omega
      · have hx' : (x == 1) = false := by simp [hx]
        clear hx hln
        by_cases p1 : k0 < y
        · have hwy : IntKind.i64.wrap (y - 80) = y - 80 := IntWalk.i64_in _ (by omega)
          by_cases p2 : y - 80 ≤ k0
          · have HKP := Lib.hid (jp_keep (W := wr.drew) HS.out (show ∀ q, q = b → q < wr.drew.heap.size from HXb.out) (HJ.out.later (W' := wr.drew) ⟨rfl, rfl, rfl, Nat.le_refl _, fun _ _ => rfl⟩) y z)
            have HF := Lib.hid (HS.out.keep y z)
            have HTK := Lib.hid (HT.out.keep (cN := cN) hk0 (by rw [← HLN.out]; omega) HS.out.rel.small y z)
            obtain ⟨ev, hev⟩ : ∃ ev, ev = kErr cN k l y z := ⟨_, rfl⟩
            have HNK : Hid (¬ ev = 0 → kDone cN k l y z = 0 ∧ kSet cN k l y z = l) := Lib.hid (fun h => by
              rw [hev] at h
              have ho : ¬ ((1 ≤ z ∧ z ≤ (cN : Int)) ∧ (k < y ∧ y ≤ k + l.length)) := fun q => h (by unfold kErr; rw [if_pos q.1, if_pos q.2])
              unfold kDone kSet
              rw [if_neg ho, if_neg ho]
              exact ⟨rfl, rfl⟩)
            rw [← hev] at HKP HTK
            clear hev
            go_wp2_with fail
            refine wp_region_noPanic ?_
            refine wp_region_held_drew (S := fun W => Below w.heap.size w W) (by kernel_rfl) (show Below w.heap.size w wr.drew from HJ.out.below.drew) (fun hHeld => ?_)
            have HB7 : Hid (Blk wr.drew b (tcells T)) := Lib.hid HB.out.drew
            generalize wr.drew = w7 at *
            refine wpAnyH_take (i := 0) (oi := { dst := some 68, op := _, type := _, pos := _, after := _, guard := _ }) (v := ?_) rfl (by kernel_rfl) (by kernel_rfl) (by kernel_rfl) (fun _ _ _ h => h) (Or.inl ⟨by rfl, ?_⟩) hHeld ?_
            rotate_left
            · intro W hSw
              have d1 := (Below.cell hSw (cell_lt c1)).trans c1
              have d2 := (Below.cell hSw (cell_lt c2)).trans c2
              go_simp
              first | done | rfl
            try simp only [Act.put, List.setIfInBounds_toArray, List.set_cons_zero, List.set_cons_succ]
            refine wpAnyH_take (i := 1) (oi := { dst := some 69, op := _, type := _, pos := _, after := _, guard := _ }) (v := ?_) rfl (by kernel_rfl) (by kernel_rfl) (by kernel_rfl) (fun _ _ _ h => h) (Or.inl ⟨by rfl, ?_⟩) hHeld ?_
            rotate_left
            · intro W hSw
              have d1 := (Below.cell hSw (cell_lt c1)).trans c1
              have d2 := (Below.cell hSw (cell_lt c2)).trans c2
              go_simp
              first | done | rfl
            try simp only [Act.put, List.setIfInBounds_toArray, List.set_cons_zero, List.set_cons_succ]
            refine wpAnyH_take (i := 5) (oi := { dst := some 73, op := _, type := _, pos := _, after := _, guard := _ }) (v := ?_) rfl (by kernel_rfl) (by kernel_rfl) (by kernel_rfl) (fun _ _ _ h => h) (Or.inl ⟨by rfl, ?_⟩) hHeld ?_
            rotate_left
            · intro W hSw
              have d1 := (Below.cell hSw (cell_lt c1)).trans c1
              have d2 := (Below.cell hSw (cell_lt c2)).trans c2
              go_simp
              first | done | rfl
            try simp only [Act.put, List.setIfInBounds_toArray, List.set_cons_zero, List.set_cons_succ]
            refine wpAnyH_take (i := 2) (oi := { dst := some 70, op := _, type := _, pos := _, after := _, guard := _ }) (v := ?_) rfl (by kernel_rfl) (by kernel_rfl) (by kernel_rfl) (fun _ _ _ h => h) (Or.inl ⟨by rfl, ?_⟩) hHeld ?_
            rotate_left
            · intro W hSw
              have d1 := (Below.cell hSw (cell_lt c1)).trans c1
              have d2 := (Below.cell hSw (cell_lt c2)).trans c2
              go_simp
              first | done | rfl
            try simp only [Act.put, List.setIfInBounds_toArray, List.set_cons_zero, List.set_cons_succ]
            refine wpAnyH_take (i := 3) (oi := { dst := some 71, op := _, type := _, pos := _, after := _, guard := _ }) (v := ?_) rfl (by kernel_rfl) (by kernel_rfl) (by kernel_rfl) (fun _ _ _ h => h) (Or.inl ⟨by rfl, ?_⟩) hHeld ?_
            rotate_left
            · intro W hSw
              have d1 := (Below.cell hSw (cell_lt c1)).trans c1
              have d2 := (Below.cell hSw (cell_lt c2)).trans c2
              go_simp
              first | done | rfl
            try simp only [Act.put, List.setIfInBounds_toArray, List.set_cons_zero, List.set_cons_succ]
            refine wpAnyH_take (i := 4) (oi := { dst := some 72, op := _, type := _, pos := _, after := _, guard := _ }) (v := ?_) rfl (by kernel_rfl) (by kernel_rfl) (by kernel_rfl) (fun _ _ _ h => h) (Or.inl ⟨by rfl, ?_⟩) hHeld ?_
            rotate_left
            · intro W hSw
              have d1 := (Below.cell hSw (cell_lt c1)).trans c1
              have d2 := (Below.cell hSw (cell_lt c2)).trans c2
              go_simp
              first | done | rfl
            try simp only [Act.put, List.setIfInBounds_toArray, List.set_cons_zero, List.set_cons_succ]
            refine wpAnyH_take (i := 6) (oi := { dst := some 74, op := _, type := _, pos := _, after := _, guard := _ }) (v := ?_) rfl (by kernel_rfl) (by kernel_rfl) (by kernel_rfl) (fun _ _ _ h => h) (Or.inl ⟨by rfl, ?_⟩) hHeld ?_
            rotate_left
            · intro W hSw
              have d1 := (Below.cell hSw (cell_lt c1)).trans c1
              have d2 := (Below.cell hSw (cell_lt c2)).trans c2
              go_simp
              first | done | rfl
            try simp only [Act.put, List.setIfInBounds_toArray, List.set_cons_zero, List.set_cons_succ]
            refine wpAnyH_take (i := 7) (oi := { dst := some 75, op := _, type := _, pos := _, after := _, guard := _ }) (v := ?_) rfl (by kernel_rfl) (by kernel_rfl) (by kernel_rfl) (fun _ _ _ h => h) (Or.inl ⟨by rfl, ?_⟩) hHeld ?_
            rotate_left
            · intro W hSw
              have d1 := (Below.cell hSw (cell_lt c1)).trans c1
              have d2 := (Below.cell hSw (cell_lt c2)).trans c2
              go_simp
              first | done | rfl
            try simp only [Act.put, List.setIfInBounds_toArray, List.set_cons_zero, List.set_cons_succ]
            refine wpAnyH_take (i := 8) (oi := { dst := some 76, op := _, type := _, pos := _, after := _, guard := _ }) (v := ?_) rfl (by kernel_rfl) (by kernel_rfl) (by kernel_rfl) (fun _ _ _ h => h) (Or.inl ⟨by rfl, ?_⟩) hHeld ?_
            rotate_left
            · intro W hSw
              have d1 := (Below.cell hSw (cell_lt c1)).trans c1
              have d2 := (Below.cell hSw (cell_lt c2)).trans c2
              go_simp
              first | done | rfl
            try simp only [Act.put, List.setIfInBounds_toArray, List.set_cons_zero, List.set_cons_succ]
            refine wpAnyH_take (i := 9) (oi := { dst := some 77, op := _, type := _, pos := _, after := _, guard := _ }) (v := ?_) rfl (by kernel_rfl) (by kernel_rfl) (by kernel_rfl) (fun _ _ _ h => h) (Or.inl ⟨by rfl, ?_⟩) hHeld ?_
            rotate_left
            · intro W hSw
              have d1 := (Below.cell hSw (cell_lt c1)).trans c1
              have d2 := (Below.cell hSw (cell_lt c2)).trans c2
              go_simp
              first | done | rfl
            try simp only [Act.put, List.setIfInBounds_toArray, List.set_cons_zero, List.set_cons_succ]
            refine wpAnyH_take (i := 14) (oi := { dst := some 82, op := _, type := _, pos := _, after := _, guard := _ }) (v := ?_) rfl (by kernel_rfl) (by kernel_rfl) (by kernel_rfl) (fun _ _ _ h => h) (Or.inl ⟨by rfl, ?_⟩) hHeld ?_
            rotate_left
            · intro W hSw
              have d1 := (Below.cell hSw (cell_lt c1)).trans c1
              have d2 := (Below.cell hSw (cell_lt c2)).trans c2
              go_simp
              first | done | rfl
            try simp only [Act.put, List.setIfInBounds_toArray, List.set_cons_zero, List.set_cons_succ]
            refine wpAnyH_take (i := 10) (oi := { dst := some 78, op := _, type := _, pos := _, after := _, guard := _ }) (v := ?_) rfl (by kernel_rfl) (by kernel_rfl) (by kernel_rfl) (fun _ _ _ h => h) (Or.inl ⟨by rfl, ?_⟩) hHeld ?_
            rotate_left
            · intro W hSw
              have d1 := (Below.cell hSw (cell_lt c1)).trans c1
              have d2 := (Below.cell hSw (cell_lt c2)).trans c2
              go_simp
              first | done | rfl
            try simp only [Act.put, List.setIfInBounds_toArray, List.set_cons_zero, List.set_cons_succ]
            refine wpAnyH_take (i := 11) (oi := { dst := some 79, op := _, type := _, pos := _, after := _, guard := _ }) (v := ?_) rfl (by kernel_rfl) (by kernel_rfl) (by kernel_rfl) (fun _ _ _ h => h) (Or.inl ⟨by rfl, ?_⟩) hHeld ?_
            rotate_left
            · intro W hSw
              have d1 := (Below.cell hSw (cell_lt c1)).trans c1
              have d2 := (Below.cell hSw (cell_lt c2)).trans c2
              go_simp
              first | done | rfl
            try simp only [Act.put, List.setIfInBounds_toArray, List.set_cons_zero, List.set_cons_succ]
            refine wpAnyH_take (i := 12) (oi := { dst := some 80, op := _, type := _, pos := _, after := _, guard := _ }) (v := ?_) rfl (by kernel_rfl) (by kernel_rfl) (by kernel_rfl) (fun _ _ _ h => h) (Or.inl ⟨by rfl, ?_⟩) hHeld ?_
            rotate_left
            · intro W hSw
              have d1 := (Below.cell hSw (cell_lt c1)).trans c1
              have d2 := (Below.cell hSw (cell_lt c2)).trans c2
              go_simp
              first | done | rfl
            try simp only [Act.put, List.setIfInBounds_toArray, List.set_cons_zero, List.set_cons_succ]
            refine wpAnyH_take (i := 13) (oi := { dst := some 81, op := _, type := _, pos := _, after := _, guard := _ }) (v := ?_) rfl (by kernel_rfl) (by kernel_rfl) (by kernel_rfl) (fun _ _ _ h => h) (Or.inl ⟨by rfl, ?_⟩) hHeld ?_
            rotate_left
            · intro W hSw
              have d1 := (Below.cell hSw (cell_lt c1)).trans c1
              have d2 := (Below.cell hSw (cell_lt c2)).trans c2
              go_simp
              first | done | rfl
            try simp only [Act.put, List.setIfInBounds_toArray, List.set_cons_zero, List.set_cons_succ]
            refine wpAnyH_take (i := 15) (oi := { dst := some 83, op := _, type := _, pos := _, after := _, guard := _ }) (v := ?_) rfl (by kernel_rfl) (by kernel_rfl) (by kernel_rfl) (fun _ _ _ h => h) (Or.inl ⟨by rfl, ?_⟩) hHeld ?_
            rotate_left
            · intro W hSw
              have d1 := (Below.cell hSw (cell_lt c1)).trans c1
              have d2 := (Below.cell hSw (cell_lt c2)).trans c2
              go_simp
              first | done | rfl
            try simp only [Act.put, List.setIfInBounds_toArray, List.set_cons_zero, List.set_cons_succ]
            refine wpAnyH_take (i := 16) (oi := { dst := some 84, op := _, type := _, pos := _, after := _, guard := _ }) (v := ?_) rfl (by kernel_rfl) (by kernel_rfl) (by kernel_rfl) (fun _ _ _ h => h) (Or.inl ⟨by rfl, ?_⟩) hHeld ?_
            rotate_left
            · intro W hSw
              have d1 := (Below.cell hSw (cell_lt c1)).trans c1
              have d2 := (Below.cell hSw (cell_lt c2)).trans c2
              go_simp
              first | done | rfl
            try simp only [Act.put, List.setIfInBounds_toArray, List.set_cons_zero, List.set_cons_succ]
            refine wpAnyH_take (i := 17) (oi := { dst := some 85, op := _, type := _, pos := _, after := _, guard := _ }) (v := ?_) rfl (by kernel_rfl) (by kernel_rfl) (by kernel_rfl) (fun _ _ _ h => h) (Or.inl ⟨by rfl, ?_⟩) hHeld ?_
            rotate_left
            · intro W hSw
              have d1 := (Below.cell hSw (cell_lt c1)).trans c1
              have d2 := (Below.cell hSw (cell_lt c2)).trans c2
              go_simp
              first | done | rfl
            try simp only [Act.put, List.setIfInBounds_toArray, List.set_cons_zero, List.set_cons_succ]
            refine wpAnyH_take (i := 18) (oi := { dst := some 86, op := _, type := _, pos := _, after := _, guard := _ }) (v := ?_) rfl (by kernel_rfl) (by kernel_rfl) (by kernel_rfl) (fun _ _ _ h => h) (Or.inl ⟨by rfl, ?_⟩) hHeld ?_
            rotate_left
            · intro W hSw
              have d1 := (Below.cell hSw (cell_lt c1)).trans c1
              have d2 := (Below.cell hSw (cell_lt c2)).trans c2
              go_simp
              first | done | rfl
            try simp only [Act.put, List.setIfInBounds_toArray, List.set_cons_zero, List.set_cons_succ]
            refine wpAnyH_take (i := 19) (oi := { dst := some 87, op := _, type := _, pos := _, after := _, guard := _ }) (v := ?_) rfl (by kernel_rfl) (by kernel_rfl) (by kernel_rfl) (fun _ _ _ h => h) (Or.inl ⟨by rfl, ?_⟩) hHeld ?_
            rotate_left
            · intro W hSw
              have d1 := (Below.cell hSw (cell_lt c1)).trans c1
              have d2 := (Below.cell hSw (cell_lt c2)).trans c2
              go_simp
              first | done | rfl
            try simp only [Act.put, List.setIfInBounds_toArray, List.set_cons_zero, List.set_cons_succ]
            refine wpAnyH_take (i := 20) (oi := { dst := some 88, op := _, type := _, pos := _, after := _, guard := _ }) (v := ?_) rfl (by kernel_rfl) (by kernel_rfl) (by kernel_rfl) (fun _ _ _ h => h) (Or.inl ⟨by rfl, ?_⟩) hHeld ?_
            rotate_left
            · intro W hSw
              have d1 := (Below.cell hSw (cell_lt c1)).trans c1
              have d2 := (Below.cell hSw (cell_lt c2)).trans c2
              go_simp
              first | done | rfl
            try simp only [Act.put, List.setIfInBounds_toArray, List.set_cons_zero, List.set_cons_succ]
            refine wpAnyH_take (i := 24) (oi := { dst := some 92, op := _, type := _, pos := _, after := _, guard := _ }) (v := ?_) rfl (by kernel_rfl) (by kernel_rfl) (by kernel_rfl) (fun _ _ _ h => h) (Or.inl ⟨by rfl, ?_⟩) hHeld ?_
            rotate_left
            · intro W hSw
              have d1 := (Below.cell hSw (cell_lt c1)).trans c1
              have d2 := (Below.cell hSw (cell_lt c2)).trans c2
              go_simp
              first | done | rfl
            try simp only [Act.put, List.setIfInBounds_toArray, List.set_cons_zero, List.set_cons_succ]
            refine wpAnyH_take (i := 25) (oi := { dst := some 93, op := _, type := _, pos := _, after := _, guard := _ }) (v := ?_) rfl (by kernel_rfl) (by kernel_rfl) (by kernel_rfl) (fun _ _ _ h => h) (Or.inl ⟨by rfl, ?_⟩) hHeld ?_
            rotate_left
            · intro W hSw
              have d1 := (Below.cell hSw (cell_lt c1)).trans c1
              have d2 := (Below.cell hSw (cell_lt c2)).trans c2
              go_simp
              first | done | rfl
            try simp only [Act.put, List.setIfInBounds_toArray, List.set_cons_zero, List.set_cons_succ]
            refine wpAnyH_take (i := 21) (oi := { dst := some 89, op := _, type := _, pos := _, after := _, guard := _ }) (v := ?_) rfl (by kernel_rfl) (by kernel_rfl) (by kernel_rfl) (fun _ _ _ h => h) (Or.inl ⟨by rfl, ?_⟩) hHeld ?_
            rotate_left
            · intro W hSw
              have d1 := (Below.cell hSw (cell_lt c1)).trans c1
              have d2 := (Below.cell hSw (cell_lt c2)).trans c2
              go_simp
              first | done | rfl
            try simp only [Act.put, List.setIfInBounds_toArray, List.set_cons_zero, List.set_cons_succ]
            refine wpAnyH_take (i := 26) (oi := { dst := some 94, op := _, type := _, pos := _, after := _, guard := _ }) (v := ?_) rfl (by kernel_rfl) (by kernel_rfl) (by kernel_rfl) (fun _ _ _ h => h) (Or.inl ⟨by rfl, ?_⟩) hHeld ?_
            rotate_left
            · intro W hSw
              have d1 := (Below.cell hSw (cell_lt c1)).trans c1
              have d2 := (Below.cell hSw (cell_lt c2)).trans c2
              go_simp
              first | done | rfl
            try simp only [Act.put, List.setIfInBounds_toArray, List.set_cons_zero, List.set_cons_succ]
            refine wpAnyH_take (i := 22) (oi := { dst := some 90, op := _, type := _, pos := _, after := _, guard := _ }) (v := ?_) rfl (by kernel_rfl) (by kernel_rfl) (by kernel_rfl) (fun _ _ _ h => h) (Or.inl ⟨by rfl, ?_⟩) hHeld ?_
            rotate_left
            · intro W hSw
              have d1 := (Below.cell hSw (cell_lt c1)).trans c1
              have d2 := (Below.cell hSw (cell_lt c2)).trans c2
              go_simp
              first | done | rfl
            try simp only [Act.put, List.setIfInBounds_toArray, List.set_cons_zero, List.set_cons_succ]
            refine wpAnyH_take (i := 27) (oi := { dst := some 95, op := _, type := _, pos := _, after := _, guard := _ }) (v := ?_) rfl (by kernel_rfl) (by kernel_rfl) (by kernel_rfl) (fun _ _ _ h => h) (Or.inl ⟨by rfl, ?_⟩) hHeld ?_
            rotate_left
            · intro W hSw
              have d1 := (Below.cell hSw (cell_lt c1)).trans c1
              have d2 := (Below.cell hSw (cell_lt c2)).trans c2
              go_simp
              first | done | rfl
            try simp only [Act.put, List.setIfInBounds_toArray, List.set_cons_zero, List.set_cons_succ]
            refine wpAnyH_take (i := 23) (oi := { dst := some 91, op := _, type := _, pos := _, after := _, guard := _ }) (v := ?_) rfl (by kernel_rfl) (by kernel_rfl) (by kernel_rfl) (fun _ _ _ h => h) (Or.inl ⟨by rfl, ?_⟩) hHeld ?_
            rotate_left
            · intro W hSw
              have d1 := (Below.cell hSw (cell_lt c1)).trans c1
              have d2 := (Below.cell hSw (cell_lt c2)).trans c2
              go_simp
              first | done | rfl
            try simp only [Act.put, List.setIfInBounds_toArray, List.set_cons_zero, List.set_cons_succ]
            refine wpAnyH_take (i := 28) (oi := { dst := some 96, op := _, type := _, pos := _, after := _, guard := _ }) (v := ?_) rfl (by kernel_rfl) (by kernel_rfl) (by kernel_rfl) (fun _ _ _ h => h) (Or.inl ⟨by rfl, ?_⟩) hHeld ?_
            rotate_left
            · intro W hSw
              have d1 := (Below.cell hSw (cell_lt c1)).trans c1
              have d2 := (Below.cell hSw (cell_lt c2)).trans c2
              go_simp
              first | done | rfl
            try simp only [Act.put, List.setIfInBounds_toArray, List.set_cons_zero, List.set_cons_succ]
            refine wpAnyH_ready (rs := [29]) (by kernel_rfl) (by simp) ?_
            refine AllReadyH.cons (o := { dst := some 97, op := _, type := _, pos := _, after := _, guard := _ }) rfl (fun K hK => ?_) AllReadyH.nil
            go_simp
            refine (HKP.out).mono ?_
            rintro e w8 ⟨rfl, hJ8, hT8⟩
            have hB8 := hJ8.below
            refine hK.out _ _ hB8 (fun _ => ?_)
            clear hK K
            try simp only [Act.put, List.setIfInBounds_toArray, List.set_cons_zero, List.set_cons_succ]
            refine wpAnyH_take (i := 30) (oi := { dst := some 98, op := _, type := _, pos := _, after := _, guard := _ }) (v := ?_) rfl (by kernel_rfl) (by kernel_rfl) (by kernel_rfl) (fun _ _ _ h => h) (Or.inl ⟨by rfl, ?_⟩) hB8 ?_
            rotate_left
            · intro W hSw
              have d1 := (Below.cell hSw (cell_lt c1)).trans c1
              have d2 := (Below.cell hSw (cell_lt c2)).trans c2
              go_simp
              first | done | rfl
            try simp only [Act.put, List.setIfInBounds_toArray, List.set_cons_zero, List.set_cons_succ]
            refine wpAnyH_take (i := 31) (oi := { dst := some 99, op := _, type := _, pos := _, after := _, guard := _ }) (v := ?_) rfl (by kernel_rfl) (by kernel_rfl) (by kernel_rfl) (fun _ _ _ h => h) (Or.inl ⟨by rfl, ?_⟩) hB8 ?_
            rotate_left
            · intro W hSw
              have d1 := (Below.cell hSw (cell_lt c1)).trans c1
              have d2 := (Below.cell hSw (cell_lt c2)).trans c2
              go_simp
              first | done | rfl
            try simp only [Act.put, List.setIfInBounds_toArray, List.set_cons_zero, List.set_cons_succ]
            refine wpAnyH_done (by kernel_rfl) ?_ _
            refine NoPanic.normal ?_
            have HJ8 := Lib.hid hJ8
            have HB8 : Hid (Blk w8 b (tcells T)) := Lib.hid (HB7.out.turned hT8 (fun h => h rfl))
            clear hJ8 hT8 HB7 HB
            by_cases he : ev = 0
            · subst he
              obtain ⟨s, hs32, hky, hyk, hTs, hTT⟩ := HTK.out rfl
              obtain ⟨q, hq⟩ : ∃ q : Nat, y - k0 = q := ⟨(y - k0).toNat, by omega⟩
              rw [show (y - k0).toNat = q by omega] at hTs hTT
              have HTS := Lib.hid hTT
              have hq81 : q < 81 := by rw [← HLN.out] at hyk; omega
              have hq81i : (q : Int) < 81 := by omega
              have hwq : IntKind.i64.wrap (q : Int) = q := IntWalk.i64_in _ (by omega)
              go_wp2_with fail
              refine wp_region_noPanic ?_
              refine wp_region_held_drew (S := fun W => Below w.heap.size w W) (by kernel_rfl) (show Below w.heap.size w w8.drew from HJ8.out.below.drew) (fun hHeld9 => ?_)
              have HJ9 := Lib.hid (HJ8.out.later (W' := w8.drew) ⟨rfl, rfl, rfl, Nat.le_refl _, fun _ _ => rfl⟩)
              have HB9 := Lib.hid (HB8.out.drew)
              generalize w8.drew = w9 at *
              obtain ⟨rT, fT⟩ := HB9.out.2 _ _ (tcells_get hTs)
              have hS9 : Below w.heap.size w (w9.setCell ⟨b, q, none⟩ (.int .i64 ((Quo.wth s z : Nat) : Int))) := (HJ9.out.turned (Turned.setCell (X := fun q => q = b) ⟨b, q, none⟩ _ rfl) (fun q e => by rw [e]; exact hwb.out)).below
              clear hTs hTT hky hyk
              refine wpAnyH_take (i := 0) (oi := { dst := some 100, op := _, type := _, pos := _, after := _, guard := _ }) (v := ?_) rfl (by kernel_rfl) (by kernel_rfl) (by kernel_rfl) (fun _ _ _ h => h) (Or.inl ⟨by rfl, ?_⟩) hHeld9 ?_
              rotate_left
              · intro W hSw
                have d1 := (Below.cell hSw (cell_lt c1)).trans c1
                have d2 := (Below.cell hSw (cell_lt c2)).trans c2
                go_simp
                first | done | rfl
              try simp only [Act.put, List.setIfInBounds_toArray, List.set_cons_zero, List.set_cons_succ]
              refine wpAnyH_take (i := 1) (oi := { dst := some 101, op := _, type := _, pos := _, after := _, guard := _ }) (v := ?_) rfl (by kernel_rfl) (by kernel_rfl) (by kernel_rfl) (fun _ _ _ h => h) (Or.inl ⟨by rfl, ?_⟩) hHeld9 ?_
              rotate_left
              · intro W hSw
                have d1 := (Below.cell hSw (cell_lt c1)).trans c1
                have d2 := (Below.cell hSw (cell_lt c2)).trans c2
                go_simp
                first | done | rfl
              try simp only [Act.put, List.setIfInBounds_toArray, List.set_cons_zero, List.set_cons_succ]
              refine wpAnyH_take (i := 2) (oi := { dst := some 102, op := _, type := _, pos := _, after := _, guard := _ }) (v := ?_) rfl (by kernel_rfl) (by kernel_rfl) (by kernel_rfl) (fun _ _ _ h => h) (Or.inl ⟨by rfl, ?_⟩) hHeld9 ?_
              rotate_left
              · intro W hSw
                have d1 := (Below.cell hSw (cell_lt c1)).trans c1
                have d2 := (Below.cell hSw (cell_lt c2)).trans c2
                go_simp
                first | done | rfl
              try simp only [Act.put, List.setIfInBounds_toArray, List.set_cons_zero, List.set_cons_succ]
              refine wpAnyH_take (i := 6) (oi := { dst := some 106, op := _, type := _, pos := _, after := _, guard := _ }) (v := ?_) rfl (by kernel_rfl) (by kernel_rfl) (by kernel_rfl) (fun _ _ _ h => h) (Or.inl ⟨by rfl, ?_⟩) hHeld9 ?_
              rotate_left
              · intro W hSw
                have d1 := (Below.cell hSw (cell_lt c1)).trans c1
                have d2 := (Below.cell hSw (cell_lt c2)).trans c2
                go_simp
                first | done | rfl
              try simp only [Act.put, List.setIfInBounds_toArray, List.set_cons_zero, List.set_cons_succ]
              refine wpAnyH_take (i := 8) (oi := { dst := some 108, op := _, type := _, pos := _, after := _, guard := _ }) (v := ?_) rfl (by kernel_rfl) (by kernel_rfl) (by kernel_rfl) (fun _ _ _ h => h) (Or.inl ⟨by rfl, ?_⟩) hHeld9 ?_
              rotate_left
              · intro W hSw
                have d1 := (Below.cell hSw (cell_lt c1)).trans c1
                have d2 := (Below.cell hSw (cell_lt c2)).trans c2
                go_simp
                first | done | rfl
              try simp only [Act.put, List.setIfInBounds_toArray, List.set_cons_zero, List.set_cons_succ]
              refine wpAnyH_take (i := 9) (oi := { dst := some 109, op := _, type := _, pos := _, after := _, guard := _ }) (v := ?_) rfl (by kernel_rfl) (by kernel_rfl) (by kernel_rfl) (fun _ _ _ h => h) (Or.inl ⟨by rfl, ?_⟩) hHeld9 ?_
              rotate_left
              · intro W hSw
                have d1 := (Below.cell hSw (cell_lt c1)).trans c1
                have d2 := (Below.cell hSw (cell_lt c2)).trans c2
                go_simp
                first | done | rfl
              try simp only [Act.put, List.setIfInBounds_toArray, List.set_cons_zero, List.set_cons_succ]
              refine wpAnyH_take (i := 10) (oi := { dst := some 110, op := _, type := _, pos := _, after := _, guard := _ }) (v := ?_) rfl (by kernel_rfl) (by kernel_rfl) (by kernel_rfl) (fun _ _ _ h => h) (Or.inl ⟨by rfl, ?_⟩) hHeld9 ?_
              rotate_left
              · intro W hSw
                have d1 := (Below.cell hSw (cell_lt c1)).trans c1
                have d2 := (Below.cell hSw (cell_lt c2)).trans c2
                go_simp
                first | done | rfl
              try simp only [Act.put, List.setIfInBounds_toArray, List.set_cons_zero, List.set_cons_succ]
              refine wpAnyH_take (i := 14) (oi := { dst := some 114, op := _, type := _, pos := _, after := _, guard := _ }) (v := ?_) rfl (by kernel_rfl) (by kernel_rfl) (by kernel_rfl) (fun _ _ _ h => h) (Or.inl ⟨by rfl, ?_⟩) hHeld9 ?_
              rotate_left
              · intro W hSw
                have d1 := (Below.cell hSw (cell_lt c1)).trans c1
                have d2 := (Below.cell hSw (cell_lt c2)).trans c2
                go_simp
                first | done | rfl
              try simp only [Act.put, List.setIfInBounds_toArray, List.set_cons_zero, List.set_cons_succ]
              refine wpAnyH_take (i := 18) (oi := { dst := some 118, op := _, type := _, pos := _, after := _, guard := _ }) (v := ?_) rfl (by kernel_rfl) (by kernel_rfl) (by kernel_rfl) (fun _ _ _ h => h) (Or.inl ⟨by rfl, ?_⟩) hHeld9 ?_
              rotate_left
              · intro W hSw
                have d1 := (Below.cell hSw (cell_lt c1)).trans c1
                have d2 := (Below.cell hSw (cell_lt c2)).trans c2
                go_simp
                first | done | rfl
              try simp only [Act.put, List.setIfInBounds_toArray, List.set_cons_zero, List.set_cons_succ]
              refine wpAnyH_take (i := 19) (oi := { dst := some 119, op := _, type := _, pos := _, after := _, guard := _ }) (v := ?_) rfl (by kernel_rfl) (by kernel_rfl) (by kernel_rfl) (fun _ _ _ h => h) (Or.inl ⟨by rfl, ?_⟩) hHeld9 ?_
              rotate_left
              · intro W hSw
                have d1 := (Below.cell hSw (cell_lt c1)).trans c1
                have d2 := (Below.cell hSw (cell_lt c2)).trans c2
                go_simp
                first | done | rfl
              try simp only [Act.put, List.setIfInBounds_toArray, List.set_cons_zero, List.set_cons_succ]
              refine wpAnyH_take (i := 3) (oi := { dst := some 103, op := _, type := _, pos := _, after := _, guard := _ }) (v := ?_) rfl (by kernel_rfl) (by kernel_rfl) (by kernel_rfl) (fun _ _ _ h => h) (Or.inl ⟨by rfl, ?_⟩) hHeld9 ?_
              rotate_left
              · intro W hSw
                have d1 := (Below.cell hSw (cell_lt c1)).trans c1
                have d2 := (Below.cell hSw (cell_lt c2)).trans c2
                go_simp
                first | done | rfl
              try simp only [Act.put, List.setIfInBounds_toArray, List.set_cons_zero, List.set_cons_succ]
              refine wpAnyH_take (i := 11) (oi := { dst := some 111, op := _, type := _, pos := _, after := _, guard := _ }) (v := ?_) rfl (by kernel_rfl) (by kernel_rfl) (by kernel_rfl) (fun _ _ _ h => h) (Or.inl ⟨by rfl, ?_⟩) hHeld9 ?_
              rotate_left
              · intro W hSw
                have d1 := (Below.cell hSw (cell_lt c1)).trans c1
                have d2 := (Below.cell hSw (cell_lt c2)).trans c2
                go_simp
                first | done | rfl
              try simp only [Act.put, List.setIfInBounds_toArray, List.set_cons_zero, List.set_cons_succ]
              refine wpAnyH_take (i := 20) (oi := { dst := some 120, op := _, type := _, pos := _, after := _, guard := _ }) (v := ?_) rfl (by kernel_rfl) (by kernel_rfl) (by kernel_rfl) (fun _ _ _ h => h) (Or.inl ⟨by rfl, ?_⟩) hHeld9 ?_
              rotate_left
              · intro W hSw
                have d1 := (Below.cell hSw (cell_lt c1)).trans c1
                have d2 := (Below.cell hSw (cell_lt c2)).trans c2
                go_simp
                first | done | rfl
              try simp only [Act.put, List.setIfInBounds_toArray, List.set_cons_zero, List.set_cons_succ]
              refine wpAnyH_take (i := 4) (oi := { dst := some 104, op := _, type := _, pos := _, after := _, guard := _ }) (v := ?_) rfl (by kernel_rfl) (by kernel_rfl) (by kernel_rfl) (fun _ _ _ h => h) (Or.inl ⟨by rfl, ?_⟩) hHeld9 ?_
              rotate_left
              · intro W hSw
                have d1 := (Below.cell hSw (cell_lt c1)).trans c1
                have d2 := (Below.cell hSw (cell_lt c2)).trans c2
                go_simp
                first | done | rfl
              try simp only [Act.put, List.setIfInBounds_toArray, List.set_cons_zero, List.set_cons_succ]
              refine wpAnyH_take (i := 12) (oi := { dst := some 112, op := _, type := _, pos := _, after := _, guard := _ }) (v := ?_) rfl (by kernel_rfl) (by kernel_rfl) (by kernel_rfl) (fun _ _ _ h => h) (Or.inl ⟨by rfl, ?_⟩) hHeld9 ?_
              rotate_left
              · intro W hSw
                have d1 := (Below.cell hSw (cell_lt c1)).trans c1
                have d2 := (Below.cell hSw (cell_lt c2)).trans c2
                go_simp
                first | done | rfl
              try simp only [Act.put, List.setIfInBounds_toArray, List.set_cons_zero, List.set_cons_succ]
              refine wpAnyH_take (i := 21) (oi := { dst := some 121, op := _, type := _, pos := _, after := _, guard := _ }) (v := ?_) rfl (by kernel_rfl) (by kernel_rfl) (by kernel_rfl) (fun _ _ _ h => h) (Or.inl ⟨by rfl, ?_⟩) hHeld9 ?_
              rotate_left
              · intro W hSw
                have d1 := (Below.cell hSw (cell_lt c1)).trans c1
                have d2 := (Below.cell hSw (cell_lt c2)).trans c2
                go_simp
                first | done | rfl
              try simp only [Act.put, List.setIfInBounds_toArray, List.set_cons_zero, List.set_cons_succ]
              refine wpAnyH_take (i := 5) (oi := { dst := some 105, op := _, type := _, pos := _, after := _, guard := _ }) (v := ?_) rfl (by kernel_rfl) (by kernel_rfl) (by kernel_rfl) (fun _ _ _ h => h) (Or.inl ⟨by rfl, ?_⟩) hHeld9 ?_
              rotate_left
              · intro W hSw
                have d1 := (Below.cell hSw (cell_lt c1)).trans c1
                have d2 := (Below.cell hSw (cell_lt c2)).trans c2
                go_simp
                first | done | rfl
              try simp only [Act.put, List.setIfInBounds_toArray, List.set_cons_zero, List.set_cons_succ]
              refine wpAnyH_take (i := 13) (oi := { dst := some 113, op := _, type := _, pos := _, after := _, guard := _ }) (v := ?_) rfl (by kernel_rfl) (by kernel_rfl) (by kernel_rfl) (fun _ _ _ h => h) (Or.inl ⟨by rfl, ?_⟩) hHeld9 ?_
              rotate_left
              · intro W hSw
                have d1 := (Below.cell hSw (cell_lt c1)).trans c1
                have d2 := (Below.cell hSw (cell_lt c2)).trans c2
                go_simp
                first | done | rfl
              try simp only [Act.put, List.setIfInBounds_toArray, List.set_cons_zero, List.set_cons_succ]
              refine wpAnyH_take (i := 22) (oi := { dst := some 122, op := _, type := _, pos := _, after := _, guard := _ }) (v := ?_) rfl (by kernel_rfl) (by kernel_rfl) (by kernel_rfl) (fun _ _ _ h => h) (Or.inl ⟨by rfl, ?_⟩) hHeld9 ?_
              rotate_left
              · intro W hSw
                have d1 := (Below.cell hSw (cell_lt c1)).trans c1
                have d2 := (Below.cell hSw (cell_lt c2)).trans c2
                go_simp
                first | done | rfl
              try simp only [Act.put, List.setIfInBounds_toArray, List.set_cons_zero, List.set_cons_succ]
              refine wpAnyH_take (i := 7) (oi := { dst := some 107, op := _, type := _, pos := _, after := _, guard := _ }) (v := ?_) rfl (by kernel_rfl) (by kernel_rfl) (by kernel_rfl) (fun _ _ _ h => h) (Or.inl ⟨by rfl, ?_⟩) hHeld9 ?_
              rotate_left
              · intro W hSw
                have d1 := (Below.cell hSw (cell_lt c1)).trans c1
                have d2 := (Below.cell hSw (cell_lt c2)).trans c2
                go_simp
                first | done | rfl
              try simp only [Act.put, List.setIfInBounds_toArray, List.set_cons_zero, List.set_cons_succ]
              refine wpAnyH_take (i := 15) (oi := { dst := some 115, op := _, type := _, pos := _, after := _, guard := _ }) (v := ?_) rfl (by kernel_rfl) (by kernel_rfl) (by kernel_rfl) (fun _ _ _ h => h) (Or.inl ⟨by rfl, ?_⟩) hHeld9 ?_
              rotate_left
              · intro W hSw
                have d1 := (Below.cell hSw (cell_lt c1)).trans c1
                have d2 := (Below.cell hSw (cell_lt c2)).trans c2
                go_simp
                first | done | rfl
              try simp only [Act.put, List.setIfInBounds_toArray, List.set_cons_zero, List.set_cons_succ]
              refine wpAnyH_take (i := 16) (oi := { dst := some 116, op := _, type := _, pos := _, after := _, guard := _ }) (v := ?_) rfl (by kernel_rfl) (by kernel_rfl) (by kernel_rfl) (fun _ _ _ h => h) (Or.inl ⟨by rfl, ?_⟩) hHeld9 ?_
              rotate_left
              · intro W hSw
                have d1 := (Below.cell hSw (cell_lt c1)).trans c1
                have d2 := (Below.cell hSw (cell_lt c2)).trans c2
                go_simp
                first | done | rfl
              try simp only [Act.put, List.setIfInBounds_toArray, List.set_cons_zero, List.set_cons_succ]
              refine wpAnyH_ready (rs := [17]) (by kernel_rfl) (by simp) ?_
              refine AllReadyH.cons (o := { dst := some 117, op := _, type := _, pos := _, after := _, guard := _ }) rfl (fun K hK => ?_) AllReadyH.nil
              go_simp
              refine hK.out _ _ hHeld9 (fun _ => ?_)
              clear hK K
              try simp only [Act.put, List.setIfInBounds_toArray, List.set_cons_zero, List.set_cons_succ]
              refine wpAnyH_ready (rs := [23]) (by kernel_rfl) (by simp) ?_
              refine AllReadyH.cons (o := { dst := some 123, op := _, type := _, pos := _, after := _, guard := _ }) rfl (fun K hK => ?_) AllReadyH.nil
              go_simp
              refine (HWS.out s z _ hs32 hz).mono ?_
              rintro e wx ⟨rfl, rfl⟩
              refine hK.out _ _ hHeld9 (fun _ => ?_)
              clear hK K
              try simp only [Act.put, List.setIfInBounds_toArray, List.set_cons_zero, List.set_cons_succ]
              refine wpAnyH_take (i := 24) (oi := { dst := some 124, op := _, type := _, pos := _, after := _, guard := _ }) (v := ?_) rfl (by kernel_rfl) (by kernel_rfl) (by kernel_rfl) (fun _ _ _ h => h) (Or.inl ⟨by rfl, ?_⟩) hHeld9 ?_
              rotate_left
              · intro W hSw
                have d1 := (Below.cell hSw (cell_lt c1)).trans c1
                have d2 := (Below.cell hSw (cell_lt c2)).trans c2
                go_simp
                first | done | rfl
              try simp only [Act.put, List.setIfInBounds_toArray, List.set_cons_zero, List.set_cons_succ]
              refine wpAnyH_ready (rs := [25]) (by kernel_rfl) (by simp) ?_
              refine AllReadyH.cons (o := { dst := none, op := _, type := _, pos := _, after := _, guard := _ }) rfl (fun K hK => ?_) AllReadyH.nil
              go_simp
              refine hK.out _ _ hS9 (fun _ => ?_)
              clear hK K
              try simp only [Act.put, List.setIfInBounds_toArray, List.set_cons_zero, List.set_cons_succ]
              refine wpAnyH_done (by kernel_rfl) ?_ _
              refine NoPanic.normal ?_
              have hJX := HJ9.out.turned (Turned.setCell (X := fun q => q = b) ⟨b, q, none⟩ (.int .i64 ((Quo.wth s z : Nat) : Int)) rfl) (fun q e => by rw [e]; exact hwb.out)
              have hBX := HB9.out.set_ q (.int .i64 ((Quo.wth s z : Nat) : Int))
              rw [tcells_set] at hBX
              generalize w9.setCell ⟨b, q, none⟩ (.int .i64 ((Quo.wth s z : Nat) : Int)) = WX at *
              have HSX := Lib.hid HF.out.1
              have HTX := Lib.hid HTS.out.1
              have HZX := Lib.hid HTS.out.2
              have hkk : k ≤ k + (kDone cN k l y z : Nat) := by omega
              have h80x : k + (kDone cN k l y z : Nat) + (((kSet cN k l y z).drop (kDone cN k l y z)).length : Int) ≤ k0 + (j + 1) := by rw [← HF.out.2.1, ← HLN.out]; omega
              clear rT fT HF HS HB9 HJ9 hq hq81 hS9
              obtain ⟨k2, hk2e⟩ : ∃ k2, k2 = k + (kDone cN k l y z : Nat) := ⟨_, rfl⟩
              obtain ⟨l2, hl2e⟩ : ∃ l2, l2 = (kSet cN k l y z).drop (kDone cN k l y z) := ⟨_, rfl⟩
              obtain ⟨T2, hT2e⟩ : ∃ T2, T2 = T.set q (Quo.wth s z) := ⟨_, rfl⟩
              have HK2 := Lib.hid (And.intro hk2e (And.intro hl2e hT2e))
              have hJX : JP w (fun q => q = b) WX g cN who k2 l2 := by rw [hk2e, hl2e]; exact hJX
              have hBX : Blk WX b (tcells T2) := by rw [hT2e]; exact hBX
              have HSX : Hid (SR cN who k2 l2 _ (16 + (j + 1))) := Lib.hid (by rw [hk2e, hl2e]; exact HSX.out)
              have HTX : Hid (TS k0 k2 l2 T2) := Lib.hid (by rw [hk2e, hl2e, hT2e]; exact HTX.out)
              have HZX : Hid (∀ i : Nat, k + 1 + (i : Int) ≤ k2 → ∃ t, t < 32 ∧ T2[(k + 1 + (i : Int) - k0).toNat]? = some t ∧ Quo.enough cN ≤ Quo.size t) := Lib.hid (by rw [hk2e, hT2e]; exact HZX.out)
              have hkk : k ≤ k2 := by rw [hk2e]; exact hkk
              have h80x : k2 + (l2.length : Int) ≤ k0 + (j + 1) := by rw [hk2e, hl2e]; exact h80x
              clear hk2e hl2e hT2e
              have HCM := Lib.hid (jp_commit (w0 := w) (X := fun q => q = b) WX hJX)
              have HHE := Lib.hid (fun m => jp_head (w0 := w) (X := fun q => q = b) HSX.out (WX.drewN m) (hJX.drewN m))
              have HPX := Lib.hid (fun m => hJX.drewN m)
              have HBX := Lib.hid hBX
              have hk20 := HSX.out.k0
              have hk21 := HSX.out.k1
              obtain ⟨ln2, hln2⟩ : ∃ ln2, ln2 = l2.length := ⟨_, rfl⟩
              rw [← hln2] at HHE hk21 h80x
              have HLN2 := Lib.hid hln2
              clear hJX hBX hln2
              have hn1 : ¬ k2 < k := by omega
              have hn2 : ¬ k2 + (ln2 : Int) < k2 := by omega
              go_wp2_with (first | (go_at_call 38; refine (HCM.out).mono ?_; rintro e w' ⟨rfl, m, rfl⟩) | (go_at_call 39; refine (HHE.out _).mono ?_; rintro e w' ⟨rfl, m2, rfl⟩))
              clear HCM HHE hn1 hn2
              go_loopw [17] (fun nv wr2 => ∃ i : Nat, k + 1 + i ≤ k2 + 1 ∧ nv = .int .i64 (k + 1 + (i : Int)) ∧ ∃ m, wr2 = WX.drewN m) (fun nv _ => (k2 + 2 - intOf nv).toNat)
              case atStart => exact ⟨0, by omega, by simp, _, rfl⟩
              case round =>
                obtain ⟨i, hi, rfl, m4, rfl⟩ := hrel
                by_cases hle : k + 1 + (i : Int) ≤ k2
                · obtain ⟨t, ht32, hT, hE⟩ := HZX.out i hle
                  obtain ⟨q, hq⟩ : ∃ q : Nat, k + 1 + (i : Int) - k0 = q := ⟨(k + 1 + (i : Int) - k0).toNat, by omega⟩
                  have hq81 : q < 81 := by omega
                  have hwq : IntKind.i64.wrap (q : Int) = q := IntWalk.i64_in _ (by omega)
                  rw [show (k + 1 + (i : Int) - k0).toNat = q by omega] at hT
                  have rT := (HBX.out.2 _ _ (tcells_get hT)).1
                  have HS1 := Lib.hid (fun w => HSZ.out t w ht32)
                  obtain ⟨z1, hz1⟩ : ∃ z1, z1 = Quo.size t := ⟨_, rfl⟩
                  obtain ⟨en, hen⟩ : ∃ en, en = Quo.enough cN := ⟨_, rfl⟩
                  have HEN1 := Lib.hid HEN.out
                  rw [← hz1] at HS1 hE
                  rw [← hen] at HEN1 hE
                  have hne : ¬ (z1 : Int) < en := by omega
                  clear hz1 hen hT
                  go_wp2_with (first | (go_at_call 24; refine (HS1.out _).mono ?_; rintro e w' ⟨rfl, rfl⟩) | (go_at_call 16; refine (HEN1.out _).mono ?_; rintro e w' ⟨rfl, rfl⟩))
                  go_roundw
                  case rel => exact ⟨i + 1, by omega, by go_num, _, rfl⟩
                  case measure => simp [intOf]; omega
                · go_wp2_with fail
                  go_roundw
                  case rel => exact ⟨j + 1, by omega, by omega, by go_num, k2, l2, _, T2, rfl, by omega, by rw [← HLN2.out]; omega, HSX.out, HTX.out, HPX.out _, HBX.out⟩
                  case measure => simp [intOf]; omega
            · have he' : (ev == 0) = false := by simp [he]
              obtain ⟨hd0, hs0⟩ := HNK.out he
              rw [hd0, hs0] at HF HJ8
              clear he HTK HNK hd0 hs0
              go_wp2_with fail
              have hJX := HJ8.out
              have hBX := HB8.out
              have HSX := Lib.hid HF.out.1
              have HTX := Lib.hid (HT.out.drop 0)
              have HZX : Hid (∀ i : Nat, k + 1 + (i : Int) ≤ k + ((0 : Nat) : Int) → ∃ t, t < 32 ∧ T[(k + 1 + (i : Int) - k0).toNat]? = some t ∧ Quo.enough cN ≤ Quo.size t) := Lib.hid (fun i hi => by omega)
              have hkk : k ≤ k + ((0 : Nat) : Int) := by omega
              have h80x : k + ((0 : Nat) : Int) + ((l.drop 0).length : Int) ≤ k0 + (j + 1) := by rw [List.drop_zero, ← HLN.out]; omega
              clear HF HJ8 HB8 HS
              generalize w8 = WX at *
              obtain ⟨k2, hk2e⟩ : ∃ k2, k2 = k + ((0 : Nat) : Int) := ⟨_, rfl⟩
              obtain ⟨l2, hl2e⟩ : ∃ l2, l2 = l.drop 0 := ⟨_, rfl⟩
              obtain ⟨T2, hT2e⟩ : ∃ T2, T2 = T := ⟨_, rfl⟩
              have HK2 := Lib.hid (And.intro hk2e (And.intro hl2e hT2e))
              have hJX : JP w (fun q => q = b) WX g cN who k2 l2 := by rw [hk2e, hl2e]; exact hJX
              have hBX : Blk WX b (tcells T2) := by rw [hT2e]; exact hBX
              have HSX : Hid (SR cN who k2 l2 _ (16 + (j + 1))) := Lib.hid (by rw [hk2e, hl2e]; exact HSX.out)
              have HTX : Hid (TS k0 k2 l2 T2) := Lib.hid (by rw [hk2e, hl2e, hT2e]; exact HTX.out)
              have HZX : Hid (∀ i : Nat, k + 1 + (i : Int) ≤ k2 → ∃ t, t < 32 ∧ T2[(k + 1 + (i : Int) - k0).toNat]? = some t ∧ Quo.enough cN ≤ Quo.size t) := Lib.hid (by rw [hk2e, hT2e]; exact HZX.out)
              have hkk : k ≤ k2 := by rw [hk2e]; exact hkk
              have h80x : k2 + (l2.length : Int) ≤ k0 + (j + 1) := by rw [hk2e, hl2e]; exact h80x
              clear hk2e hl2e hT2e
              have HCM := Lib.hid (jp_commit (w0 := w) (X := fun q => q = b) WX hJX)
              have HHE := Lib.hid (fun m => jp_head (w0 := w) (X := fun q => q = b) HSX.out (WX.drewN m) (hJX.drewN m))
              have HPX := Lib.hid (fun m => hJX.drewN m)
              have HBX := Lib.hid hBX
              have hk20 := HSX.out.k0
              have hk21 := HSX.out.k1
              obtain ⟨ln2, hln2⟩ : ∃ ln2, ln2 = l2.length := ⟨_, rfl⟩
              rw [← hln2] at HHE hk21 h80x
              have HLN2 := Lib.hid hln2
              clear hJX hBX hln2
              have hn1 : ¬ k2 < k := by omega
              have hn2 : ¬ k2 + (ln2 : Int) < k2 := by omega
              go_wp2_with (first | (go_at_call 38; refine (HCM.out).mono ?_; rintro e w' ⟨rfl, m, rfl⟩) | (go_at_call 39; refine (HHE.out _).mono ?_; rintro e w' ⟨rfl, m2, rfl⟩))
              clear HCM HHE hn1 hn2
              go_loopw [17] (fun nv wr2 => ∃ i : Nat, k + 1 + i ≤ k2 + 1 ∧ nv = .int .i64 (k + 1 + (i : Int)) ∧ ∃ m, wr2 = WX.drewN m) (fun nv _ => (k2 + 2 - intOf nv).toNat)
              case atStart => exact ⟨0, by omega, by simp, _, rfl⟩
              case round =>
                obtain ⟨i, hi, rfl, m4, rfl⟩ := hrel
                by_cases hle : k + 1 + (i : Int) ≤ k2
                · obtain ⟨t, ht32, hT, hE⟩ := HZX.out i hle
                  obtain ⟨q, hq⟩ : ∃ q : Nat, k + 1 + (i : Int) - k0 = q := ⟨(k + 1 + (i : Int) - k0).toNat, by omega⟩
                  have hq81 : q < 81 := by omega
                  have hwq : IntKind.i64.wrap (q : Int) = q := IntWalk.i64_in _ (by omega)
                  rw [show (k + 1 + (i : Int) - k0).toNat = q by omega] at hT
                  have rT := (HBX.out.2 _ _ (tcells_get hT)).1
                  have HS1 := Lib.hid (fun w => HSZ.out t w ht32)
                  obtain ⟨z1, hz1⟩ : ∃ z1, z1 = Quo.size t := ⟨_, rfl⟩
                  obtain ⟨en, hen⟩ : ∃ en, en = Quo.enough cN := ⟨_, rfl⟩
                  have HEN1 := Lib.hid HEN.out
                  rw [← hz1] at HS1 hE
                  rw [← hen] at HEN1 hE
                  have hne : ¬ (z1 : Int) < en := by omega
                  clear hz1 hen hT
                  go_wp2_with (first | (go_at_call 24; refine (HS1.out _).mono ?_; rintro e w' ⟨rfl, rfl⟩) | (go_at_call 16; refine (HEN1.out _).mono ?_; rintro e w' ⟨rfl, rfl⟩))
                  go_roundw
                  case rel => exact ⟨i + 1, by omega, by go_num, _, rfl⟩
                  case measure => simp [intOf]; omega
                · go_wp2_with fail
                  go_roundw
                  case rel => exact ⟨j + 1, by omega, by omega, by go_num, k2, l2, _, T2, rfl, by omega, by rw [← HLN2.out]; omega, HSX.out, HTX.out, HPX.out _, HBX.out⟩
                  case measure => simp [intOf]; omega
          · have p2' : decide (y - 80 ≤ k0) = false := by simp; omega
            clear p2
            have HF : Hid (SR cN who k l row (16 + (j + 1))) := Lib.hid ⟨HS.out.rel, HS.out.w, HS.out.k0, HS.out.k1, HS.out.l16, by have := HS.out.n; omega⟩
            clear HS
            go_wp2_with fail
            go_quiet (fail)
            go_wp2_with fail
            obtain ⟨WX, hWX⟩ : ∃ WX, WX = wr.drewN nq := ⟨_, rfl⟩
            rw [← hWX]
            have hJX : JP w (fun q => q = b) WX g cN who k l := by rw [hWX]; exact HJ.out.drewN _
            have hBX : Blk WX b (tcells T) := by rw [hWX]; exact HB.out
            clear hWX
            have HSX := HF
            have HTX := HT
            have HZX : Hid (∀ i : Nat, k + 1 + (i : Int) ≤ k → ∃ t, t < 32 ∧ T[(k + 1 + (i : Int) - k0).toNat]? = some t ∧ Quo.enough cN ≤ Quo.size t) := Lib.hid (fun i hi => by omega)
            have hkk : k ≤ k := Int.le_refl _
            have h80x : k + (l.length : Int) ≤ k0 + (j + 1) := by rw [← HLN.out]; omega
            clear HF HB HJ c1 c2 c1' c0'
            obtain ⟨k2, hk2e⟩ : ∃ k2, k2 = k := ⟨_, rfl⟩
            obtain ⟨l2, hl2e⟩ : ∃ l2, l2 = l := ⟨_, rfl⟩
            obtain ⟨T2, hT2e⟩ : ∃ T2, T2 = T := ⟨_, rfl⟩
            have HK2 := Lib.hid (And.intro hk2e (And.intro hl2e hT2e))
            have hJX : JP w (fun q => q = b) WX g cN who k2 l2 := by rw [hk2e, hl2e]; exact hJX
            have hBX : Blk WX b (tcells T2) := by rw [hT2e]; exact hBX
            have HSX : Hid (SR cN who k2 l2 _ (16 + (j + 1))) := Lib.hid (by rw [hk2e, hl2e]; exact HSX.out)
            have HTX : Hid (TS k0 k2 l2 T2) := Lib.hid (by rw [hk2e, hl2e, hT2e]; exact HTX.out)
            have HZX : Hid (∀ i : Nat, k + 1 + (i : Int) ≤ k2 → ∃ t, t < 32 ∧ T2[(k + 1 + (i : Int) - k0).toNat]? = some t ∧ Quo.enough cN ≤ Quo.size t) := Lib.hid (by rw [hk2e, hT2e]; exact HZX.out)
            have hkk : k ≤ k2 := by rw [hk2e]; exact hkk
            have h80x : k2 + (l2.length : Int) ≤ k0 + (j + 1) := by rw [hk2e, hl2e]; exact h80x
            clear hk2e hl2e hT2e
            have HCM := Lib.hid (jp_commit (w0 := w) (X := fun q => q = b) WX hJX)
            have HHE := Lib.hid (fun m => jp_head (w0 := w) (X := fun q => q = b) HSX.out (WX.drewN m) (hJX.drewN m))
            have HPX := Lib.hid (fun m => hJX.drewN m)
            have HBX := Lib.hid hBX
            have hk20 := HSX.out.k0
            have hk21 := HSX.out.k1
            obtain ⟨ln2, hln2⟩ : ∃ ln2, ln2 = l2.length := ⟨_, rfl⟩
            rw [← hln2] at HHE hk21 h80x
            have HLN2 := Lib.hid hln2
            clear hJX hBX hln2
            have hn1 : ¬ k2 < k := by omega
            have hn2 : ¬ k2 + (ln2 : Int) < k2 := by omega
            go_wp2_with (first | (go_at_call 38; refine (HCM.out).mono ?_; rintro e w' ⟨rfl, m, rfl⟩) | (go_at_call 39; refine (HHE.out _).mono ?_; rintro e w' ⟨rfl, m2, rfl⟩))
            clear HCM HHE hn1 hn2
            go_loopw [17] (fun nv wr2 => ∃ i : Nat, k + 1 + i ≤ k2 + 1 ∧ nv = .int .i64 (k + 1 + (i : Int)) ∧ ∃ m, wr2 = WX.drewN m) (fun nv _ => (k2 + 2 - intOf nv).toNat)
            case atStart => exact ⟨0, by omega, by simp, _, rfl⟩
            case round =>
              obtain ⟨i, hi, rfl, m4, rfl⟩ := hrel
              by_cases hle : k + 1 + (i : Int) ≤ k2
              · obtain ⟨t, ht32, hT, hE⟩ := HZX.out i hle
                obtain ⟨q, hq⟩ : ∃ q : Nat, k + 1 + (i : Int) - k0 = q := ⟨(k + 1 + (i : Int) - k0).toNat, by omega⟩
                have hq81 : q < 81 := by omega
                have hwq : IntKind.i64.wrap (q : Int) = q := IntWalk.i64_in _ (by omega)
                rw [show (k + 1 + (i : Int) - k0).toNat = q by omega] at hT
                have rT := (HBX.out.2 _ _ (tcells_get hT)).1
                have HS1 := Lib.hid (fun w => HSZ.out t w ht32)
                obtain ⟨z1, hz1⟩ : ∃ z1, z1 = Quo.size t := ⟨_, rfl⟩
                obtain ⟨en, hen⟩ : ∃ en, en = Quo.enough cN := ⟨_, rfl⟩
                have HEN1 := Lib.hid HEN.out
                rw [← hz1] at HS1 hE
                rw [← hen] at HEN1 hE
                have hne : ¬ (z1 : Int) < en := by omega
                clear hz1 hen hT
                go_wp2_with (first | (go_at_call 24; refine (HS1.out _).mono ?_; rintro e w' ⟨rfl, rfl⟩) | (go_at_call 16; refine (HEN1.out _).mono ?_; rintro e w' ⟨rfl, rfl⟩))
                go_roundw
                case rel => exact ⟨i + 1, by omega, by go_num, _, rfl⟩
                case measure => simp [intOf]; omega
              · go_wp2_with fail
                go_roundw
                case rel => exact ⟨j + 1, by omega, by omega, by go_num, k2, l2, _, T2, rfl, by omega, by rw [← HLN2.out]; omega, HSX.out, HTX.out, HPX.out _, HBX.out⟩
                case measure => simp [intOf]; omega
        · have p1' : decide (k0 < y) = false := by simp; omega
          clear p1
          have HF : Hid (SR cN who k l row (16 + (j + 1))) := Lib.hid ⟨HS.out.rel, HS.out.w, HS.out.k0, HS.out.k1, HS.out.l16, by have := HS.out.n; omega⟩
          clear HS
          go_wp2_with fail
          go_quiet (fail)
          go_wp2_with fail
          obtain ⟨WX, hWX⟩ : ∃ WX, WX = wr.drewN nq := ⟨_, rfl⟩
          rw [← hWX]
          have hJX : JP w (fun q => q = b) WX g cN who k l := by rw [hWX]; exact HJ.out.drewN _
          have hBX : Blk WX b (tcells T) := by rw [hWX]; exact HB.out
          clear hWX
          have HSX := HF
          have HTX := HT
          have HZX : Hid (∀ i : Nat, k + 1 + (i : Int) ≤ k → ∃ t, t < 32 ∧ T[(k + 1 + (i : Int) - k0).toNat]? = some t ∧ Quo.enough cN ≤ Quo.size t) := Lib.hid (fun i hi => by omega)
          have hkk : k ≤ k := Int.le_refl _
          have h80x : k + (l.length : Int) ≤ k0 + (j + 1) := by rw [← HLN.out]; omega
          clear HF HB HJ c1 c2 c1' c0'
          obtain ⟨k2, hk2e⟩ : ∃ k2, k2 = k := ⟨_, rfl⟩
          obtain ⟨l2, hl2e⟩ : ∃ l2, l2 = l := ⟨_, rfl⟩
          obtain ⟨T2, hT2e⟩ : ∃ T2, T2 = T := ⟨_, rfl⟩
          have HK2 := Lib.hid (And.intro hk2e (And.intro hl2e hT2e))
          have hJX : JP w (fun q => q = b) WX g cN who k2 l2 := by rw [hk2e, hl2e]; exact hJX
          have hBX : Blk WX b (tcells T2) := by rw [hT2e]; exact hBX
          have HSX : Hid (SR cN who k2 l2 _ (16 + (j + 1))) := Lib.hid (by rw [hk2e, hl2e]; exact HSX.out)
          have HTX : Hid (TS k0 k2 l2 T2) := Lib.hid (by rw [hk2e, hl2e, hT2e]; exact HTX.out)
          have HZX : Hid (∀ i : Nat, k + 1 + (i : Int) ≤ k2 → ∃ t, t < 32 ∧ T2[(k + 1 + (i : Int) - k0).toNat]? = some t ∧ Quo.enough cN ≤ Quo.size t) := Lib.hid (by rw [hk2e, hT2e]; exact HZX.out)
          have hkk : k ≤ k2 := by rw [hk2e]; exact hkk
          have h80x : k2 + (l2.length : Int) ≤ k0 + (j + 1) := by rw [hk2e, hl2e]; exact h80x
          clear hk2e hl2e hT2e
          have HCM := Lib.hid (jp_commit (w0 := w) (X := fun q => q = b) WX hJX)
          have HHE := Lib.hid (fun m => jp_head (w0 := w) (X := fun q => q = b) HSX.out (WX.drewN m) (hJX.drewN m))
          have HPX := Lib.hid (fun m => hJX.drewN m)
          have HBX := Lib.hid hBX
          have hk20 := HSX.out.k0
          have hk21 := HSX.out.k1
          obtain ⟨ln2, hln2⟩ : ∃ ln2, ln2 = l2.length := ⟨_, rfl⟩
          rw [← hln2] at HHE hk21 h80x
          have HLN2 := Lib.hid hln2
          clear hJX hBX hln2
          have hn1 : ¬ k2 < k := by omega
          have hn2 : ¬ k2 + (ln2 : Int) < k2 := by omega
          go_wp2_with (first | (go_at_call 38; refine (HCM.out).mono ?_; rintro e w' ⟨rfl, m, rfl⟩) | (go_at_call 39; refine (HHE.out _).mono ?_; rintro e w' ⟨rfl, m2, rfl⟩))
          clear HCM HHE hn1 hn2
          go_loopw [17] (fun nv wr2 => ∃ i : Nat, k + 1 + i ≤ k2 + 1 ∧ nv = .int .i64 (k + 1 + (i : Int)) ∧ ∃ m, wr2 = WX.drewN m) (fun nv _ => (k2 + 2 - intOf nv).toNat)
          case atStart => exact ⟨0, by omega, by simp, _, rfl⟩
          case round =>
            obtain ⟨i, hi, rfl, m4, rfl⟩ := hrel
            by_cases hle : k + 1 + (i : Int) ≤ k2
            · obtain ⟨t, ht32, hT, hE⟩ := HZX.out i hle
              obtain ⟨q, hq⟩ : ∃ q : Nat, k + 1 + (i : Int) - k0 = q := ⟨(k + 1 + (i : Int) - k0).toNat, by omega⟩
              have hq81 : q < 81 := by omega
              have hwq : IntKind.i64.wrap (q : Int) = q := IntWalk.i64_in _ (by omega)
              rw [show (k + 1 + (i : Int) - k0).toNat = q by omega] at hT
              have rT := (HBX.out.2 _ _ (tcells_get hT)).1
              have HS1 := Lib.hid (fun w => HSZ.out t w ht32)
              obtain ⟨z1, hz1⟩ : ∃ z1, z1 = Quo.size t := ⟨_, rfl⟩
              obtain ⟨en, hen⟩ : ∃ en, en = Quo.enough cN := ⟨_, rfl⟩
              have HEN1 := Lib.hid HEN.out
              rw [← hz1] at HS1 hE
              rw [← hen] at HEN1 hE
              have hne : ¬ (z1 : Int) < en := by omega
              clear hz1 hen hT
              go_wp2_with (first | (go_at_call 24; refine (HS1.out _).mono ?_; rintro e w' ⟨rfl, rfl⟩) | (go_at_call 16; refine (HEN1.out _).mono ?_; rintro e w' ⟨rfl, rfl⟩))
              go_roundw
              case rel => exact ⟨i + 1, by omega, by go_num, _, rfl⟩
              case measure => simp [intOf]; omega
            · go_wp2_with fail
              go_roundw
              case rel => exact ⟨j + 1, by omega, by omega, by go_num, k2, l2, _, T2, rfl, by omega, by rw [← HLN2.out]; omega, HSX.out, HTX.out, HPX.out _, HBX.out⟩
              case measure => simp [intOf]; omega
    · have HF := Lib.hid HJ.out.below
      clear hln
      have hbr : (¬ j < n) ∨ (j < n ∧ ¬ j < 80) := by omega
      clear hlt
      rcases hbr with q1 | ⟨q1, q2⟩
      · go_wp2_with fail
        go_ret
        exact ⟨rfl, HF.out⟩
      · go_wp2_with fail
        go_ret
        exact ⟨rfl, HF.out⟩
end Go.Proofs.Ytecaahcmebdglaa

import Derived.Test.YtnldjddmchfcoaaNumU
namespace Go.Proofs.Ytnldjddmchfcoaa
open Go.RowKit
/-- The first n cells of a block can be written. -/
def Wr (w : World) (g n : Nat) : Prop := ∀ i, i < n → (∃ v, w.cell? ⟨g, i, none⟩ = some v) ∧ w.frozen? ⟨g, i, none⟩ = false
theorem Wr.set_ {w : World} {g n : Nat} (h : Wr w g n) (p : Addr) (v : Value) : Wr (w.setCell p v) g n := by
  intro i hi
  obtain ⟨⟨u, hu⟩, hf⟩ := h i hi
  exact ⟨cell?_setCell_some hu, by rw [World.frozen?_setCell]; exact hf⟩
theorem Wr.below {w w' : World} {g n B : Nat} (h : Wr w g n) (hb : Below B w w') (hg : g < B) : Wr w' g n := by
  intro i hi
  obtain ⟨⟨u, hu⟩, hf⟩ := h i hi
  exact ⟨⟨u, (hb.cell (p := ⟨g, i, none⟩) hg).trans hu⟩, (hb.frozen (p := ⟨g, i, none⟩) hg).trans hf⟩
theorem lt_of_cell {w : World} {g i : Nat} {v : Value} (h : w.cell? ⟨g, i, none⟩ = some v) : g < w.heap.size := by
  rcases Nat.lt_or_ge g w.heap.size with hlt | hge
  · exact hlt
  · exfalso
    unfold World.cell? at h
    simp [Array.getElem?_eq_none hge] at h
theorem Fresh.wr {B : Nat} {w : World} {v : Value} {l : List Nat} (h : Fresh B w v l) : ∃ g cap, v = .slice (some ⟨g, 0, none⟩) l.length cap ∧ B ≤ g ∧ Wr w g l.length := by
  obtain ⟨_, g, cap, zs, hv, hg, hc, _, _, _, _, hcell, hfr⟩ := h
  rw [u8s_length] at hv hc
  exact ⟨g, cap, hv, hg, fun i hi => ⟨⟨_, hcell i (by omega)⟩, hfr i (by omega)⟩⟩
theorem Holds.prefix_ {w : World} {p : Option Addr} {n cap : Nat} {l m : List Nat} (h : Holds w (.slice p n cap) (l ++ m)) : Holds w (.slice p l.length cap) l := by
  obtain ⟨hn, hp, hc⟩ := h.cells
  refine ⟨fun b hb => h.1 b (by simp [hb]), p, cap, by rw [u8s_length], fun hp' => ?_, fun a ha i x hx => ?_⟩
  · have := hp hp'
    have hl : l = [] := (List.append_eq_nil_iff.1 this).1
    rw [hl]; rfl
  · unfold u8s at hx
    rw [List.getElem?_map] at hx
    cases hz : l[i]? with
    | none => rw [hz] at hx; cases hx
    | some z =>
      rw [hz] at hx
      simp only [Option.map_some, Option.some.injEq] at hx
      have hi := (List.getElem?_eq_some_iff.1 hz).1
      have hlt := h.1 z (List.mem_append_left _ (List.mem_of_getElem? hz))
      rw [hc a ha i (.int .u8 (z : Int)) (by unfold cells8; rw [List.getElem?_map, List.getElem?_append_left hi, hz]; rfl)]
      subst hx
      rw [UInt8.toNat_ofNat', Nat.mod_eq_of_lt hlt]
def eight : List Nat := [1, 2, 3, 4, 5, 6, 7, 8]
theorem holds8 (w : World) : Holds (w.alloc (.cells #[.int .u8 1, .int .u8 2, .int .u8 3, .int .u8 4, .int .u8 5, .int .u8 6, .int .u8 7, .int .u8 8] 5)) (.slice (some ⟨w.heap.size, 0, none⟩) 8 8) eight := by
  have hb := heap_alloc_new w (.cells #[.int .u8 1, .int .u8 2, .int .u8 3, .int .u8 4, .int .u8 5, .int .u8 6, .int .u8 7, .int .u8 8] 5)
  have hB : BB (w.alloc (.cells #[.int .u8 1, .int .u8 2, .int .u8 3, .int .u8 4, .int .u8 5, .int .u8 6, .int .u8 7, .int .u8 8] 5)) w.heap.size eight := by
    intro j x hx
    refine ⟨?_, ?_⟩
    · rw [cell_of_row _ _ _ _ _ _ hb]
      have hj : j < 8 := (List.getElem?_eq_some_iff.1 hx).1
      rcases (show j = 0 ∨ j = 1 ∨ j = 2 ∨ j = 3 ∨ j = 4 ∨ j = 5 ∨ j = 6 ∨ j = 7 from by omega) with rfl | rfl | rfl | rfl | rfl | rfl | rfl | rfl <;> (simp [eight] at hx; subst hx; rfl)
    · unfold World.frozen?
      rw [hb]
      simp
  exact hB.holds (fun b hb => by simp [eight] at hb; omega) 8 8 (by decide)
set_option maxHeartbeats 2000000 in
theorem walkNumOwn (w : World) (p0 : Option Addr) (cap0 : Nat) (l0 : List Nat) (a1 : ByteArray) (h0 : Holds w (.slice p0 l0.length cap0) l0) (c0 : l0.length ≤ cap0) (r0 : cap0 ≤ 1048576) (b1 : a1.size ≤ 1048576) :
    Calls Try.prog 3 #[.slice p0 l0.length cap0, .string a1] w fun e w' => e = .returned (.bool true) ∧ Below w.heap.size w w' := by
  have H0 := Lib.hid h0
  clear h0
  obtain ⟨R, hR⟩ : ∃ R, R = l0 ++ eight := ⟨_, rfl⟩
  have hRl : R.length = l0.length + 8 := by rw [hR, List.length_append]; rfl
  have HR := Lib.hid hR
  have HRL := Lib.hid hRl
  clear hR hRl
  go_enter Try.func3, Try.ntmps3
  go_wp2_with fail
  refine (awake01_any _).mono ?_
  rintro e w1 ⟨rfl, hb1⟩
  go_wp2_with fail
  refine (bytes_any p0 cap0 l0 _ (H0.out.later hb1) (by omega)).mono ?_
  rintro e w2 ⟨v2, rfl, hO2, hb2⟩
  have hbb2 := hb1.trans (hb2.mono hb1.size)
  have hsz2 := hbb2.size
  have HO2 := Lib.hid (show OwnB w1.heap.size (w2.alloc (.cells #[.int .u8 1, .int .u8 2, .int .u8 3, .int .u8 4, .int .u8 5, .int .u8 6, .int .u8 7, .int .u8 8] 5)) v2 l0 from ⟨hO2.1, hO2.2.alloc _⟩)
  have HE2 := Lib.hid (holds8 w2)
  have HBL := Lib.hid ((Below.refl w1.heap.size w2).alloc hb2.size (.cells #[.int .u8 1, .int .u8 2, .int .u8 3, .int .u8 4, .int .u8 5, .int .u8 6, .int .u8 7, .int .u8 8] 5))
  have HBZ := Lib.hid (show w1.heap.size ≤ (w2.alloc (.cells #[.int .u8 1, .int .u8 2, .int .u8 3, .int .u8 4, .int .u8 5, .int .u8 6, .int .u8 7, .int .u8 8] 5)).heap.size from Nat.le_trans hb2.size HBL.out.size)
  clear hO2
  go_wp2_with (with_reducible refine appN (w0 := w2) rfl _ _ rfl _ _ rfl HO2.out _ _ _ _ rfl HE2.out ?he HBL.out HBZ.out ?_)
  case he => simp [eight]; omega
  intro v3 w3 hO3 hb3
  rw [← HR.out] at hO3
  obtain ⟨p3, c3, rfl, hc3⟩ := hO3.slice
  have HH3 := Lib.hid hO3.holds
  clear hO3
  have hbb3 : Below w.heap.size w w3 := hbb2.trans (hb3.mono hb1.size)
  have hcc : l0.length ≤ c3 := by rw [HRL.out] at hc3; omega
  have hin := HH3.out
  rw [HR.out] at hin
  have HIN := Lib.hid hin.prefix_
  clear hin hb1 hb2 hb3 hbb2
  obtain ⟨X, hX⟩ : ∃ X, X = l0 ++ leN 7 8 := ⟨_, rfl⟩
  have hXl : X.length = l0.length + 8 := by rw [hX, List.length_append, leN_length]
  have HX := Lib.hid hX
  have HXL := Lib.hid hXl
  clear hX hXl
  go_wp2_with fail
  refine (put_ok p3 c3 l0 7 8 _ HIN.out (by decide) (by decide) (by decide) (.inl rfl) (by omega)).mono ?_
  rintro e w4 ⟨v4, rfl, hF4, hb4⟩
  rw [← HX.out] at hF4
  obtain ⟨g4, c4, rfl, hg4, hw4⟩ := hF4.wr
  have HW4 := Lib.hid hw4
  clear hF4 hw4
  have hH4 := HIN.out.later hb4
  have HP : Hid (Calls Try.prog 14 #[.slice p3 l0.length c3, .string a1] w4 fun e w' => ∃ g M c z, (e = .returned (.tuple #[.slice (some ⟨g, 0, none⟩) M c, .int .i64 z]) ∨ (M = 0 ∧ e = .returned (.tuple #[.slice none 0 0, .int .i64 z]))) ∧ w4.heap.size ≤ g ∧ Wr w' g M ∧ M ≤ 2097152 ∧ Below w4.heap.size w4 w') := by
    by_cases hs : a1.size ≤ 65535
    · refine (puttext_ok p3 c3 l0 a1 w4 hH4 hs (by omega)).mono ?_
      rintro e w' ⟨v', he, hF, hb⟩
      obtain ⟨g, c, rfl, hg, hw⟩ := hF.wr
      refine ⟨g, _, c, 0, .inl he, hg, hw, ?_, hb⟩
      rw [List.length_append, List.length_append, leN_length, nats_length]; omega
    · refine (puttext_long _ a1 w4 (by omega)).mono ?_
      rintro e w' ⟨he, rfl⟩
      exact ⟨w4.heap.size, 0, 0, 5, .inr ⟨rfl, he⟩, Nat.le_refl _, fun i hi => absurd hi (by omega), by omega, Below.refl _ _⟩
  clear hH4
  go_wp2_with fail
  refine HP.out.mono ?_
  rintro e w5 ⟨g5, M, c5, z5, he, hg5, hw5, hM, hb5⟩
  have HW45 := Lib.hid (HW4.out.below hb5 (show g4 < w4.heap.size from by
    have h := (HW4.out 0 (by rw [HXL.out]; omega)).1
    obtain ⟨v, hv⟩ := h
    exact lt_of_cell hv))
  have hb35 : Below w3.heap.size w3 w5 := hb4.trans (hb5.mono hb4.size)
  have hg35 : w3.heap.size ≤ g5 := Nat.le_trans hb4.size hg5
  have HW5 := Lib.hid hw5
  clear hw5 hb4 hb5 HW4 HP
  rcases he with rfl | ⟨_, rfl⟩
  · go_wp2_with fail
    go_loopw [11] (fun i wr => ∃ k : Nat, k ≤ X.length ∧ i = .int .i64 k ∧ Wr wr g4 X.length ∧ Wr wr g5 M ∧ Below w3.heap.size w3 wr) (fun i _ => X.length - (intOf i).toNat)
    case atStart => exact ⟨0, by omega, rfl, HW45.out, HW5.out, hb35⟩
    case round =>
      obtain ⟨k, hk, rfl, hw4, hw5, hb⟩ := hrel
      by_cases hlt : k < X.length
      · obtain ⟨⟨v, hv⟩, hf⟩ := hw4 k hlt
        have HV4 := Lib.hid hw4
        have HV5 := Lib.hid hw5
        clear hw4 hw5
        have hxm : X.length ≤ 1048584 := by rw [HXL.out]; omega
        go_wp2_with fail
        go_roundw
        case rel => exact ⟨k + 1, by omega, by go_num, HV4.out.set_ _ _, HV5.out.set_ _ _, hb.setCell hg4 _⟩
        case measure => simp [intOf]; omega
      · obtain rfl : k = X.length := by omega
        have HV5 := Lib.hid hw5
        clear hw4 hw5
        obtain ⟨wr0, rfl⟩ : ∃ wr0 : World, wr0 = wr := ⟨_, rfl⟩
        go_wp2_with fail
        go_loopw [12] (fun i wr2 => ∃ k : Nat, k ≤ M ∧ i = .int .i64 k ∧ Wr wr2 g5 M ∧ Below w3.heap.size w3 wr2) (fun i _ => M - (intOf i).toNat)
        case atStart => exact ⟨0, by omega, rfl, HV5.out, hb⟩
        case round =>
          clear hb HV5
          obtain ⟨k, hk, rfl, hw5, hb⟩ := hrel
          by_cases hlt : k < M
          · obtain ⟨⟨v, hv⟩, hf⟩ := hw5 k hlt
            have HV5 := Lib.hid hw5
            clear hw5
            go_wp2_with fail
            go_roundw
            case rel => exact ⟨k + 1, by omega, by go_num, HV5.out.set_ _ _, hb.setCell hg35 _⟩
            case measure => simp [intOf]; omega
          · obtain rfl : k = M := by omega
            clear hw5
            have hbw : Below w.heap.size w wr := hbb3.trans (hb.mono hbb3.size)
            have HFIN := Lib.hid (HH3.out.later hb)
            go_wp2_with fail
            refine (bytes_any p0 cap0 l0 _ (H0.out.later hbw) (by omega)).mono ?_
            rintro e w6 ⟨v6, rfl, hO6, hb6⟩
            have HO6 := Lib.hid (show OwnB wr.heap.size (w6.alloc (.cells #[.int .u8 1, .int .u8 2, .int .u8 3, .int .u8 4, .int .u8 5, .int .u8 6, .int .u8 7, .int .u8 8] 5)) v6 l0 from ⟨hO6.1, hO6.2.alloc _⟩)
            have HE6 := Lib.hid (holds8 w6)
            have HBL6 := Lib.hid ((Below.refl wr.heap.size w6).alloc hb6.size (.cells #[.int .u8 1, .int .u8 2, .int .u8 3, .int .u8 4, .int .u8 5, .int .u8 6, .int .u8 7, .int .u8 8] 5))
            have HBZ6 := Lib.hid (show wr.heap.size ≤ (w6.alloc (.cells #[.int .u8 1, .int .u8 2, .int .u8 3, .int .u8 4, .int .u8 5, .int .u8 6, .int .u8 7, .int .u8 8] 5)).heap.size from Nat.le_trans hb6.size HBL6.out.size)
            clear hO6
            go_wp2_with (with_reducible refine appN (w0 := w6) rfl _ _ rfl _ _ rfl HO6.out _ _ _ _ rfl HE6.out ?he2 HBL6.out HBZ6.out ?_)
            case he2 => simp [eight]; omega
            intro v7 w7 hO7 hb7
            rw [← HR.out] at hO7
            obtain ⟨p7, c7, rfl, hc7⟩ := hO7.slice
            have HH7 := Lib.hid hO7.holds
            have HF7 := Lib.hid (HFIN.out.later (hb6.trans hb7))
            clear hO7
            go_wp2_with fail
            refine (same_yes _ _ _ _ _ _ _ _ HF7.out HH7.out).mono ?_
            rintro e w8 ⟨rfl, rfl⟩
            go_wp2_with fail
            go_ret
            exact ⟨rfl, hbw.trans ((hb6.trans hb7).mono hbw.size)⟩
  · go_wp2_with fail
    go_loopw [11] (fun i wr => ∃ k : Nat, k ≤ X.length ∧ i = .int .i64 k ∧ Wr wr g4 X.length ∧ Wr wr g5 M ∧ Below w3.heap.size w3 wr) (fun i _ => X.length - (intOf i).toNat)
    case atStart => exact ⟨0, by omega, rfl, HW45.out, HW5.out, hb35⟩
    case round =>
      obtain ⟨k, hk, rfl, hw4, hw5, hb⟩ := hrel
      by_cases hlt : k < X.length
      · obtain ⟨⟨v, hv⟩, hf⟩ := hw4 k hlt
        have HV4 := Lib.hid hw4
        have HV5 := Lib.hid hw5
        clear hw4 hw5
        have hxm : X.length ≤ 1048584 := by rw [HXL.out]; omega
        go_wp2_with fail
        go_roundw
        case rel => exact ⟨k + 1, by omega, by go_num, HV4.out.set_ _ _, HV5.out.set_ _ _, hb.setCell hg4 _⟩
        case measure => simp [intOf]; omega
      · obtain rfl : k = X.length := by omega
        have HV5 := Lib.hid hw5
        clear hw4 hw5
        obtain ⟨wr0, rfl⟩ : ∃ wr0 : World, wr0 = wr := ⟨_, rfl⟩
        go_wp2_with fail
        go_loopw [12] (fun i wr2 => ∃ k : Nat, k ≤ 0 ∧ i = .int .i64 k ∧ Wr wr2 g5 M ∧ Below w3.heap.size w3 wr2) (fun i _ => 0 - (intOf i).toNat)
        case atStart => exact ⟨0, by omega, rfl, HV5.out, hb⟩
        case round =>
          clear hb HV5
          obtain ⟨k, hk, rfl, hw5, hb⟩ := hrel
          by_cases hlt : k < 0
          · exact absurd hlt (by omega)
          · obtain rfl : k = 0 := by omega
            clear hw5
            have hbw : Below w.heap.size w wr := hbb3.trans (hb.mono hbb3.size)
            have HFIN := Lib.hid (HH3.out.later hb)
            go_wp2_with fail
            refine (bytes_any p0 cap0 l0 _ (H0.out.later hbw) (by omega)).mono ?_
            rintro e w6 ⟨v6, rfl, hO6, hb6⟩
            have HO6 := Lib.hid (show OwnB wr.heap.size (w6.alloc (.cells #[.int .u8 1, .int .u8 2, .int .u8 3, .int .u8 4, .int .u8 5, .int .u8 6, .int .u8 7, .int .u8 8] 5)) v6 l0 from ⟨hO6.1, hO6.2.alloc _⟩)
            have HE6 := Lib.hid (holds8 w6)
            have HBL6 := Lib.hid ((Below.refl wr.heap.size w6).alloc hb6.size (.cells #[.int .u8 1, .int .u8 2, .int .u8 3, .int .u8 4, .int .u8 5, .int .u8 6, .int .u8 7, .int .u8 8] 5))
            have HBZ6 := Lib.hid (show wr.heap.size ≤ (w6.alloc (.cells #[.int .u8 1, .int .u8 2, .int .u8 3, .int .u8 4, .int .u8 5, .int .u8 6, .int .u8 7, .int .u8 8] 5)).heap.size from Nat.le_trans hb6.size HBL6.out.size)
            clear hO6
            go_wp2_with (with_reducible refine appN (w0 := w6) rfl _ _ rfl _ _ rfl HO6.out _ _ _ _ rfl HE6.out ?he2 HBL6.out HBZ6.out ?_)
            case he2 => simp [eight]; omega
            intro v7 w7 hO7 hb7
            rw [← HR.out] at hO7
            obtain ⟨p7, c7, rfl, hc7⟩ := hO7.slice
            have HH7 := Lib.hid hO7.holds
            have HF7 := Lib.hid (HFIN.out.later (hb6.trans hb7))
            clear hO7
            go_wp2_with fail
            refine (same_yes _ _ _ _ _ _ _ _ HF7.out HH7.out).mono ?_
            rintro e w8 ⟨rfl, rfl⟩
            go_wp2_with fail
            go_ret
            exact ⟨rfl, hbw.trans ((hb6.trans hb7).mono hbw.size)⟩
end Go.Proofs.Ytnldjddmchfcoaa

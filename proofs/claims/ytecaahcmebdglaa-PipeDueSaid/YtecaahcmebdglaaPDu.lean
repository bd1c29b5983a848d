/- The walk of PipeDue. -/
import Derived.Test.YtecaahcmebdglaaPipY
import Derived.Test.YtecaahcmebdglaaPPlR
import Derived.Deep.RegionHeld3
namespace Go.Proofs.Ytecaahcmebdglaa
open Go.RowKit
set_option linter.unusedVariables false
/-- What the law's set says of the pipe's. -/
def DI (k : Int) (l : List Nat) (op who : Int) (s : Nat) : Prop := s < 32 ∧ (k + l.length < op → s = Quo.wth 0 who) ∧ (k < op ∧ op ≤ k + l.length → l.getD (op - k - 1).toNat 0 = s)
theorem DI.add {k : Int} {l : List Nat} {op who : Int} {s : Nat} (h : DI k l op who s) : DI k (if full k l then l else l ++ [Quo.wth 0 who]) op who s := by
  by_cases hf : full k l
  · rw [if_pos hf]; exact h
  · rw [if_neg hf]
    obtain ⟨h1, h2, h3⟩ := h
    refine ⟨h1, fun q => h2 (by rw [List.length_append] at q; omega), fun q => ?_⟩
    rw [List.length_append, List.length_singleton] at q
    by_cases q2 : op ≤ k + l.length
    · rw [← h3 ⟨q.1, q2⟩, List.getD_eq_getElem?_getD, List.getD_eq_getElem?_getD, List.getElem?_append_left (by omega)]
    · rw [h2 (by omega), List.getD_eq_getElem?_getD, List.getElem?_append_right (by omega), show (op - k - 1).toNat - l.length = 0 by omega]
      rfl
theorem DI.keep {cN : Nat} {k : Int} {l : List Nat} {op who : Int} {s : Nat} (h : DI k l op who s) (h32 : ∀ s ∈ l, s < 32) (op2 f : Int) :
    DI (k + (kDone cN k l op2 f : Nat)) ((kSet cN k l op2 f).drop (kDone cN k l op2 f)) op who (if kErr cN k l op2 f = 0 ∧ op2 = op then Quo.wth s f else s) := by
  obtain ⟨h1, h2, h3⟩ := h
  by_cases ho : (1 ≤ f ∧ f ≤ (cN : Int)) ∧ (k < op2 ∧ op2 ≤ k + l.length)
  · have he : kErr cN k l op2 f = 0 := by unfold kErr; rw [if_pos ho.1, if_pos ho.2]
    have hd : kDone cN k l op2 f ≤ l.length := by
      have := Pip.done_le cN (kSet cN k l op2 f)
      unfold kDone
      rw [if_pos ho]
      refine Nat.le_trans this ?_
      unfold kSet
      rw [if_pos ho, List.length_set]
      exact Nat.le_refl _
    have hl : (kSet cN k l op2 f).length = l.length := by unfold kSet; rw [if_pos ho, List.length_set]
    have hg : ∀ i : Nat, (kSet cN k l op2 f).getD i 0 = if (op2 - k - 1).toNat = i ∧ i < l.length then Quo.wth (l.getD (op2 - k - 1).toNat 0) f else l.getD i 0 := fun i => by
      unfold kSet
      rw [if_pos ho, List.getD_eq_getElem?_getD, List.getElem?_set]
      by_cases q : (op2 - k - 1).toNat = i
      · by_cases q2 : i < l.length
        · rw [if_pos q, if_pos (by omega), if_pos ⟨q, q2⟩]; rfl
        · omega
      · rw [if_neg q, if_neg (fun h => q h.1), List.getD_eq_getElem?_getD]
    generalize kDone cN k l op2 f = d at *
    by_cases q : op2 = op
    · subst q
      rw [if_pos ⟨he, rfl⟩]
      refine ⟨Quo.wth_lt _ _ h1, fun q => by rw [List.length_drop, hl] at q; omega, fun q => ?_⟩
      rw [List.length_drop, hl] at q
      rw [List.getD_eq_getElem?_getD, List.getElem?_drop, ← List.getD_eq_getElem?_getD, hg, if_pos ⟨by omega, by omega⟩, h3 ho.2]
    · rw [if_neg (fun h => q h.2)]
      refine ⟨h1, fun q => h2 (by rw [List.length_drop, hl] at q; omega), fun q2 => ?_⟩
      rw [List.length_drop, hl] at q2
      rw [List.getD_eq_getElem?_getD, List.getElem?_drop, ← List.getD_eq_getElem?_getD, hg, if_neg (fun h => by omega), ← h3 ⟨by omega, by omega⟩]
      congr 1
      omega
  · have he : ¬ kErr cN k l op2 f = 0 := by
      unfold kErr
      by_cases q : 1 ≤ f ∧ f ≤ (cN : Int)
      · rw [if_pos q, if_neg (fun h => ho ⟨q, h⟩)]; decide
      · rw [if_neg q]; decide
    have e1 : kDone cN k l op2 f = 0 := by unfold kDone; rw [if_neg ho]
    have e2 : kSet cN k l op2 f = l := by unfold kSet; rw [if_neg ho]
    rw [if_neg (fun h => he h.1), e1, e2]
    rw [show k + ((0 : Nat) : Int) = k by simp, List.drop_zero]
    exact ⟨h1, h2, h3⟩
theorem DI.last {cN : Nat} {k : Int} {l : List Nat} {op who : Int} {s N : Nat} {row : List (Int × Int)} (h : DI k l op who s) (hS : SR cN who k l row N) (ho : k < op ∧ op ≤ k + l.length) : dueL cN k l op = Pip.due (Quo.has s) cN ∧ (Pip.due (Quo.has s) cN).length + Quo.size s = cN := by
  obtain ⟨h1, h2, h3⟩ := h
  have h3 := h3 ho
  have hc := hS.rel.cnt
  refine ⟨by unfold dueL; rw [if_pos ho, h3], Pip.due_size hc (fun j hj hcj => ?_)⟩
  obtain ⟨i, hi⟩ : ∃ i : Nat, op = k + 1 + i := ⟨(op - k - 1).toNat, by omega⟩
  have hil : i < l.length := by omega
  have hg : l[i]? = some s := by
    rw [List.getElem?_eq_getElem hil, ← h3, List.getD_eq_getElem?_getD, show (op - k - 1).toNat = i by omega, List.getElem?_eq_getElem hil]
    rfl
  have := hS.rel.same i s hg ((j + 1 : Nat) : Int) (by omega) (by omega)
  rw [Pip.has_bit s j hj] at this
  rw [this]
  exact Pip.hasR_out hS.rel _ _ (.inr (by omega))
set_option maxRecDepth 100000 in
set_option maxHeartbeats 40000000 in
theorem pdue_core (w : World) (who k0 op : Int) (ad : Option Addr) (cap : Nat) (L : List (List Value)) (cN : Nat) (hc : cN = 3 ∨ cN = 5) (hw : 1 ≤ who ∧ who ≤ cN) (h0 : 0 ≤ k0) (h1 : k0 ≤ 72057594037927935) (hop : -9223372036854775808 ≤ op ∧ op ≤ 9223372036854775807) (hL : RowsAt w ad 3 L)
    (hlc : L.length ≤ cap) (hcap : cap ≤ maxLen) (ht : ∀ r ∈ L, ∃ (c0 : Int) (c1 : Int) (c2 : Int), r = [.int .i64 c0, .int .i64 c1, .int .i64 c2] ∧ (-9223372036854775808 ≤ c0 ∧ c0 ≤ 9223372036854775807) ∧ (-9223372036854775808 ≤ c1 ∧ c1 ≤ 9223372036854775807) ∧ (-9223372036854775808 ≤ c2 ∧ c2 ≤ 9223372036854775807)) :
    Calls Try.prog 11 #[.int .i64 (cN : Int), .int .i64 who, .int .i64 k0, .slice ad L.length cap, .int .i64 op] w fun e w' => e = .returned (.bool true) ∧ Below w.heap.size w w' := by
  have HROW := Lib.hid (fun (i : Nat) (hi : i < L.length) => row3 hL ht i hi)
  have HCAP := Lib.hid (And.intro hlc hcap)
  obtain ⟨n, hn⟩ : ∃ n, n = L.length := ⟨_, rfl⟩
  have HN := Lib.hid hn
  rw [← hn]
  have HS0 := Lib.hid (SR.first cN who k0 hc hw h0 0 (by simpa using h1) (by decide))
  have HNW : Hid (∀ w1, Below w.heap.size w w1 → Calls Try.prog 35 #[.int .i64 (cN : Int), .int .i64 who, .int .i64 k0, .int .i64 k0] w1 fun e w' => e = .returned (.tuple #[.pointer (some ⟨w1.heap.size, 0, none⟩), .int .i64 0]) ∧ JP w (fun _ => False) w' w1.heap.size cN who k0 [] ∧ Below w1.heap.size w1 w') := Lib.hid (fun w1 hb => by
    have := jp_new (X := fun _ => False) w w1 hb (fun q h => h.elim) who k0 k0 hc hw h0 h1 (Int.le_refl _) (by omega)
    rwa [show (k0 - k0).toNat = 0 by omega] at this)
  have HWI : Hid (∀ w, Calls Try.prog 20 #[.int .i64 0, .int .i64 who] w fun e w' => e = .returned (.int .i64 ((Quo.wth 0 who : Nat) : Int)) ∧ w = w') := Lib.hid (fun w => with_any 0 who w (by omega) (by omega))
  have HWS : Hid (∀ (s : Nat) (f : Int) w, s < 32 → (-9223372036854775808 ≤ f ∧ f ≤ 9223372036854775807) → Calls Try.prog 20 #[.int .i64 (s : Int), .int .i64 f] w fun e w' => e = .returned (.int .i64 ((Quo.wth s f : Nat) : Int)) ∧ w = w') := Lib.hid (fun s f w hs hf => by
    have := with_any s f w (by omega) hf
    rwa [show qs (s : Int) = s from by unfold qs; omega] at this)
  have HSZ : Hid (∀ (s : Nat) w, s < 32 → Calls Try.prog 24 #[.int .i64 (s : Int)] w fun e w' => e = .returned (.int .i64 ((Quo.size s : Nat) : Int)) ∧ w = w') := Lib.hid (fun s w hs => by
    have := size_any s w (by omega)
    rwa [show qs (s : Int) = s from by unfold qs; omega] at this)
  have HHS : Hid (∀ (s : Nat) (f : Int) w, s < 32 → (-9223372036854775808 ≤ f ∧ f ≤ 9223372036854775807) → Calls Try.prog 22 #[.int .i64 (s : Int), .int .i64 f] w fun e w' => e = .returned (.bool (Quo.has s f)) ∧ w = w') := Lib.hid (fun s f w hs hf => by
    have := has_any s f w (by omega) hf
    rwa [show qs (s : Int) = s from by unfold qs; omega] at this)
  have HW0 : Hid (Quo.wth 0 who < 32) := Lib.hid (Quo.wth_lt _ _ (by decide))
  clear hL ht hlc hcap hn hc hw h0 h1
  go_enter Try.func11, Try.ntmps11
  go_wp2_with fail
  refine (awake19_any _).mono ?_
  rintro e w1 ⟨rfl, hb1⟩
  have B1 := Lib.hid hb1
  clear hb1
  go_wp2_with fail
  refine (HNW.out _ B1.out).mono ?_
  rintro e w2 ⟨rfl, hJ, hb2⟩
  have HJ0 := Lib.hid hJ
  clear hJ hb2 HNW
  generalize w1.heap.size = g at *
  go_wp2_with fail
  refine (HWI.out _).mono ?_
  rintro e w3 ⟨rfl, rfl⟩
  obtain ⟨s0, hs0⟩ : ∃ s, s = Quo.wth 0 who := ⟨_, rfl⟩
  have HD0 : Hid (DI k0 [] op who s0) := Lib.hid ⟨by rw [hs0]; exact HW0.out, fun _ => hs0, fun h => by simp at h; omega⟩
  rw [← hs0]
  clear hs0 HWI HW0
  go_wp2_with fail
  go_loopw [13, 14] (fun sv iv wr => ∃ j : Nat, j ≤ n ∧ j ≤ 80 ∧ iv = .int .i64 j ∧ ∃ (k : Int) (l : List Nat) (row : List (Int × Int)) (s : Nat), sv = .int .i64 (s : Int) ∧ SR cN who k l row (16 + j) ∧ DI k l op who s ∧ JP w (fun _ => False) wr g cN who k l) (fun _ iv _ => 81 - (intOf iv).toNat)
  case atStart => exact ⟨0, by omega, by omega, rfl, k0, _, _, s0, rfl, HS0.out, HD0.out, HJ0.out⟩
  case round =>
    clear HJ0 HS0 HD0
    obtain ⟨j, hj, hj80, rfl, k, l, row, s, rfl, hS, hD, hJ⟩ := hrel
    have HJ := Lib.hid hJ
    have HS := Lib.hid hS
    have HD := Lib.hid hD
    have hs32 := hD.1
    clear hJ hS hD
    by_cases hlt : j < n ∧ j < 80
    · obtain ⟨hlt1, hlt2⟩ := hlt
      obtain ⟨b0, o0, x, y, z, rfl, c0, c1, c2, hy, hz⟩ := HROW.out j (by rw [← HN.out]; exact hlt1)
      have hjn : j < n := hlt1
      have c0' : wr.cell? ⟨b0, o0 + j * 3, none⟩ = some (.int .i64 x) := HJ.out.cell c0
      clear c0
      by_cases hx : x = 1
      · subst hx
        have HA := Lib.hid (jp_add HS.out (fun q h => h.elim) HJ.out)
        have HF : Hid (SR cN who k (if full k l then l else l ++ [Quo.wth 0 who]) (if full k l then row else row ++ [(k + l.length + 1, who)]) (16 + (j + 1)) ∧ DI k (if full k l then l else l ++ [Quo.wth 0 who]) op who s) := Lib.hid ⟨HS.out.add.1, HD.out.add⟩
        clear c1 c2 HJ HS HD
        go_wp2_with fail
        refine (HA.out).mono ?_
        rintro e w4 ⟨rfl, hJ4, hT4⟩
        go_wp2_with fail
        go_roundw
        case rel => exact ⟨j + 1, by omega, by omega, by go_num, k, _, _, s, rfl, HF.out.1, HF.out.2, hJ4⟩
        case measure => simp [intOf]; omega
      · have hx' : (x == 1) = false := by simp [hx]
        have HF := Lib.hid (HS.out.keep y z)
        have HDK := Lib.hid (HD.out.keep (cN := cN) HS.out.rel.small y z)
        obtain ⟨ev, hev⟩ : ∃ ev, kErr cN k l y z = ev := ⟨_, rfl⟩
        obtain ⟨k2, hk2e⟩ : ∃ k2, k2 = k + (kDone cN k l y z : Nat) := ⟨_, rfl⟩
        obtain ⟨l2, hl2e⟩ : ∃ l2, l2 = (kSet cN k l y z).drop (kDone cN k l y z) := ⟨_, rfl⟩
        rw [hev, ← hk2e, ← hl2e] at HDK
        rw [← hk2e, ← hl2e] at HF
        clear hx
        by_cases he : ev = 0
        · subst he
          by_cases hyo : y = op
          · subst hyo
            have HDK : Hid (DI k2 l2 y who (Quo.wth s z)) := Lib.hid (by have := HDK.out; rwa [if_pos ⟨rfl, rfl⟩] at this)
            go_wp2_with fail
            refine wp_region_noPanic ?_
            refine wp_region_held_drew (S := fun W => Below w.heap.size w W) (by kernel_rfl) (show Below w.heap.size w wr.drew from HJ.out.below.drew) (fun hHeld => ?_)
            have hBd : JP w (fun _ => False) wr.drew g cN who k l := HJ.out.later ⟨rfl, rfl, rfl, Nat.le_refl _, fun _ _ => rfl⟩
            have HKP := Lib.hid (jp_keep HS.out (fun q h => h.elim) hBd y z)
            rw [hev, ← hk2e, ← hl2e] at HKP
            generalize wr.drew = w7 at *
            refine wpAnyH_take (i := 0) (oi := { dst := some 49, op := _, type := _, pos := _, after := _, guard := _ }) (v := ?_) rfl (by kernel_rfl) (by kernel_rfl) (by kernel_rfl) (fun _ _ _ h => h) (Or.inl ⟨by rfl, ?_⟩) hHeld ?_
            rotate_left
            · intro W hSw
              have d1 := (Below.cell hSw (cell_lt c1)).trans c1
              have d2 := (Below.cell hSw (cell_lt c2)).trans c2
              go_simp
              first | done | rfl
            try simp only [Act.put, List.setIfInBounds_toArray, List.set_cons_zero, List.set_cons_succ]
            refine wpAnyH_take (i := 1) (oi := { dst := some 50, op := _, type := _, pos := _, after := _, guard := _ }) (v := ?_) rfl (by kernel_rfl) (by kernel_rfl) (by kernel_rfl) (fun _ _ _ h => h) (Or.inl ⟨by rfl, ?_⟩) hHeld ?_
            rotate_left
            · intro W hSw
              have d1 := (Below.cell hSw (cell_lt c1)).trans c1
              have d2 := (Below.cell hSw (cell_lt c2)).trans c2
              go_simp
              first | done | rfl
            try simp only [Act.put, List.setIfInBounds_toArray, List.set_cons_zero, List.set_cons_succ]
            refine wpAnyH_take (i := 2) (oi := { dst := some 51, op := _, type := _, pos := _, after := _, guard := _ }) (v := ?_) rfl (by kernel_rfl) (by kernel_rfl) (by kernel_rfl) (fun _ _ _ h => h) (Or.inl ⟨by rfl, ?_⟩) hHeld ?_
            rotate_left
            · intro W hSw
              have d1 := (Below.cell hSw (cell_lt c1)).trans c1
              have d2 := (Below.cell hSw (cell_lt c2)).trans c2
              go_simp
              first | done | rfl
            try simp only [Act.put, List.setIfInBounds_toArray, List.set_cons_zero, List.set_cons_succ]
            refine wpAnyH_take (i := 6) (oi := { dst := some 55, op := _, type := _, pos := _, after := _, guard := _ }) (v := ?_) rfl (by kernel_rfl) (by kernel_rfl) (by kernel_rfl) (fun _ _ _ h => h) (Or.inl ⟨by rfl, ?_⟩) hHeld ?_
            rotate_left
            · intro W hSw
              have d1 := (Below.cell hSw (cell_lt c1)).trans c1
              have d2 := (Below.cell hSw (cell_lt c2)).trans c2
              go_simp
              first | done | rfl
            try simp only [Act.put, List.setIfInBounds_toArray, List.set_cons_zero, List.set_cons_succ]
            refine wpAnyH_take (i := 7) (oi := { dst := some 56, op := _, type := _, pos := _, after := _, guard := _ }) (v := ?_) rfl (by kernel_rfl) (by kernel_rfl) (by kernel_rfl) (fun _ _ _ h => h) (Or.inl ⟨by rfl, ?_⟩) hHeld ?_
            rotate_left
            · intro W hSw
              have d1 := (Below.cell hSw (cell_lt c1)).trans c1
              have d2 := (Below.cell hSw (cell_lt c2)).trans c2
              go_simp
              first | done | rfl
            try simp only [Act.put, List.setIfInBounds_toArray, List.set_cons_zero, List.set_cons_succ]
            refine wpAnyH_take (i := 3) (oi := { dst := some 52, op := _, type := _, pos := _, after := _, guard := _ }) (v := ?_) rfl (by kernel_rfl) (by kernel_rfl) (by kernel_rfl) (fun _ _ _ h => h) (Or.inl ⟨by rfl, ?_⟩) hHeld ?_
            rotate_left
            · intro W hSw
              have d1 := (Below.cell hSw (cell_lt c1)).trans c1
              have d2 := (Below.cell hSw (cell_lt c2)).trans c2
              go_simp
              first | done | rfl
            try simp only [Act.put, List.setIfInBounds_toArray, List.set_cons_zero, List.set_cons_succ]
            refine wpAnyH_take (i := 8) (oi := { dst := some 57, op := _, type := _, pos := _, after := _, guard := _ }) (v := ?_) rfl (by kernel_rfl) (by kernel_rfl) (by kernel_rfl) (fun _ _ _ h => h) (Or.inl ⟨by rfl, ?_⟩) hHeld ?_
            rotate_left
            · intro W hSw
              have d1 := (Below.cell hSw (cell_lt c1)).trans c1
              have d2 := (Below.cell hSw (cell_lt c2)).trans c2
              go_simp
              first | done | rfl
            try simp only [Act.put, List.setIfInBounds_toArray, List.set_cons_zero, List.set_cons_succ]
            refine wpAnyH_take (i := 4) (oi := { dst := some 53, op := _, type := _, pos := _, after := _, guard := _ }) (v := ?_) rfl (by kernel_rfl) (by kernel_rfl) (by kernel_rfl) (fun _ _ _ h => h) (Or.inl ⟨by rfl, ?_⟩) hHeld ?_
            rotate_left
            · intro W hSw
              have d1 := (Below.cell hSw (cell_lt c1)).trans c1
              have d2 := (Below.cell hSw (cell_lt c2)).trans c2
              go_simp
              first | done | rfl
            try simp only [Act.put, List.setIfInBounds_toArray, List.set_cons_zero, List.set_cons_succ]
            refine wpAnyH_take (i := 9) (oi := { dst := some 58, op := _, type := _, pos := _, after := _, guard := _ }) (v := ?_) rfl (by kernel_rfl) (by kernel_rfl) (by kernel_rfl) (fun _ _ _ h => h) (Or.inl ⟨by rfl, ?_⟩) hHeld ?_
            rotate_left
            · intro W hSw
              have d1 := (Below.cell hSw (cell_lt c1)).trans c1
              have d2 := (Below.cell hSw (cell_lt c2)).trans c2
              go_simp
              first | done | rfl
            try simp only [Act.put, List.setIfInBounds_toArray, List.set_cons_zero, List.set_cons_succ]
            refine wpAnyH_take (i := 5) (oi := { dst := some 54, op := _, type := _, pos := _, after := _, guard := _ }) (v := ?_) rfl (by kernel_rfl) (by kernel_rfl) (by kernel_rfl) (fun _ _ _ h => h) (Or.inl ⟨by rfl, ?_⟩) hHeld ?_
            rotate_left
            · intro W hSw
              have d1 := (Below.cell hSw (cell_lt c1)).trans c1
              have d2 := (Below.cell hSw (cell_lt c2)).trans c2
              go_simp
              first | done | rfl
            try simp only [Act.put, List.setIfInBounds_toArray, List.set_cons_zero, List.set_cons_succ]
            refine wpAnyH_take (i := 10) (oi := { dst := some 59, op := _, type := _, pos := _, after := _, guard := _ }) (v := ?_) rfl (by kernel_rfl) (by kernel_rfl) (by kernel_rfl) (fun _ _ _ h => h) (Or.inl ⟨by rfl, ?_⟩) hHeld ?_
            rotate_left
            · intro W hSw
              have d1 := (Below.cell hSw (cell_lt c1)).trans c1
              have d2 := (Below.cell hSw (cell_lt c2)).trans c2
              go_simp
              first | done | rfl
            try simp only [Act.put, List.setIfInBounds_toArray, List.set_cons_zero, List.set_cons_succ]
            refine wpAnyH_ready (rs := [11]) (by kernel_rfl) (by simp) ?_
            refine AllReadyH.cons (o := { dst := some 60, op := _, type := _, pos := _, after := _, guard := _ }) rfl (fun K hK => ?_) AllReadyH.nil
            go_simp
            refine (HKP.out).mono ?_
            rintro e w8 ⟨rfl, hJ8, hT8⟩
            have hB8 := hJ8.below
            refine hK.out _ _ hB8 (fun _ => ?_)
            clear hK K
            try simp only [Act.put, List.setIfInBounds_toArray, List.set_cons_zero, List.set_cons_succ]
            refine wpAnyH_take (i := 12) (oi := { dst := some 61, op := _, type := _, pos := _, after := _, guard := _ }) (v := ?_) rfl (by kernel_rfl) (by kernel_rfl) (by kernel_rfl) (fun _ _ _ h => h) (Or.inl ⟨by rfl, ?_⟩) hB8 ?_
            rotate_left
            · intro W hSw
              have d1 := (Below.cell hSw (cell_lt c1)).trans c1
              have d2 := (Below.cell hSw (cell_lt c2)).trans c2
              go_simp
              first | done | rfl
            try simp only [Act.put, List.setIfInBounds_toArray, List.set_cons_zero, List.set_cons_succ]
            refine wpAnyH_take (i := 13) (oi := { dst := some 62, op := _, type := _, pos := _, after := _, guard := _ }) (v := ?_) rfl (by kernel_rfl) (by kernel_rfl) (by kernel_rfl) (fun _ _ _ h => h) (Or.inl ⟨by rfl, ?_⟩) hB8 ?_
            rotate_left
            · intro W hSw
              have d1 := (Below.cell hSw (cell_lt c1)).trans c1
              have d2 := (Below.cell hSw (cell_lt c2)).trans c2
              go_simp
              first | done | rfl
            try simp only [Act.put, List.setIfInBounds_toArray, List.set_cons_zero, List.set_cons_succ]
            refine wpAnyH_take (i := 14) (oi := { dst := some 63, op := _, type := _, pos := _, after := _, guard := _ }) (v := ?_) rfl (by kernel_rfl) (by kernel_rfl) (by kernel_rfl) (fun _ _ _ h => h) (Or.inl ⟨by rfl, ?_⟩) hB8 ?_
            rotate_left
            · intro W hSw
              have d1 := (Below.cell hSw (cell_lt c1)).trans c1
              have d2 := (Below.cell hSw (cell_lt c2)).trans c2
              go_simp
              first | done | rfl
            try simp only [Act.put, List.setIfInBounds_toArray, List.set_cons_zero, List.set_cons_succ]
            refine wpAnyH_take (i := 15) (oi := { dst := some 64, op := _, type := _, pos := _, after := _, guard := _ }) (v := ?_) rfl (by kernel_rfl) (by kernel_rfl) (by kernel_rfl) (fun _ _ _ h => h) (Or.inl ⟨by rfl, ?_⟩) hB8 ?_
            rotate_left
            · intro W hSw
              have d1 := (Below.cell hSw (cell_lt c1)).trans c1
              have d2 := (Below.cell hSw (cell_lt c2)).trans c2
              go_simp
              first | done | rfl
            try simp only [Act.put, List.setIfInBounds_toArray, List.set_cons_zero, List.set_cons_succ]
            refine wpAnyH_take (i := 19) (oi := { dst := some 68, op := _, type := _, pos := _, after := _, guard := _ }) (v := ?_) rfl (by kernel_rfl) (by kernel_rfl) (by kernel_rfl) (fun _ _ _ h => h) (Or.inl ⟨by rfl, ?_⟩) hB8 ?_
            rotate_left
            · intro W hSw
              have d1 := (Below.cell hSw (cell_lt c1)).trans c1
              have d2 := (Below.cell hSw (cell_lt c2)).trans c2
              go_simp
              first | done | rfl
            try simp only [Act.put, List.setIfInBounds_toArray, List.set_cons_zero, List.set_cons_succ]
            refine wpAnyH_take (i := 16) (oi := { dst := some 65, op := _, type := _, pos := _, after := _, guard := _ }) (v := ?_) rfl (by kernel_rfl) (by kernel_rfl) (by kernel_rfl) (fun _ _ _ h => h) (Or.inl ⟨by rfl, ?_⟩) hB8 ?_
            rotate_left
            · intro W hSw
              have d1 := (Below.cell hSw (cell_lt c1)).trans c1
              have d2 := (Below.cell hSw (cell_lt c2)).trans c2
              go_simp
              first | done | rfl
            try simp only [Act.put, List.setIfInBounds_toArray, List.set_cons_zero, List.set_cons_succ]
            refine wpAnyH_take (i := 17) (oi := { dst := some 66, op := _, type := _, pos := _, after := _, guard := _ }) (v := ?_) rfl (by kernel_rfl) (by kernel_rfl) (by kernel_rfl) (fun _ _ _ h => h) (Or.inl ⟨by rfl, ?_⟩) hB8 ?_
            rotate_left
            · intro W hSw
              have d1 := (Below.cell hSw (cell_lt c1)).trans c1
              have d2 := (Below.cell hSw (cell_lt c2)).trans c2
              go_simp
              first | done | rfl
            try simp only [Act.put, List.setIfInBounds_toArray, List.set_cons_zero, List.set_cons_succ]
            refine wpAnyH_take (i := 18) (oi := { dst := some 67, op := _, type := _, pos := _, after := _, guard := _ }) (v := ?_) rfl (by kernel_rfl) (by kernel_rfl) (by kernel_rfl) (fun _ _ _ h => h) (Or.inl ⟨by rfl, ?_⟩) hB8 ?_
            rotate_left
            · intro W hSw
              have d1 := (Below.cell hSw (cell_lt c1)).trans c1
              have d2 := (Below.cell hSw (cell_lt c2)).trans c2
              go_simp
              first | done | rfl
            try simp only [Act.put, List.setIfInBounds_toArray, List.set_cons_zero, List.set_cons_succ]
            refine wpAnyH_take (i := 20) (oi := { dst := some 69, op := _, type := _, pos := _, after := _, guard := _ }) (v := ?_) rfl (by kernel_rfl) (by kernel_rfl) (by kernel_rfl) (fun _ _ _ h => h) (Or.inl ⟨by rfl, ?_⟩) hB8 ?_
            rotate_left
            · intro W hSw
              have d1 := (Below.cell hSw (cell_lt c1)).trans c1
              have d2 := (Below.cell hSw (cell_lt c2)).trans c2
              go_simp
              first | done | rfl
            try simp only [Act.put, List.setIfInBounds_toArray, List.set_cons_zero, List.set_cons_succ]
            refine wpAnyH_take (i := 21) (oi := { dst := some 70, op := _, type := _, pos := _, after := _, guard := _ }) (v := ?_) rfl (by kernel_rfl) (by kernel_rfl) (by kernel_rfl) (fun _ _ _ h => h) (Or.inl ⟨by rfl, ?_⟩) hB8 ?_
            rotate_left
            · intro W hSw
              have d1 := (Below.cell hSw (cell_lt c1)).trans c1
              have d2 := (Below.cell hSw (cell_lt c2)).trans c2
              go_simp
              first | done | rfl
            try simp only [Act.put, List.setIfInBounds_toArray, List.set_cons_zero, List.set_cons_succ]
            refine wpAnyH_done (by kernel_rfl) ?_ _
            refine NoPanic.normal ?_
            have c2' := hJ8.cell c2
            go_wp2_with fail
            refine (HWS.out s z _ hs32 hz).mono ?_
            rintro e w5 ⟨rfl, rfl⟩
            go_wp2_with fail
            go_roundw
            case rel => exact ⟨j + 1, by omega, by omega, by go_num, k2, l2, _, Quo.wth s z, rfl, HF.out.1, HDK.out, hJ8⟩
            case measure => simp [intOf]; omega
          · have hyo' : (y == op) = false := by simp [hyo]
            rw [if_neg (fun h => hyo h.2)] at HDK
            clear hyo
            go_wp2_with fail
            refine wp_region_noPanic ?_
            refine wp_region_held_drew (S := fun W => Below w.heap.size w W) (by kernel_rfl) (show Below w.heap.size w wr.drew from HJ.out.below.drew) (fun hHeld => ?_)
            have hBd : JP w (fun _ => False) wr.drew g cN who k l := HJ.out.later ⟨rfl, rfl, rfl, Nat.le_refl _, fun _ _ => rfl⟩
            have HKP := Lib.hid (jp_keep HS.out (fun q h => h.elim) hBd y z)
            rw [hev, ← hk2e, ← hl2e] at HKP
            generalize wr.drew = w7 at *
            refine wpAnyH_take (i := 0) (oi := { dst := some 49, op := _, type := _, pos := _, after := _, guard := _ }) (v := ?_) rfl (by kernel_rfl) (by kernel_rfl) (by kernel_rfl) (fun _ _ _ h => h) (Or.inl ⟨by rfl, ?_⟩) hHeld ?_
            rotate_left
            · intro W hSw
              have d1 := (Below.cell hSw (cell_lt c1)).trans c1
              have d2 := (Below.cell hSw (cell_lt c2)).trans c2
              go_simp
              first | done | rfl
            try simp only [Act.put, List.setIfInBounds_toArray, List.set_cons_zero, List.set_cons_succ]
            refine wpAnyH_take (i := 1) (oi := { dst := some 50, op := _, type := _, pos := _, after := _, guard := _ }) (v := ?_) rfl (by kernel_rfl) (by kernel_rfl) (by kernel_rfl) (fun _ _ _ h => h) (Or.inl ⟨by rfl, ?_⟩) hHeld ?_
            rotate_left
            · intro W hSw
              have d1 := (Below.cell hSw (cell_lt c1)).trans c1
              have d2 := (Below.cell hSw (cell_lt c2)).trans c2
              go_simp
              first | done | rfl
            try simp only [Act.put, List.setIfInBounds_toArray, List.set_cons_zero, List.set_cons_succ]
            refine wpAnyH_take (i := 2) (oi := { dst := some 51, op := _, type := _, pos := _, after := _, guard := _ }) (v := ?_) rfl (by kernel_rfl) (by kernel_rfl) (by kernel_rfl) (fun _ _ _ h => h) (Or.inl ⟨by rfl, ?_⟩) hHeld ?_
            rotate_left
            · intro W hSw
              have d1 := (Below.cell hSw (cell_lt c1)).trans c1
              have d2 := (Below.cell hSw (cell_lt c2)).trans c2
              go_simp
              first | done | rfl
            try simp only [Act.put, List.setIfInBounds_toArray, List.set_cons_zero, List.set_cons_succ]
            refine wpAnyH_take (i := 6) (oi := { dst := some 55, op := _, type := _, pos := _, after := _, guard := _ }) (v := ?_) rfl (by kernel_rfl) (by kernel_rfl) (by kernel_rfl) (fun _ _ _ h => h) (Or.inl ⟨by rfl, ?_⟩) hHeld ?_
            rotate_left
            · intro W hSw
              have d1 := (Below.cell hSw (cell_lt c1)).trans c1
              have d2 := (Below.cell hSw (cell_lt c2)).trans c2
              go_simp
              first | done | rfl
            try simp only [Act.put, List.setIfInBounds_toArray, List.set_cons_zero, List.set_cons_succ]
            refine wpAnyH_take (i := 7) (oi := { dst := some 56, op := _, type := _, pos := _, after := _, guard := _ }) (v := ?_) rfl (by kernel_rfl) (by kernel_rfl) (by kernel_rfl) (fun _ _ _ h => h) (Or.inl ⟨by rfl, ?_⟩) hHeld ?_
            rotate_left
            · intro W hSw
              have d1 := (Below.cell hSw (cell_lt c1)).trans c1
              have d2 := (Below.cell hSw (cell_lt c2)).trans c2
              go_simp
              first | done | rfl
            try simp only [Act.put, List.setIfInBounds_toArray, List.set_cons_zero, List.set_cons_succ]
            refine wpAnyH_take (i := 3) (oi := { dst := some 52, op := _, type := _, pos := _, after := _, guard := _ }) (v := ?_) rfl (by kernel_rfl) (by kernel_rfl) (by kernel_rfl) (fun _ _ _ h => h) (Or.inl ⟨by rfl, ?_⟩) hHeld ?_
            rotate_left
            · intro W hSw
              have d1 := (Below.cell hSw (cell_lt c1)).trans c1
              have d2 := (Below.cell hSw (cell_lt c2)).trans c2
              go_simp
              first | done | rfl
            try simp only [Act.put, List.setIfInBounds_toArray, List.set_cons_zero, List.set_cons_succ]
            refine wpAnyH_take (i := 8) (oi := { dst := some 57, op := _, type := _, pos := _, after := _, guard := _ }) (v := ?_) rfl (by kernel_rfl) (by kernel_rfl) (by kernel_rfl) (fun _ _ _ h => h) (Or.inl ⟨by rfl, ?_⟩) hHeld ?_
            rotate_left
            · intro W hSw
              have d1 := (Below.cell hSw (cell_lt c1)).trans c1
              have d2 := (Below.cell hSw (cell_lt c2)).trans c2
              go_simp
              first | done | rfl
            try simp only [Act.put, List.setIfInBounds_toArray, List.set_cons_zero, List.set_cons_succ]
            refine wpAnyH_take (i := 4) (oi := { dst := some 53, op := _, type := _, pos := _, after := _, guard := _ }) (v := ?_) rfl (by kernel_rfl) (by kernel_rfl) (by kernel_rfl) (fun _ _ _ h => h) (Or.inl ⟨by rfl, ?_⟩) hHeld ?_
            rotate_left
            · intro W hSw
              have d1 := (Below.cell hSw (cell_lt c1)).trans c1
              have d2 := (Below.cell hSw (cell_lt c2)).trans c2
              go_simp
              first | done | rfl
            try simp only [Act.put, List.setIfInBounds_toArray, List.set_cons_zero, List.set_cons_succ]
            refine wpAnyH_take (i := 9) (oi := { dst := some 58, op := _, type := _, pos := _, after := _, guard := _ }) (v := ?_) rfl (by kernel_rfl) (by kernel_rfl) (by kernel_rfl) (fun _ _ _ h => h) (Or.inl ⟨by rfl, ?_⟩) hHeld ?_
            rotate_left
            · intro W hSw
              have d1 := (Below.cell hSw (cell_lt c1)).trans c1
              have d2 := (Below.cell hSw (cell_lt c2)).trans c2
              go_simp
              first | done | rfl
            try simp only [Act.put, List.setIfInBounds_toArray, List.set_cons_zero, List.set_cons_succ]
            refine wpAnyH_take (i := 5) (oi := { dst := some 54, op := _, type := _, pos := _, after := _, guard := _ }) (v := ?_) rfl (by kernel_rfl) (by kernel_rfl) (by kernel_rfl) (fun _ _ _ h => h) (Or.inl ⟨by rfl, ?_⟩) hHeld ?_
            rotate_left
            · intro W hSw
              have d1 := (Below.cell hSw (cell_lt c1)).trans c1
              have d2 := (Below.cell hSw (cell_lt c2)).trans c2
              go_simp
              first | done | rfl
            try simp only [Act.put, List.setIfInBounds_toArray, List.set_cons_zero, List.set_cons_succ]
            refine wpAnyH_take (i := 10) (oi := { dst := some 59, op := _, type := _, pos := _, after := _, guard := _ }) (v := ?_) rfl (by kernel_rfl) (by kernel_rfl) (by kernel_rfl) (fun _ _ _ h => h) (Or.inl ⟨by rfl, ?_⟩) hHeld ?_
            rotate_left
            · intro W hSw
              have d1 := (Below.cell hSw (cell_lt c1)).trans c1
              have d2 := (Below.cell hSw (cell_lt c2)).trans c2
              go_simp
              first | done | rfl
            try simp only [Act.put, List.setIfInBounds_toArray, List.set_cons_zero, List.set_cons_succ]
            refine wpAnyH_ready (rs := [11]) (by kernel_rfl) (by simp) ?_
            refine AllReadyH.cons (o := { dst := some 60, op := _, type := _, pos := _, after := _, guard := _ }) rfl (fun K hK => ?_) AllReadyH.nil
            go_simp
            refine (HKP.out).mono ?_
            rintro e w8 ⟨rfl, hJ8, hT8⟩
            have hB8 := hJ8.below
            refine hK.out _ _ hB8 (fun _ => ?_)
            clear hK K
            try simp only [Act.put, List.setIfInBounds_toArray, List.set_cons_zero, List.set_cons_succ]
            refine wpAnyH_take (i := 12) (oi := { dst := some 61, op := _, type := _, pos := _, after := _, guard := _ }) (v := ?_) rfl (by kernel_rfl) (by kernel_rfl) (by kernel_rfl) (fun _ _ _ h => h) (Or.inl ⟨by rfl, ?_⟩) hB8 ?_
            rotate_left
            · intro W hSw
              have d1 := (Below.cell hSw (cell_lt c1)).trans c1
              have d2 := (Below.cell hSw (cell_lt c2)).trans c2
              go_simp
              first | done | rfl
            try simp only [Act.put, List.setIfInBounds_toArray, List.set_cons_zero, List.set_cons_succ]
            refine wpAnyH_take (i := 13) (oi := { dst := some 62, op := _, type := _, pos := _, after := _, guard := _ }) (v := ?_) rfl (by kernel_rfl) (by kernel_rfl) (by kernel_rfl) (fun _ _ _ h => h) (Or.inl ⟨by rfl, ?_⟩) hB8 ?_
            rotate_left
            · intro W hSw
              have d1 := (Below.cell hSw (cell_lt c1)).trans c1
              have d2 := (Below.cell hSw (cell_lt c2)).trans c2
              go_simp
              first | done | rfl
            try simp only [Act.put, List.setIfInBounds_toArray, List.set_cons_zero, List.set_cons_succ]
            refine wpAnyH_take (i := 14) (oi := { dst := some 63, op := _, type := _, pos := _, after := _, guard := _ }) (v := ?_) rfl (by kernel_rfl) (by kernel_rfl) (by kernel_rfl) (fun _ _ _ h => h) (Or.inl ⟨by rfl, ?_⟩) hB8 ?_
            rotate_left
            · intro W hSw
              have d1 := (Below.cell hSw (cell_lt c1)).trans c1
              have d2 := (Below.cell hSw (cell_lt c2)).trans c2
              go_simp
              first | done | rfl
            try simp only [Act.put, List.setIfInBounds_toArray, List.set_cons_zero, List.set_cons_succ]
            refine wpAnyH_take (i := 15) (oi := { dst := some 64, op := _, type := _, pos := _, after := _, guard := _ }) (v := ?_) rfl (by kernel_rfl) (by kernel_rfl) (by kernel_rfl) (fun _ _ _ h => h) (Or.inl ⟨by rfl, ?_⟩) hB8 ?_
            rotate_left
            · intro W hSw
              have d1 := (Below.cell hSw (cell_lt c1)).trans c1
              have d2 := (Below.cell hSw (cell_lt c2)).trans c2
              go_simp
              first | done | rfl
            try simp only [Act.put, List.setIfInBounds_toArray, List.set_cons_zero, List.set_cons_succ]
            refine wpAnyH_take (i := 19) (oi := { dst := some 68, op := _, type := _, pos := _, after := _, guard := _ }) (v := ?_) rfl (by kernel_rfl) (by kernel_rfl) (by kernel_rfl) (fun _ _ _ h => h) (Or.inl ⟨by rfl, ?_⟩) hB8 ?_
            rotate_left
            · intro W hSw
              have d1 := (Below.cell hSw (cell_lt c1)).trans c1
              have d2 := (Below.cell hSw (cell_lt c2)).trans c2
              go_simp
              first | done | rfl
            try simp only [Act.put, List.setIfInBounds_toArray, List.set_cons_zero, List.set_cons_succ]
            refine wpAnyH_take (i := 16) (oi := { dst := some 65, op := _, type := _, pos := _, after := _, guard := _ }) (v := ?_) rfl (by kernel_rfl) (by kernel_rfl) (by kernel_rfl) (fun _ _ _ h => h) (Or.inl ⟨by rfl, ?_⟩) hB8 ?_
            rotate_left
            · intro W hSw
              have d1 := (Below.cell hSw (cell_lt c1)).trans c1
              have d2 := (Below.cell hSw (cell_lt c2)).trans c2
              go_simp
              first | done | rfl
            try simp only [Act.put, List.setIfInBounds_toArray, List.set_cons_zero, List.set_cons_succ]
            refine wpAnyH_take (i := 17) (oi := { dst := some 66, op := _, type := _, pos := _, after := _, guard := _ }) (v := ?_) rfl (by kernel_rfl) (by kernel_rfl) (by kernel_rfl) (fun _ _ _ h => h) (Or.inl ⟨by rfl, ?_⟩) hB8 ?_
            rotate_left
            · intro W hSw
              have d1 := (Below.cell hSw (cell_lt c1)).trans c1
              have d2 := (Below.cell hSw (cell_lt c2)).trans c2
              go_simp
              first | done | rfl
            try simp only [Act.put, List.setIfInBounds_toArray, List.set_cons_zero, List.set_cons_succ]
            refine wpAnyH_take (i := 18) (oi := { dst := some 67, op := _, type := _, pos := _, after := _, guard := _ }) (v := ?_) rfl (by kernel_rfl) (by kernel_rfl) (by kernel_rfl) (fun _ _ _ h => h) (Or.inl ⟨by rfl, ?_⟩) hB8 ?_
            rotate_left
            · intro W hSw
              have d1 := (Below.cell hSw (cell_lt c1)).trans c1
              have d2 := (Below.cell hSw (cell_lt c2)).trans c2
              go_simp
              first | done | rfl
            try simp only [Act.put, List.setIfInBounds_toArray, List.set_cons_zero, List.set_cons_succ]
            refine wpAnyH_take (i := 20) (oi := { dst := some 69, op := _, type := _, pos := _, after := _, guard := _ }) (v := ?_) rfl (by kernel_rfl) (by kernel_rfl) (by kernel_rfl) (fun _ _ _ h => h) (Or.inl ⟨by rfl, ?_⟩) hB8 ?_
            rotate_left
            · intro W hSw
              have d1 := (Below.cell hSw (cell_lt c1)).trans c1
              have d2 := (Below.cell hSw (cell_lt c2)).trans c2
              go_simp
              first | done | rfl
            try simp only [Act.put, List.setIfInBounds_toArray, List.set_cons_zero, List.set_cons_succ]
            refine wpAnyH_take (i := 21) (oi := { dst := some 70, op := _, type := _, pos := _, after := _, guard := _ }) (v := ?_) rfl (by kernel_rfl) (by kernel_rfl) (by kernel_rfl) (fun _ _ _ h => h) (Or.inl ⟨by rfl, ?_⟩) hB8 ?_
            rotate_left
            · intro W hSw
              have d1 := (Below.cell hSw (cell_lt c1)).trans c1
              have d2 := (Below.cell hSw (cell_lt c2)).trans c2
              go_simp
              first | done | rfl
            try simp only [Act.put, List.setIfInBounds_toArray, List.set_cons_zero, List.set_cons_succ]
            refine wpAnyH_done (by kernel_rfl) ?_ _
            refine NoPanic.normal ?_
            go_wp2_with fail
            go_roundw
            case rel => exact ⟨j + 1, by omega, by omega, by go_num, k2, l2, _, s, rfl, HF.out.1, HDK.out, hJ8⟩
            case measure => simp [intOf]; omega
        · have he' : (ev == 0) = false := by simp [he]
          rw [if_neg (fun h => he h.1)] at HDK
          clear he
          go_wp2_with fail
          refine wp_region_noPanic ?_
          refine wp_region_held_drew (S := fun W => Below w.heap.size w W) (by kernel_rfl) (show Below w.heap.size w wr.drew from HJ.out.below.drew) (fun hHeld => ?_)
          have hBd : JP w (fun _ => False) wr.drew g cN who k l := HJ.out.later ⟨rfl, rfl, rfl, Nat.le_refl _, fun _ _ => rfl⟩
          have HKP := Lib.hid (jp_keep HS.out (fun q h => h.elim) hBd y z)
          rw [hev, ← hk2e, ← hl2e] at HKP
          generalize wr.drew = w7 at *
          refine wpAnyH_take (i := 0) (oi := { dst := some 49, op := _, type := _, pos := _, after := _, guard := _ }) (v := ?_) rfl (by kernel_rfl) (by kernel_rfl) (by kernel_rfl) (fun _ _ _ h => h) (Or.inl ⟨by rfl, ?_⟩) hHeld ?_
          rotate_left
          · intro W hSw
            have d1 := (Below.cell hSw (cell_lt c1)).trans c1
            have d2 := (Below.cell hSw (cell_lt c2)).trans c2
            go_simp
            first | done | rfl
          try simp only [Act.put, List.setIfInBounds_toArray, List.set_cons_zero, List.set_cons_succ]
          refine wpAnyH_take (i := 1) (oi := { dst := some 50, op := _, type := _, pos := _, after := _, guard := _ }) (v := ?_) rfl (by kernel_rfl) (by kernel_rfl) (by kernel_rfl) (fun _ _ _ h => h) (Or.inl ⟨by rfl, ?_⟩) hHeld ?_
          rotate_left
          · intro W hSw
            have d1 := (Below.cell hSw (cell_lt c1)).trans c1
            have d2 := (Below.cell hSw (cell_lt c2)).trans c2
            go_simp
            first | done | rfl
          try simp only [Act.put, List.setIfInBounds_toArray, List.set_cons_zero, List.set_cons_succ]
          refine wpAnyH_take (i := 2) (oi := { dst := some 51, op := _, type := _, pos := _, after := _, guard := _ }) (v := ?_) rfl (by kernel_rfl) (by kernel_rfl) (by kernel_rfl) (fun _ _ _ h => h) (Or.inl ⟨by rfl, ?_⟩) hHeld ?_
          rotate_left
          · intro W hSw
            have d1 := (Below.cell hSw (cell_lt c1)).trans c1
            have d2 := (Below.cell hSw (cell_lt c2)).trans c2
            go_simp
            first | done | rfl
          try simp only [Act.put, List.setIfInBounds_toArray, List.set_cons_zero, List.set_cons_succ]
          refine wpAnyH_take (i := 6) (oi := { dst := some 55, op := _, type := _, pos := _, after := _, guard := _ }) (v := ?_) rfl (by kernel_rfl) (by kernel_rfl) (by kernel_rfl) (fun _ _ _ h => h) (Or.inl ⟨by rfl, ?_⟩) hHeld ?_
          rotate_left
          · intro W hSw
            have d1 := (Below.cell hSw (cell_lt c1)).trans c1
            have d2 := (Below.cell hSw (cell_lt c2)).trans c2
            go_simp
            first | done | rfl
          try simp only [Act.put, List.setIfInBounds_toArray, List.set_cons_zero, List.set_cons_succ]
          refine wpAnyH_take (i := 7) (oi := { dst := some 56, op := _, type := _, pos := _, after := _, guard := _ }) (v := ?_) rfl (by kernel_rfl) (by kernel_rfl) (by kernel_rfl) (fun _ _ _ h => h) (Or.inl ⟨by rfl, ?_⟩) hHeld ?_
          rotate_left
          · intro W hSw
            have d1 := (Below.cell hSw (cell_lt c1)).trans c1
            have d2 := (Below.cell hSw (cell_lt c2)).trans c2
            go_simp
            first | done | rfl
          try simp only [Act.put, List.setIfInBounds_toArray, List.set_cons_zero, List.set_cons_succ]
          refine wpAnyH_take (i := 3) (oi := { dst := some 52, op := _, type := _, pos := _, after := _, guard := _ }) (v := ?_) rfl (by kernel_rfl) (by kernel_rfl) (by kernel_rfl) (fun _ _ _ h => h) (Or.inl ⟨by rfl, ?_⟩) hHeld ?_
          rotate_left
          · intro W hSw
            have d1 := (Below.cell hSw (cell_lt c1)).trans c1
            have d2 := (Below.cell hSw (cell_lt c2)).trans c2
            go_simp
            first | done | rfl
          try simp only [Act.put, List.setIfInBounds_toArray, List.set_cons_zero, List.set_cons_succ]
          refine wpAnyH_take (i := 8) (oi := { dst := some 57, op := _, type := _, pos := _, after := _, guard := _ }) (v := ?_) rfl (by kernel_rfl) (by kernel_rfl) (by kernel_rfl) (fun _ _ _ h => h) (Or.inl ⟨by rfl, ?_⟩) hHeld ?_
          rotate_left
          · intro W hSw
            have d1 := (Below.cell hSw (cell_lt c1)).trans c1
            have d2 := (Below.cell hSw (cell_lt c2)).trans c2
            go_simp
            first | done | rfl
          try simp only [Act.put, List.setIfInBounds_toArray, List.set_cons_zero, List.set_cons_succ]
          refine wpAnyH_take (i := 4) (oi := { dst := some 53, op := _, type := _, pos := _, after := _, guard := _ }) (v := ?_) rfl (by kernel_rfl) (by kernel_rfl) (by kernel_rfl) (fun _ _ _ h => h) (Or.inl ⟨by rfl, ?_⟩) hHeld ?_
          rotate_left
          · intro W hSw
            have d1 := (Below.cell hSw (cell_lt c1)).trans c1
            have d2 := (Below.cell hSw (cell_lt c2)).trans c2
            go_simp
            first | done | rfl
          try simp only [Act.put, List.setIfInBounds_toArray, List.set_cons_zero, List.set_cons_succ]
          refine wpAnyH_take (i := 9) (oi := { dst := some 58, op := _, type := _, pos := _, after := _, guard := _ }) (v := ?_) rfl (by kernel_rfl) (by kernel_rfl) (by kernel_rfl) (fun _ _ _ h => h) (Or.inl ⟨by rfl, ?_⟩) hHeld ?_
          rotate_left
          · intro W hSw
            have d1 := (Below.cell hSw (cell_lt c1)).trans c1
            have d2 := (Below.cell hSw (cell_lt c2)).trans c2
            go_simp
            first | done | rfl
          try simp only [Act.put, List.setIfInBounds_toArray, List.set_cons_zero, List.set_cons_succ]
          refine wpAnyH_take (i := 5) (oi := { dst := some 54, op := _, type := _, pos := _, after := _, guard := _ }) (v := ?_) rfl (by kernel_rfl) (by kernel_rfl) (by kernel_rfl) (fun _ _ _ h => h) (Or.inl ⟨by rfl, ?_⟩) hHeld ?_
          rotate_left
          · intro W hSw
            have d1 := (Below.cell hSw (cell_lt c1)).trans c1
            have d2 := (Below.cell hSw (cell_lt c2)).trans c2
            go_simp
            first | done | rfl
          try simp only [Act.put, List.setIfInBounds_toArray, List.set_cons_zero, List.set_cons_succ]
          refine wpAnyH_take (i := 10) (oi := { dst := some 59, op := _, type := _, pos := _, after := _, guard := _ }) (v := ?_) rfl (by kernel_rfl) (by kernel_rfl) (by kernel_rfl) (fun _ _ _ h => h) (Or.inl ⟨by rfl, ?_⟩) hHeld ?_
          rotate_left
          · intro W hSw
            have d1 := (Below.cell hSw (cell_lt c1)).trans c1
            have d2 := (Below.cell hSw (cell_lt c2)).trans c2
            go_simp
            first | done | rfl
          try simp only [Act.put, List.setIfInBounds_toArray, List.set_cons_zero, List.set_cons_succ]
          refine wpAnyH_ready (rs := [11]) (by kernel_rfl) (by simp) ?_
          refine AllReadyH.cons (o := { dst := some 60, op := _, type := _, pos := _, after := _, guard := _ }) rfl (fun K hK => ?_) AllReadyH.nil
          go_simp
          refine (HKP.out).mono ?_
          rintro e w8 ⟨rfl, hJ8, hT8⟩
          have hB8 := hJ8.below
          refine hK.out _ _ hB8 (fun _ => ?_)
          clear hK K
          try simp only [Act.put, List.setIfInBounds_toArray, List.set_cons_zero, List.set_cons_succ]
          refine wpAnyH_take (i := 12) (oi := { dst := some 61, op := _, type := _, pos := _, after := _, guard := _ }) (v := ?_) rfl (by kernel_rfl) (by kernel_rfl) (by kernel_rfl) (fun _ _ _ h => h) (Or.inl ⟨by rfl, ?_⟩) hB8 ?_
          rotate_left
          · intro W hSw
            have d1 := (Below.cell hSw (cell_lt c1)).trans c1
            have d2 := (Below.cell hSw (cell_lt c2)).trans c2
            go_simp
            first | done | rfl
          try simp only [Act.put, List.setIfInBounds_toArray, List.set_cons_zero, List.set_cons_succ]
          refine wpAnyH_take (i := 13) (oi := { dst := some 62, op := _, type := _, pos := _, after := _, guard := _ }) (v := ?_) rfl (by kernel_rfl) (by kernel_rfl) (by kernel_rfl) (fun _ _ _ h => h) (Or.inl ⟨by rfl, ?_⟩) hB8 ?_
          rotate_left
          · intro W hSw
            have d1 := (Below.cell hSw (cell_lt c1)).trans c1
            have d2 := (Below.cell hSw (cell_lt c2)).trans c2
            go_simp
            first | done | rfl
          try simp only [Act.put, List.setIfInBounds_toArray, List.set_cons_zero, List.set_cons_succ]
          refine wpAnyH_take (i := 14) (oi := { dst := some 63, op := _, type := _, pos := _, after := _, guard := _ }) (v := undef) rfl (by kernel_rfl) (by kernel_rfl) (by kernel_rfl) (fun _ _ _ h => h) (Or.inr ⟨by rfl, rfl⟩) hB8 ?_
          try simp only [Act.put, List.setIfInBounds_toArray, List.set_cons_zero, List.set_cons_succ]
          refine wpAnyH_take (i := 15) (oi := { dst := some 64, op := _, type := _, pos := _, after := _, guard := _ }) (v := undef) rfl (by kernel_rfl) (by kernel_rfl) (by kernel_rfl) (fun _ _ _ h => h) (Or.inr ⟨by rfl, rfl⟩) hB8 ?_
          try simp only [Act.put, List.setIfInBounds_toArray, List.set_cons_zero, List.set_cons_succ]
          refine wpAnyH_take (i := 19) (oi := { dst := some 68, op := _, type := _, pos := _, after := _, guard := _ }) (v := undef) rfl (by kernel_rfl) (by kernel_rfl) (by kernel_rfl) (fun _ _ _ h => h) (Or.inr ⟨by rfl, rfl⟩) hB8 ?_
          try simp only [Act.put, List.setIfInBounds_toArray, List.set_cons_zero, List.set_cons_succ]
          refine wpAnyH_take (i := 16) (oi := { dst := some 65, op := _, type := _, pos := _, after := _, guard := _ }) (v := undef) rfl (by kernel_rfl) (by kernel_rfl) (by kernel_rfl) (fun _ _ _ h => h) (Or.inr ⟨by rfl, rfl⟩) hB8 ?_
          try simp only [Act.put, List.setIfInBounds_toArray, List.set_cons_zero, List.set_cons_succ]
          refine wpAnyH_take (i := 17) (oi := { dst := some 66, op := _, type := _, pos := _, after := _, guard := _ }) (v := undef) rfl (by kernel_rfl) (by kernel_rfl) (by kernel_rfl) (fun _ _ _ h => h) (Or.inr ⟨by rfl, rfl⟩) hB8 ?_
          try simp only [Act.put, List.setIfInBounds_toArray, List.set_cons_zero, List.set_cons_succ]
          refine wpAnyH_take (i := 18) (oi := { dst := some 67, op := _, type := _, pos := _, after := _, guard := _ }) (v := undef) rfl (by kernel_rfl) (by kernel_rfl) (by kernel_rfl) (fun _ _ _ h => h) (Or.inr ⟨by rfl, rfl⟩) hB8 ?_
          try simp only [Act.put, List.setIfInBounds_toArray, List.set_cons_zero, List.set_cons_succ]
          refine wpAnyH_take (i := 20) (oi := { dst := some 69, op := _, type := _, pos := _, after := _, guard := _ }) (v := undef) rfl (by kernel_rfl) (by kernel_rfl) (by kernel_rfl) (fun _ _ _ h => h) (Or.inr ⟨by rfl, rfl⟩) hB8 ?_
          try simp only [Act.put, List.setIfInBounds_toArray, List.set_cons_zero, List.set_cons_succ]
          refine wpAnyH_take (i := 21) (oi := { dst := some 70, op := _, type := _, pos := _, after := _, guard := _ }) (v := ?_) rfl (by kernel_rfl) (by kernel_rfl) (by kernel_rfl) (fun _ _ _ h => h) (Or.inl ⟨by rfl, ?_⟩) hB8 ?_
          rotate_left
          · intro W hSw
            have d1 := (Below.cell hSw (cell_lt c1)).trans c1
            have d2 := (Below.cell hSw (cell_lt c2)).trans c2
            go_simp
            first | done | rfl
          try simp only [Act.put, List.setIfInBounds_toArray, List.set_cons_zero, List.set_cons_succ]
          refine wpAnyH_done (by kernel_rfl) ?_ _
          refine NoPanic.normal ?_
          go_wp2_with fail
          go_roundw
          case rel => exact ⟨j + 1, by omega, by omega, by go_num, k2, l2, _, s, rfl, HF.out.1, HDK.out, hJ8⟩
          case measure => simp [intOf]; omega
    · have HX : Hid (j = n ∨ (j < n ∧ j = 80)) := Lib.hid (by omega)
      clear hlt
      have hgo : Hid (Calls Try.prog 40 #[.pointer (some ⟨g, 0, none⟩), .int .i64 op] wr fun e w' => ∃ v, e = .returned v ∧ Read1 w' v (dueL cN k l op) ∧ Below wr.heap.size wr w') := Lib.hid (jp_due HS.out wr op HJ.out)
      have hCM := Lib.hid (jp_commit (w0 := w) (X := fun _ => False) (g := g) (cN := cN) (who := who) (k := k) (l := l))
      have hHE := Lib.hid (jp_head (w0 := w) (X := fun _ => False) (g := g) HS.out)
      have hk0 := HS.out.k0
      have hk1 := HS.out.k1
      obtain ⟨ln, hln⟩ : ∃ ln, ln = l.length := ⟨_, rfl⟩
      rw [← hln] at hk1 hHE
      have hlast := Lib.hid (fun h => HD.out.last HS.out h)
      have hlastn := Lib.hid (show ¬ (k < op ∧ op ≤ k + l.length) → dueL cN k l op = [] from fun h => if_neg h)
      rw [← hln] at hlast hlastn
      have HC5 := HS.out.five
      clear hln HD HS HROW
      have hbr : (¬ j < n) ∨ (j < n ∧ ¬ j < 80) := by have := HX.out; omega
      clear HX
      rcases hbr with q1 | ⟨q1, q2⟩
      all_goals
        go_wp2_with fail
        refine (hgo.out).mono ?_
        rintro e w4 ⟨v, rfl, hR, hb4⟩
        have HJ4 := Lib.hid (HJ.out.later hb4)
        clear hb4 hgo
        obtain ⟨xv, capv, rfl, hRC⟩ := hR
        obtain ⟨D, hD⟩ : ∃ D, D = dueL cN k l op := ⟨_, rfl⟩
        rw [← hD] at hRC hlast hlastn ⊢
        have hDn : D.length ≤ 5 := by rw [hD]; exact Nat.le_trans (dueL_len cN k l op) HC5
        have HDE := Lib.hid hD
        clear hD
        obtain ⟨dn, hdn⟩ : ∃ dn, dn = D.length := ⟨_, rfl⟩
        rw [← hdn] at hDn ⊢
        have HDN := Lib.hid hdn
        clear hdn
        by_cases p1 : op ≤ k
        · have HE : Hid (dn = 0) := Lib.hid (by rw [HDN.out, hlastn.out (fun h => by omega)]; rfl)
          go_wp2_with (first | (go_at_call 38; refine (hCM.out _ HJ4.out).mono ?_; rintro e w' ⟨rfl, m, rfl⟩) | (go_at_call 39; refine (hHE.out _ (HJ4.out.drewN _)).mono ?_; rintro e w' ⟨rfl, m2, rfl⟩))
          go_ret
          exact ⟨ret_bool (by rw [HE.out]; rfl), Below.drewN' HJ4.out.below _⟩
        · by_cases p2 : k + (ln : Int) < op
          · have HE : Hid (dn = 0) := Lib.hid (by rw [HDN.out, hlastn.out (fun h => by omega)]; rfl)
            go_wp2_with (first | (go_at_call 38; refine (hCM.out _ HJ4.out).mono ?_; rintro e w' ⟨rfl, m, rfl⟩) | (go_at_call 39; refine (hHE.out _ (HJ4.out.drewN _)).mono ?_; rintro e w' ⟨rfl, m2, rfl⟩))
            go_ret
            exact ⟨ret_bool (by rw [HE.out]; rfl), Below.drewN' HJ4.out.below _⟩
          · have HL := Lib.hid (hlast.out ⟨by omega, by omega⟩)
            go_wp2_with (first | (go_at_call 38; refine (hCM.out _ HJ4.out).mono ?_; rintro e w' ⟨rfl, m, rfl⟩) | (go_at_call 39; refine (hHE.out _ (HJ4.out.drewN _)).mono ?_; rintro e w' ⟨rfl, m2, rfl⟩))
            have hbY : Hid (∀ m, Below w.heap.size w (w4.drewN m)) := Lib.hid (fun m => Below.drewN' HJ4.out.below m)
            have hRY : ∀ (i : Nat) (a : Int), D[i]? = some a → ∃ b off, xv = some ⟨b, off, none⟩ ∧ w4.cell? ⟨b, off + i, none⟩ = some (.int .i64 a) := hRC
            clear hRC hCM hHE hlast hlastn HJ4 HJ hk0 hk1
            generalize m + m2 = m3
            go_loopw [16] (fun iv wr2 => ∃ i : Nat, i ≤ dn ∧ iv = .int .i64 i ∧ ∃ m, wr2 = w4.drewN m) (fun iv _ => dn - (intOf iv).toNat)
            case atStart => exact ⟨0, by omega, rfl, _, rfl⟩
            case round =>
              obtain ⟨i, hi, rfl, m4, rfl⟩ := hrel
              by_cases hlt : i < dn
              · obtain ⟨p, hp⟩ : ∃ p, D[i]? = some p := ⟨D[i]'(by rw [← HDN.out]; exact hlt), List.getElem?_eq_getElem _⟩
                have hpm := Pip.due_mem (Quo.has s) cN p (by rw [← HL.out.1]; exact List.mem_of_getElem? hp)
                obtain ⟨bx, ox, rfl, hc1⟩ := hRY i p hp
                have HH : Hid (∀ w, Calls Try.prog 22 #[.int .i64 (s : Int), .int .i64 p] w fun e w' => e = .returned (.bool false) ∧ w = w') := Lib.hid (fun w => by
                  have := HHS.out s p w hs32 (by omega)
                  rwa [hpm.1] at this)
                cases i with
                | zero =>
                  rw [Nat.add_zero] at hc1
                  clear hp hpm hRY
                  go_wp2_with fail
                  go_quiet (first | (go_at_call 22; refine (HH.out _).mono ?_; rintro e w' ⟨rfl, rfl⟩; exact ⟨rfl, _, rfl⟩))
                  go_wp2_with fail
                  go_roundw
                  case rel => exact ⟨1, by omega, by go_num, _, rfl⟩
                  case measure => simp [intOf]; omega
                | succ q =>
                  obtain ⟨p0, hp0⟩ : ∃ p, D[q]? = some p := ⟨D[q]'(by rw [← HDN.out]; omega), List.getElem?_eq_getElem _⟩
                  have hpp := Pip.due_sorted (Quo.has s) cN q p0 p (by rw [← HL.out.1]; exact hp0) (by rw [← HL.out.1]; exact hp)
                  obtain ⟨bx2, ox2, hxx, hc2⟩ := hRY q p0 hp0
                  injection hxx with hxx
                  injection hxx with hx1 hx2
                  subst hx1 hx2
                  have hpn : ¬ p ≤ p0 := by omega
                  clear hp hp0 hpm hpp hRY
                  go_wp2_with fail
                  go_quiet (first | (go_at_call 22; refine (HH.out _).mono ?_; rintro e w' ⟨rfl, rfl⟩; exact ⟨rfl, _, rfl⟩))
                  go_wp2_with fail
                  go_roundw
                  case rel => exact ⟨q + 1 + 1, by omega, by go_num, _, rfl⟩
                  case measure => simp [intOf]; omega
              · obtain rfl : i = dn := by omega
                have HE : Hid ((i : Int) + (Quo.size s : Nat) = (cN : Int)) := Lib.hid (by
                  have h2 := HL.out.2
                  have h1 := congrArg List.length HL.out.1
                  have h3 := HDN.out
                  omega)
                have HCW : Hid (wrap64 (cN : Int) = cN) := Lib.hid (IntWalk.wrap64_in _ (by omega))
                clear hlt hRY
                go_wp2_with (go_at_call 24; refine (HSZ.out s _ hs32).mono ?_; rintro e w' ⟨rfl, rfl⟩)
                go_ret
                exact ⟨ret_bool (by rw [HE.out, HCW.out]; simp), hbY.out _⟩
end Go.Proofs.Ytecaahcmebdglaa

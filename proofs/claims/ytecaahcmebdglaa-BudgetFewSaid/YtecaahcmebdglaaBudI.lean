/- The walk of BudgetReads. -/
import Derived.Test.YtecaahcmebdglaaBudH
import Derived.Test.YtecaahcmebdglaaSlS
namespace Go.Proofs.Ytecaahcmebdglaa
open Go.RowKit
set_option linter.unusedVariables false
theorem steps_of {w : World} {ad : Option Addr} {L : List (List Value)} (h : RowsAt w ad 9 L) (ht : ∀ r ∈ L, ∃ (c0 : Int) (c1 : Int) (c2 : Int) (c3 : Int) (c4 : Int) (c5 : Int) (c6 : Int) (c7 : ByteArray) (c8 : Option Addr) (d8 : Nat) (g8 : Nat), r = [.int .i64 c0, .int .i64 c1, .int .i64 c2, .int .i64 c3, .int .i64 c4, .int .i64 c5, .int .i64 c6, .string c7, .slice c8 d8 g8] ∧ (-9223372036854775808 ≤ c0 ∧ c0 ≤ 9223372036854775807) ∧ (-9223372036854775808 ≤ c1 ∧ c1 ≤ 9223372036854775807) ∧ (-9223372036854775808 ≤ c2 ∧ c2 ≤ 9223372036854775807) ∧ (-9223372036854775808 ≤ c3 ∧ c3 ≤ 9223372036854775807) ∧ (-9223372036854775808 ≤ c4 ∧ c4 ≤ 9223372036854775807) ∧ (-9223372036854775808 ≤ c5 ∧ c5 ≤ 9223372036854775807) ∧ (-9223372036854775808 ≤ c6 ∧ c6 ≤ 9223372036854775807)) :
    ∃ l : List Bst, l.length = L.length ∧ StepsAt w ad l := by
  have hb : ∀ r ∈ L, ∃ x : Bst, r = x.row := by
    intro r hr
    obtain ⟨c0, c1, c2, c3, c4, c5, c6, c7, c8, d8, g8, rfl, _⟩ := ht r hr
    exact ⟨⟨c0, c1, c2, c3, c4, c5, c6, c7, c8, d8, g8⟩, rfl⟩
  obtain ⟨l, hl⟩ : ∃ l : List Bst, L = l.map Bst.row := by
    clear h ht
    induction L with
    | nil => exact ⟨[], rfl⟩
    | cons r L ih =>
      obtain ⟨l, hl⟩ := ih (fun x hx => hb x (List.mem_cons_of_mem _ hx))
      obtain ⟨x, hx⟩ := hb r (List.mem_cons_self ..)
      exact ⟨x :: l, by rw [hl, hx, List.map_cons]⟩
  subst hl
  refine ⟨l, by simp, fun i x hx => ?_⟩
  have hlen : i < l.length := (List.getElem?_eq_some_iff.1 hx).1
  have hg : (l.map Bst.row)[i]? = some x.row := by rw [List.getElem?_map, hx]; rfl
  cases ad with
  | none =>
    have := h.1 rfl
    rw [List.map_eq_nil_iff] at this
    subst this
    simp at hlen
  | some a =>
    obtain ⟨b, off, spot⟩ := a
    have hsp : spot = none := by
      have hg0 : (l.map Bst.row)[0]? = some (l[0]'(by omega)).row := by rw [List.getElem?_map, List.getElem?_eq_getElem (by omega)]; rfl
      have h0 := h.2 _ rfl 0 _ hg0 0 _ rfl
      cases spot with
      | none => rfl
      | some q =>
        simp [Addr.add, World.cell?] at h0
        split at h0 <;> simp at h0
    subst hsp
    have hadd : ∀ j, (⟨b, off, none⟩ : Addr).add j = ⟨b, off + j, none⟩ := by intro j; unfold Addr.add; split <;> simp_all
    have hc : ∀ (j : Nat) (u : Value), x.row[j]? = some u → w.cell? ⟨b, off + i * 9 + j, none⟩ = some u := fun j u hu => by
      have := h.2 _ rfl i _ hg j u hu
      rw [hadd] at this
      rw [Nat.add_assoc]
      exact this
    exact ⟨b, off, rfl, cell_lt (hc 0 _ rfl), hc⟩
theorem StepsAt.take {w : World} {ad : Option Addr} {l : List Bst} (h : StepsAt w ad l) (m : Nat) : StepsAt w ad (l.take m) := by
  intro i x hx
  refine h i x ?_
  rw [List.getElem?_take] at hx
  split at hx
  · exact hx
  · cases hx
theorem StepsAt.ad {w : World} {l : List Bst} (h : StepsAt w none l) : l = [] := by
  cases l with
  | nil => rfl
  | cons x l =>
    obtain ⟨b, off, h1, _⟩ := h 0 x rfl
    cases h1

set_option maxHeartbeats 8000000 in
set_option maxRecDepth 100000 in
theorem breads_core (w : World) (r c : Int) (ad : Option Addr) (cap : Nat) (l : List Bst) (hl : StepsAt w ad l) (hc : l.length ≤ cap) (hm : cap ≤ maxLen) :
    Calls Try.prog 8 #[.agg #[.int .i64 r, .int .i64 c], .slice ad l.length cap] w fun e w' => e = .returned (.bool true) ∧ Below w.heap.size w w' := by
  obtain ⟨L, hL⟩ : ∃ L, L = l.take 300 := ⟨_, rfl⟩
  have hlen : L.length = min l.length 300 := by rw [hL, List.length_take]; omega
  have HST : Hid (StepsAt w ad L) := Lib.hid (by rw [hL]; exact hl.take 300)
  obtain ⟨n, hn⟩ : ∃ n, n = l.length := ⟨_, rfl⟩
  rw [← hn] at hc hlen ⊢
  obtain ⟨k, hk⟩ : ∃ k, k = L.length := ⟨_, rfl⟩
  have HN : Hid (L.length ≤ 1000) := Lib.hid (by omega)
  have HC : Hid (L.length ≤ cap) := Lib.hid (by omega)
  obtain ⟨bw, hbw⟩ : ∃ b, b = Bud.within r c L := ⟨_, rfl⟩
  obtain ⟨br, hbr⟩ : ∃ b, b = Bud.rots r c L := ⟨_, rfl⟩
  obtain ⟨bg, hbg⟩ : ∃ b, b = Bud.grid r c L := ⟨_, rfl⟩
  have H0 : Hid (∀ W, Bs w W r c → Calls Try.prog 27 #[.agg #[.int .i64 r, .int .i64 c], .slice ad k cap] W fun e w' => e = .returned (.bool bw) ∧ Below W.heap.size W w') := Lib.hid (fun W hB => by rw [hk, hbw]; exact bwithin_any r c ad cap L W (HST.out.later hB.1) HN.out HC.out)
  have H1 : Hid (∀ W, Bs w W r c → Calls Try.prog 28 #[.agg #[.int .i64 r, .int .i64 c], .slice ad k cap] W fun e w' => e = .returned (.bool bw) ∧ Below W.heap.size W w') := Lib.hid (fun W hB => by rw [hk, hbw]; exact rwithin_any r c ad cap L W (HST.out.later hB.1) HN.out HC.out)
  have H2 : Hid (∀ W, Bs w W r c → Calls Try.prog 29 #[.agg #[.int .i64 r, .int .i64 c], .slice ad k cap] W fun e w' => e = .returned (.bool br) ∧ Below W.heap.size W w') := Lib.hid (fun W hB => by rw [hk, hbr]; exact brots_any r c ad cap L W (HST.out.later hB.1) HN.out HC.out)
  have H3 : Hid (∀ W, Bs w W r c → Calls Try.prog 30 #[.agg #[.int .i64 r, .int .i64 c], .slice ad k cap] W fun e w' => e = .returned (.bool br) ∧ Below W.heap.size W w') := Lib.hid (fun W hB => by rw [hk, hbr]; exact rrots_any r c ad cap L W (HST.out.later hB.1) HN.out HC.out)
  have H4 : Hid (∀ W, Bs w W r c → Calls Try.prog 31 #[.agg #[.int .i64 r, .int .i64 c], .slice ad k cap] W fun e w' => e = .returned (.bool bg) ∧ Below W.heap.size W w') := Lib.hid (fun W hB => by rw [hk, hbg]; exact bgrid_any r c ad cap L W (HST.out.later hB.1) HN.out HC.out)
  have H5 : Hid (∀ W, Bs w W r c → Calls Try.prog 32 #[.agg #[.int .i64 r, .int .i64 c], .slice ad k cap] W fun e w' => e = .returned (.bool bg) ∧ Below W.heap.size W w') := Lib.hid (fun W hB => by rw [hk, hbg]; exact rgrid_any r c ad cap L W (HST.out.later hB.1) HN.out HC.out)
  have hK2 : (n ≤ 300 ∧ k = n) ∨ (¬ (n : Int) ≤ 300 ∧ k = 300 ∧ 300 ≤ cap) := by omega
  clear hL hl hn hk HST HN HC hbw hbr hbg hlen
  rcases hK2 with ⟨h300, rfl⟩ | ⟨h300, rfl, h300b⟩
  · have h300i : (k : Int) ≤ 300 := by omega
    clear h300
    go_enter Try.func8, Try.ntmps8
    go_wp2_with fail
    refine (awake25_any _).mono ?_
    rintro e w1 ⟨rfl, hb1⟩
    have hS0 : Bs w w1 r c := (Bs.start w r c _).later hb1
    clear hb1
    go_wp2_with fail
    refine wp_region_noPanic ?_
    refine wp_region_held_drew (S := fun W => Bs w W r c) (by kernel_rfl) hS0.drew (fun hHeld => ?_)
    generalize w1.drew = w2 at *
    clear hS0
    refine wpAnyH_take (i := 0) (oi := { dst := some 12, op := _, type := _, pos := _, after := _, guard := _ }) (v := ?_) rfl (by kernel_rfl) (by kernel_rfl) (by kernel_rfl) (fun _ _ _ h => h) (Or.inl ⟨by rfl, ?_⟩) hHeld ?_
    rotate_left
    · intro W hSw
      have hSr := hSw.2.2
      go_simp
      first | done | rfl
    try simp only [Act.put, List.setIfInBounds_toArray, List.set_cons_zero, List.set_cons_succ]
    refine wpAnyH_take (i := 1) (oi := { dst := some 13, op := _, type := _, pos := _, after := _, guard := _ }) (v := ?_) rfl (by kernel_rfl) (by kernel_rfl) (by kernel_rfl) (fun _ _ _ h => h) (Or.inl ⟨by rfl, ?_⟩) hHeld ?_
    rotate_left
    · intro W hSw
      have hSr := hSw.2.2
      go_simp
      first | done | rfl
    try simp only [Act.put, List.setIfInBounds_toArray, List.set_cons_zero, List.set_cons_succ]
    refine wpAnyH_take (i := 3) (oi := { dst := some 15, op := _, type := _, pos := _, after := _, guard := _ }) (v := ?_) rfl (by kernel_rfl) (by kernel_rfl) (by kernel_rfl) (fun _ _ _ h => h) (Or.inl ⟨by rfl, ?_⟩) hHeld ?_
    rotate_left
    · intro W hSw
      have hSr := hSw.2.2
      go_simp
      first | done | rfl
    try simp only [Act.put, List.setIfInBounds_toArray, List.set_cons_zero, List.set_cons_succ]
    refine wpAnyH_take (i := 4) (oi := { dst := some 16, op := _, type := _, pos := _, after := _, guard := _ }) (v := ?_) rfl (by kernel_rfl) (by kernel_rfl) (by kernel_rfl) (fun _ _ _ h => h) (Or.inl ⟨by rfl, ?_⟩) hHeld ?_
    rotate_left
    · intro W hSw
      have hSr := hSw.2.2
      go_simp
      first | done | rfl
    try simp only [Act.put, List.setIfInBounds_toArray, List.set_cons_zero, List.set_cons_succ]
    refine wpAnyH_ready (rs := [2]) (by kernel_rfl) (by simp) ?_
    refine AllReadyH.cons (o := { dst := some 14, op := _, type := _, pos := _, after := _, guard := _ }) rfl (fun K hK => ?_) AllReadyH.nil
    go_simp
    refine (H0.out _ hHeld).mono ?_
    rintro e wx2 ⟨rfl, hb2⟩
    have hS2 : Bs w wx2 r c := hHeld.later hb2
    clear hb2 hHeld
    refine hK.out _ _ hS2 (fun _ => ?_)
    clear hK K
    try simp only [Act.put, List.setIfInBounds_toArray, List.set_cons_zero, List.set_cons_succ]
    refine wpAnyH_ready (rs := [5]) (by kernel_rfl) (by simp) ?_
    refine AllReadyH.cons (o := { dst := some 17, op := _, type := _, pos := _, after := _, guard := _ }) rfl (fun K hK => ?_) AllReadyH.nil
    go_simp
    refine (H1.out _ hS2).mono ?_
    rintro e wx5 ⟨rfl, hb5⟩
    have hS5 : Bs w wx5 r c := hS2.later hb5
    clear hb5 hS2
    refine hK.out _ _ hS5 (fun _ => ?_)
    clear hK K
    try simp only [Act.put, List.setIfInBounds_toArray, List.set_cons_zero, List.set_cons_succ]
    refine wpAnyH_take (i := 6) (oi := { dst := some 18, op := _, type := _, pos := _, after := _, guard := _ }) (v := ?_) rfl (by kernel_rfl) (by kernel_rfl) (by kernel_rfl) (fun _ _ _ h => h) (Or.inl ⟨by rfl, ?_⟩) hS5 ?_
    rotate_left
    · intro W hSw
      have hSr := hSw.2.2
      go_simp
      first | done | rfl
    try simp only [Act.put, List.setIfInBounds_toArray, List.set_cons_zero, List.set_cons_succ]
    refine wpAnyH_take (i := 7) (oi := { dst := some 19, op := _, type := _, pos := _, after := _, guard := _ }) (v := ?_) rfl (by kernel_rfl) (by kernel_rfl) (by kernel_rfl) (fun _ _ _ h => h) (Or.inl ⟨by rfl, ?_⟩) hS5 ?_
    rotate_left
    · intro W hSw
      have hSr := hSw.2.2
      go_simp
      first | done | rfl
    try simp only [Act.put, List.setIfInBounds_toArray, List.set_cons_zero, List.set_cons_succ]
    refine wpAnyH_take (i := 8) (oi := { dst := some 20, op := _, type := _, pos := _, after := _, guard := _ }) (v := ?_) rfl (by kernel_rfl) (by kernel_rfl) (by kernel_rfl) (fun _ _ _ h => h) (Or.inl ⟨by rfl, ?_⟩) hS5 ?_
    rotate_left
    · intro W hSw
      have hSr := hSw.2.2
      go_simp
      first | done | rfl
    try simp only [Act.put, List.setIfInBounds_toArray, List.set_cons_zero, List.set_cons_succ]
    refine wpAnyH_take (i := 9) (oi := { dst := some 21, op := _, type := _, pos := _, after := _, guard := _ }) (v := ?_) rfl (by kernel_rfl) (by kernel_rfl) (by kernel_rfl) (fun _ _ _ h => h) (Or.inl ⟨by rfl, ?_⟩) hS5 ?_
    rotate_left
    · intro W hSw
      have hSr := hSw.2.2
      go_simp
      first | done | rfl
    try simp only [Act.put, List.setIfInBounds_toArray, List.set_cons_zero, List.set_cons_succ]
    refine wpAnyH_take (i := 11) (oi := { dst := some 23, op := _, type := _, pos := _, after := _, guard := _ }) (v := ?_) rfl (by kernel_rfl) (by kernel_rfl) (by kernel_rfl) (fun _ _ _ h => h) (Or.inl ⟨by rfl, ?_⟩) hS5 ?_
    rotate_left
    · intro W hSw
      have hSr := hSw.2.2
      go_simp
      first | done | rfl
    try simp only [Act.put, List.setIfInBounds_toArray, List.set_cons_zero, List.set_cons_succ]
    refine wpAnyH_take (i := 12) (oi := { dst := some 24, op := _, type := _, pos := _, after := _, guard := _ }) (v := ?_) rfl (by kernel_rfl) (by kernel_rfl) (by kernel_rfl) (fun _ _ _ h => h) (Or.inl ⟨by rfl, ?_⟩) hS5 ?_
    rotate_left
    · intro W hSw
      have hSr := hSw.2.2
      go_simp
      first | done | rfl
    try simp only [Act.put, List.setIfInBounds_toArray, List.set_cons_zero, List.set_cons_succ]
    refine wpAnyH_ready (rs := [10]) (by kernel_rfl) (by simp) ?_
    refine AllReadyH.cons (o := { dst := some 22, op := _, type := _, pos := _, after := _, guard := _ }) rfl (fun K hK => ?_) AllReadyH.nil
    go_simp
    refine (H2.out _ hS5).mono ?_
    rintro e wx10 ⟨rfl, hb10⟩
    have hS10 : Bs w wx10 r c := hS5.later hb10
    clear hb10 hS5
    refine hK.out _ _ hS10 (fun _ => ?_)
    clear hK K
    try simp only [Act.put, List.setIfInBounds_toArray, List.set_cons_zero, List.set_cons_succ]
    refine wpAnyH_ready (rs := [13]) (by kernel_rfl) (by simp) ?_
    refine AllReadyH.cons (o := { dst := some 25, op := _, type := _, pos := _, after := _, guard := _ }) rfl (fun K hK => ?_) AllReadyH.nil
    go_simp
    refine (H3.out _ hS10).mono ?_
    rintro e wx13 ⟨rfl, hb13⟩
    have hS13 : Bs w wx13 r c := hS10.later hb13
    clear hb13 hS10
    refine hK.out _ _ hS13 (fun _ => ?_)
    clear hK K
    try simp only [Act.put, List.setIfInBounds_toArray, List.set_cons_zero, List.set_cons_succ]
    refine wpAnyH_take (i := 14) (oi := { dst := some 26, op := _, type := _, pos := _, after := _, guard := _ }) (v := ?_) rfl (by kernel_rfl) (by kernel_rfl) (by kernel_rfl) (fun _ _ _ h => h) (Or.inl ⟨by rfl, ?_⟩) hS13 ?_
    rotate_left
    · intro W hSw
      have hSr := hSw.2.2
      go_simp
      first | done | rfl
    try simp only [Act.put, List.setIfInBounds_toArray, List.set_cons_zero, List.set_cons_succ]
    refine wpAnyH_take (i := 15) (oi := { dst := some 27, op := _, type := _, pos := _, after := _, guard := _ }) (v := ?_) rfl (by kernel_rfl) (by kernel_rfl) (by kernel_rfl) (fun _ _ _ h => h) (Or.inl ⟨by rfl, ?_⟩) hS13 ?_
    rotate_left
    · intro W hSw
      have hSr := hSw.2.2
      go_simp
      first | done | rfl
    try simp only [Act.put, List.setIfInBounds_toArray, List.set_cons_zero, List.set_cons_succ]
    refine wpAnyH_take (i := 16) (oi := { dst := some 28, op := _, type := _, pos := _, after := _, guard := _ }) (v := ?_) rfl (by kernel_rfl) (by kernel_rfl) (by kernel_rfl) (fun _ _ _ h => h) (Or.inl ⟨by rfl, ?_⟩) hS13 ?_
    rotate_left
    · intro W hSw
      have hSr := hSw.2.2
      go_simp
      first | done | rfl
    try simp only [Act.put, List.setIfInBounds_toArray, List.set_cons_zero, List.set_cons_succ]
    refine wpAnyH_take (i := 17) (oi := { dst := some 29, op := _, type := _, pos := _, after := _, guard := _ }) (v := ?_) rfl (by kernel_rfl) (by kernel_rfl) (by kernel_rfl) (fun _ _ _ h => h) (Or.inl ⟨by rfl, ?_⟩) hS13 ?_
    rotate_left
    · intro W hSw
      have hSr := hSw.2.2
      go_simp
      first | done | rfl
    try simp only [Act.put, List.setIfInBounds_toArray, List.set_cons_zero, List.set_cons_succ]
    refine wpAnyH_take (i := 18) (oi := { dst := some 30, op := _, type := _, pos := _, after := _, guard := _ }) (v := ?_) rfl (by kernel_rfl) (by kernel_rfl) (by kernel_rfl) (fun _ _ _ h => h) (Or.inl ⟨by rfl, ?_⟩) hS13 ?_
    rotate_left
    · intro W hSw
      have hSr := hSw.2.2
      go_simp
      first | done | rfl
    try simp only [Act.put, List.setIfInBounds_toArray, List.set_cons_zero, List.set_cons_succ]
    refine wpAnyH_take (i := 20) (oi := { dst := some 32, op := _, type := _, pos := _, after := _, guard := _ }) (v := ?_) rfl (by kernel_rfl) (by kernel_rfl) (by kernel_rfl) (fun _ _ _ h => h) (Or.inl ⟨by rfl, ?_⟩) hS13 ?_
    rotate_left
    · intro W hSw
      have hSr := hSw.2.2
      go_simp
      first | done | rfl
    try simp only [Act.put, List.setIfInBounds_toArray, List.set_cons_zero, List.set_cons_succ]
    refine wpAnyH_take (i := 21) (oi := { dst := some 33, op := _, type := _, pos := _, after := _, guard := _ }) (v := ?_) rfl (by kernel_rfl) (by kernel_rfl) (by kernel_rfl) (fun _ _ _ h => h) (Or.inl ⟨by rfl, ?_⟩) hS13 ?_
    rotate_left
    · intro W hSw
      have hSr := hSw.2.2
      go_simp
      first | done | rfl
    try simp only [Act.put, List.setIfInBounds_toArray, List.set_cons_zero, List.set_cons_succ]
    refine wpAnyH_ready (rs := [19]) (by kernel_rfl) (by simp) ?_
    refine AllReadyH.cons (o := { dst := some 31, op := _, type := _, pos := _, after := _, guard := _ }) rfl (fun K hK => ?_) AllReadyH.nil
    go_simp
    refine (H4.out _ hS13).mono ?_
    rintro e wx19 ⟨rfl, hb19⟩
    have hS19 : Bs w wx19 r c := hS13.later hb19
    clear hb19 hS13
    refine hK.out _ _ hS19 (fun _ => ?_)
    clear hK K
    try simp only [Act.put, List.setIfInBounds_toArray, List.set_cons_zero, List.set_cons_succ]
    refine wpAnyH_ready (rs := [22]) (by kernel_rfl) (by simp) ?_
    refine AllReadyH.cons (o := { dst := some 34, op := _, type := _, pos := _, after := _, guard := _ }) rfl (fun K hK => ?_) AllReadyH.nil
    go_simp
    refine (H5.out _ hS19).mono ?_
    rintro e wx22 ⟨rfl, hb22⟩
    have hS22 : Bs w wx22 r c := hS19.later hb22
    clear hb22 hS19
    refine hK.out _ _ hS22 (fun _ => ?_)
    clear hK K
    try simp only [Act.put, List.setIfInBounds_toArray, List.set_cons_zero, List.set_cons_succ]
    refine wpAnyH_take (i := 23) (oi := { dst := some 35, op := _, type := _, pos := _, after := _, guard := _ }) (v := ?_) rfl (by kernel_rfl) (by kernel_rfl) (by kernel_rfl) (fun _ _ _ h => h) (Or.inl ⟨by rfl, ?_⟩) hS22 ?_
    rotate_left
    · intro W hSw
      have hSr := hSw.2.2
      go_simp
      first | done | rfl
    try simp only [Act.put, List.setIfInBounds_toArray, List.set_cons_zero, List.set_cons_succ]
    refine wpAnyH_take (i := 24) (oi := { dst := some 36, op := _, type := _, pos := _, after := _, guard := _ }) (v := ?_) rfl (by kernel_rfl) (by kernel_rfl) (by kernel_rfl) (fun _ _ _ h => h) (Or.inl ⟨by rfl, ?_⟩) hS22 ?_
    rotate_left
    · intro W hSw
      have hSr := hSw.2.2
      go_simp
      first | done | rfl
    try simp only [Act.put, List.setIfInBounds_toArray, List.set_cons_zero, List.set_cons_succ]
    refine wpAnyH_take (i := 25) (oi := { dst := some 4, op := _, type := _, pos := _, after := _, guard := _ }) (v := ?_) rfl (by kernel_rfl) (by kernel_rfl) (by kernel_rfl) (fun _ _ _ h => h) (Or.inl ⟨by rfl, ?_⟩) hS22 ?_
    rotate_left
    · intro W hSw
      have hSr := hSw.2.2
      go_simp
      first | done | rfl
    try simp only [Act.put, List.setIfInBounds_toArray, List.set_cons_zero, List.set_cons_succ]
    refine wpAnyH_done (by kernel_rfl) ?_ _
    refine NoPanic.normal ?_
    go_wp2_with fail
    go_ret
    exact ⟨rfl, hS22.1⟩
  · go_enter Try.func8, Try.ntmps8
    go_wp2_with fail
    refine (awake25_any _).mono ?_
    rintro e w1 ⟨rfl, hb1⟩
    have hS0 : Bs w w1 r c := (Bs.start w r c _).later hb1
    clear hb1
    go_wp2_with fail
    refine wp_region_noPanic ?_
    refine wp_region_held_drew (S := fun W => Bs w W r c) (by kernel_rfl) hS0.drew (fun hHeld => ?_)
    generalize w1.drew = w2 at *
    clear hS0
    refine wpAnyH_take (i := 0) (oi := { dst := some 12, op := _, type := _, pos := _, after := _, guard := _ }) (v := ?_) rfl (by kernel_rfl) (by kernel_rfl) (by kernel_rfl) (fun _ _ _ h => h) (Or.inl ⟨by rfl, ?_⟩) hHeld ?_
    rotate_left
    · intro W hSw
      have hSr := hSw.2.2
      go_simp
      first | done | rfl
    try simp only [Act.put, List.setIfInBounds_toArray, List.set_cons_zero, List.set_cons_succ]
    refine wpAnyH_take (i := 1) (oi := { dst := some 13, op := _, type := _, pos := _, after := _, guard := _ }) (v := ?_) rfl (by kernel_rfl) (by kernel_rfl) (by kernel_rfl) (fun _ _ _ h => h) (Or.inl ⟨by rfl, ?_⟩) hHeld ?_
    rotate_left
    · intro W hSw
      have hSr := hSw.2.2
      go_simp
      first | done | rfl
    try simp only [Act.put, List.setIfInBounds_toArray, List.set_cons_zero, List.set_cons_succ]
    refine wpAnyH_take (i := 3) (oi := { dst := some 15, op := _, type := _, pos := _, after := _, guard := _ }) (v := ?_) rfl (by kernel_rfl) (by kernel_rfl) (by kernel_rfl) (fun _ _ _ h => h) (Or.inl ⟨by rfl, ?_⟩) hHeld ?_
    rotate_left
    · intro W hSw
      have hSr := hSw.2.2
      go_simp
      first | done | rfl
    try simp only [Act.put, List.setIfInBounds_toArray, List.set_cons_zero, List.set_cons_succ]
    refine wpAnyH_take (i := 4) (oi := { dst := some 16, op := _, type := _, pos := _, after := _, guard := _ }) (v := ?_) rfl (by kernel_rfl) (by kernel_rfl) (by kernel_rfl) (fun _ _ _ h => h) (Or.inl ⟨by rfl, ?_⟩) hHeld ?_
    rotate_left
    · intro W hSw
      have hSr := hSw.2.2
      go_simp
      first | done | rfl
    try simp only [Act.put, List.setIfInBounds_toArray, List.set_cons_zero, List.set_cons_succ]
    refine wpAnyH_ready (rs := [2]) (by kernel_rfl) (by simp) ?_
    refine AllReadyH.cons (o := { dst := some 14, op := _, type := _, pos := _, after := _, guard := _ }) rfl (fun K hK => ?_) AllReadyH.nil
    go_simp
    refine (H0.out _ hHeld).mono ?_
    rintro e wx2 ⟨rfl, hb2⟩
    have hS2 : Bs w wx2 r c := hHeld.later hb2
    clear hb2 hHeld
    refine hK.out _ _ hS2 (fun _ => ?_)
    clear hK K
    try simp only [Act.put, List.setIfInBounds_toArray, List.set_cons_zero, List.set_cons_succ]
    refine wpAnyH_ready (rs := [5]) (by kernel_rfl) (by simp) ?_
    refine AllReadyH.cons (o := { dst := some 17, op := _, type := _, pos := _, after := _, guard := _ }) rfl (fun K hK => ?_) AllReadyH.nil
    go_simp
    refine (H1.out _ hS2).mono ?_
    rintro e wx5 ⟨rfl, hb5⟩
    have hS5 : Bs w wx5 r c := hS2.later hb5
    clear hb5 hS2
    refine hK.out _ _ hS5 (fun _ => ?_)
    clear hK K
    try simp only [Act.put, List.setIfInBounds_toArray, List.set_cons_zero, List.set_cons_succ]
    refine wpAnyH_take (i := 6) (oi := { dst := some 18, op := _, type := _, pos := _, after := _, guard := _ }) (v := ?_) rfl (by kernel_rfl) (by kernel_rfl) (by kernel_rfl) (fun _ _ _ h => h) (Or.inl ⟨by rfl, ?_⟩) hS5 ?_
    rotate_left
    · intro W hSw
      have hSr := hSw.2.2
      go_simp
      first | done | rfl
    try simp only [Act.put, List.setIfInBounds_toArray, List.set_cons_zero, List.set_cons_succ]
    refine wpAnyH_take (i := 7) (oi := { dst := some 19, op := _, type := _, pos := _, after := _, guard := _ }) (v := ?_) rfl (by kernel_rfl) (by kernel_rfl) (by kernel_rfl) (fun _ _ _ h => h) (Or.inl ⟨by rfl, ?_⟩) hS5 ?_
    rotate_left
    · intro W hSw
      have hSr := hSw.2.2
      go_simp
      first | done | rfl
    try simp only [Act.put, List.setIfInBounds_toArray, List.set_cons_zero, List.set_cons_succ]
    refine wpAnyH_take (i := 8) (oi := { dst := some 20, op := _, type := _, pos := _, after := _, guard := _ }) (v := ?_) rfl (by kernel_rfl) (by kernel_rfl) (by kernel_rfl) (fun _ _ _ h => h) (Or.inl ⟨by rfl, ?_⟩) hS5 ?_
    rotate_left
    · intro W hSw
      have hSr := hSw.2.2
      go_simp
      first | done | rfl
    try simp only [Act.put, List.setIfInBounds_toArray, List.set_cons_zero, List.set_cons_succ]
    refine wpAnyH_take (i := 9) (oi := { dst := some 21, op := _, type := _, pos := _, after := _, guard := _ }) (v := ?_) rfl (by kernel_rfl) (by kernel_rfl) (by kernel_rfl) (fun _ _ _ h => h) (Or.inl ⟨by rfl, ?_⟩) hS5 ?_
    rotate_left
    · intro W hSw
      have hSr := hSw.2.2
      go_simp
      first | done | rfl
    try simp only [Act.put, List.setIfInBounds_toArray, List.set_cons_zero, List.set_cons_succ]
    refine wpAnyH_take (i := 11) (oi := { dst := some 23, op := _, type := _, pos := _, after := _, guard := _ }) (v := ?_) rfl (by kernel_rfl) (by kernel_rfl) (by kernel_rfl) (fun _ _ _ h => h) (Or.inl ⟨by rfl, ?_⟩) hS5 ?_
    rotate_left
    · intro W hSw
      have hSr := hSw.2.2
      go_simp
      first | done | rfl
    try simp only [Act.put, List.setIfInBounds_toArray, List.set_cons_zero, List.set_cons_succ]
    refine wpAnyH_take (i := 12) (oi := { dst := some 24, op := _, type := _, pos := _, after := _, guard := _ }) (v := ?_) rfl (by kernel_rfl) (by kernel_rfl) (by kernel_rfl) (fun _ _ _ h => h) (Or.inl ⟨by rfl, ?_⟩) hS5 ?_
    rotate_left
    · intro W hSw
      have hSr := hSw.2.2
      go_simp
      first | done | rfl
    try simp only [Act.put, List.setIfInBounds_toArray, List.set_cons_zero, List.set_cons_succ]
    refine wpAnyH_ready (rs := [10]) (by kernel_rfl) (by simp) ?_
    refine AllReadyH.cons (o := { dst := some 22, op := _, type := _, pos := _, after := _, guard := _ }) rfl (fun K hK => ?_) AllReadyH.nil
    go_simp
    refine (H2.out _ hS5).mono ?_
    rintro e wx10 ⟨rfl, hb10⟩
    have hS10 : Bs w wx10 r c := hS5.later hb10
    clear hb10 hS5
    refine hK.out _ _ hS10 (fun _ => ?_)
    clear hK K
    try simp only [Act.put, List.setIfInBounds_toArray, List.set_cons_zero, List.set_cons_succ]
    refine wpAnyH_ready (rs := [13]) (by kernel_rfl) (by simp) ?_
    refine AllReadyH.cons (o := { dst := some 25, op := _, type := _, pos := _, after := _, guard := _ }) rfl (fun K hK => ?_) AllReadyH.nil
    go_simp
    refine (H3.out _ hS10).mono ?_
    rintro e wx13 ⟨rfl, hb13⟩
    have hS13 : Bs w wx13 r c := hS10.later hb13
    clear hb13 hS10
    refine hK.out _ _ hS13 (fun _ => ?_)
    clear hK K
    try simp only [Act.put, List.setIfInBounds_toArray, List.set_cons_zero, List.set_cons_succ]
    refine wpAnyH_take (i := 14) (oi := { dst := some 26, op := _, type := _, pos := _, after := _, guard := _ }) (v := ?_) rfl (by kernel_rfl) (by kernel_rfl) (by kernel_rfl) (fun _ _ _ h => h) (Or.inl ⟨by rfl, ?_⟩) hS13 ?_
    rotate_left
    · intro W hSw
      have hSr := hSw.2.2
      go_simp
      first | done | rfl
    try simp only [Act.put, List.setIfInBounds_toArray, List.set_cons_zero, List.set_cons_succ]
    refine wpAnyH_take (i := 15) (oi := { dst := some 27, op := _, type := _, pos := _, after := _, guard := _ }) (v := ?_) rfl (by kernel_rfl) (by kernel_rfl) (by kernel_rfl) (fun _ _ _ h => h) (Or.inl ⟨by rfl, ?_⟩) hS13 ?_
    rotate_left
    · intro W hSw
      have hSr := hSw.2.2
      go_simp
      first | done | rfl
    try simp only [Act.put, List.setIfInBounds_toArray, List.set_cons_zero, List.set_cons_succ]
    refine wpAnyH_take (i := 16) (oi := { dst := some 28, op := _, type := _, pos := _, after := _, guard := _ }) (v := ?_) rfl (by kernel_rfl) (by kernel_rfl) (by kernel_rfl) (fun _ _ _ h => h) (Or.inl ⟨by rfl, ?_⟩) hS13 ?_
    rotate_left
    · intro W hSw
      have hSr := hSw.2.2
      go_simp
      first | done | rfl
    try simp only [Act.put, List.setIfInBounds_toArray, List.set_cons_zero, List.set_cons_succ]
    refine wpAnyH_take (i := 17) (oi := { dst := some 29, op := _, type := _, pos := _, after := _, guard := _ }) (v := ?_) rfl (by kernel_rfl) (by kernel_rfl) (by kernel_rfl) (fun _ _ _ h => h) (Or.inl ⟨by rfl, ?_⟩) hS13 ?_
    rotate_left
    · intro W hSw
      have hSr := hSw.2.2
      go_simp
      first | done | rfl
    try simp only [Act.put, List.setIfInBounds_toArray, List.set_cons_zero, List.set_cons_succ]
    refine wpAnyH_take (i := 18) (oi := { dst := some 30, op := _, type := _, pos := _, after := _, guard := _ }) (v := ?_) rfl (by kernel_rfl) (by kernel_rfl) (by kernel_rfl) (fun _ _ _ h => h) (Or.inl ⟨by rfl, ?_⟩) hS13 ?_
    rotate_left
    · intro W hSw
      have hSr := hSw.2.2
      go_simp
      first | done | rfl
    try simp only [Act.put, List.setIfInBounds_toArray, List.set_cons_zero, List.set_cons_succ]
    refine wpAnyH_take (i := 20) (oi := { dst := some 32, op := _, type := _, pos := _, after := _, guard := _ }) (v := ?_) rfl (by kernel_rfl) (by kernel_rfl) (by kernel_rfl) (fun _ _ _ h => h) (Or.inl ⟨by rfl, ?_⟩) hS13 ?_
    rotate_left
    · intro W hSw
      have hSr := hSw.2.2
      go_simp
      first | done | rfl
    try simp only [Act.put, List.setIfInBounds_toArray, List.set_cons_zero, List.set_cons_succ]
    refine wpAnyH_take (i := 21) (oi := { dst := some 33, op := _, type := _, pos := _, after := _, guard := _ }) (v := ?_) rfl (by kernel_rfl) (by kernel_rfl) (by kernel_rfl) (fun _ _ _ h => h) (Or.inl ⟨by rfl, ?_⟩) hS13 ?_
    rotate_left
    · intro W hSw
      have hSr := hSw.2.2
      go_simp
      first | done | rfl
    try simp only [Act.put, List.setIfInBounds_toArray, List.set_cons_zero, List.set_cons_succ]
    refine wpAnyH_ready (rs := [19]) (by kernel_rfl) (by simp) ?_
    refine AllReadyH.cons (o := { dst := some 31, op := _, type := _, pos := _, after := _, guard := _ }) rfl (fun K hK => ?_) AllReadyH.nil
    go_simp
    refine (H4.out _ hS13).mono ?_
    rintro e wx19 ⟨rfl, hb19⟩
    have hS19 : Bs w wx19 r c := hS13.later hb19
    clear hb19 hS13
    refine hK.out _ _ hS19 (fun _ => ?_)
    clear hK K
    try simp only [Act.put, List.setIfInBounds_toArray, List.set_cons_zero, List.set_cons_succ]
    refine wpAnyH_ready (rs := [22]) (by kernel_rfl) (by simp) ?_
    refine AllReadyH.cons (o := { dst := some 34, op := _, type := _, pos := _, after := _, guard := _ }) rfl (fun K hK => ?_) AllReadyH.nil
    go_simp
    refine (H5.out _ hS19).mono ?_
    rintro e wx22 ⟨rfl, hb22⟩
    have hS22 : Bs w wx22 r c := hS19.later hb22
    clear hb22 hS19
    refine hK.out _ _ hS22 (fun _ => ?_)
    clear hK K
    try simp only [Act.put, List.setIfInBounds_toArray, List.set_cons_zero, List.set_cons_succ]
    refine wpAnyH_take (i := 23) (oi := { dst := some 35, op := _, type := _, pos := _, after := _, guard := _ }) (v := ?_) rfl (by kernel_rfl) (by kernel_rfl) (by kernel_rfl) (fun _ _ _ h => h) (Or.inl ⟨by rfl, ?_⟩) hS22 ?_
    rotate_left
    · intro W hSw
      have hSr := hSw.2.2
      go_simp
      first | done | rfl
    try simp only [Act.put, List.setIfInBounds_toArray, List.set_cons_zero, List.set_cons_succ]
    refine wpAnyH_take (i := 24) (oi := { dst := some 36, op := _, type := _, pos := _, after := _, guard := _ }) (v := ?_) rfl (by kernel_rfl) (by kernel_rfl) (by kernel_rfl) (fun _ _ _ h => h) (Or.inl ⟨by rfl, ?_⟩) hS22 ?_
    rotate_left
    · intro W hSw
      have hSr := hSw.2.2
      go_simp
      first | done | rfl
    try simp only [Act.put, List.setIfInBounds_toArray, List.set_cons_zero, List.set_cons_succ]
    refine wpAnyH_take (i := 25) (oi := { dst := some 4, op := _, type := _, pos := _, after := _, guard := _ }) (v := ?_) rfl (by kernel_rfl) (by kernel_rfl) (by kernel_rfl) (fun _ _ _ h => h) (Or.inl ⟨by rfl, ?_⟩) hS22 ?_
    rotate_left
    · intro W hSw
      have hSr := hSw.2.2
      go_simp
      first | done | rfl
    try simp only [Act.put, List.setIfInBounds_toArray, List.set_cons_zero, List.set_cons_succ]
    refine wpAnyH_done (by kernel_rfl) ?_ _
    refine NoPanic.normal ?_
    go_wp2_with fail
    go_ret
    exact ⟨rfl, hS22.1⟩
theorem walkBudgetReads (w : World) (a0_0 : Int) (a0_1 : Int) (p1 : Option Addr) (cap1 : Nat) (l1 : List (List Value)) (b0_0 : -9223372036854775808 ≤ a0_0 ∧ a0_0 ≤ 9223372036854775807) (b0_1 : -9223372036854775808 ≤ a0_1 ∧ a0_1 ≤ 9223372036854775807) (h1 : RowsAt w p1 9 l1) (c1 : l1.length ≤ cap1) (m1 : cap1 ≤ maxLen) (t1 : ∀ r ∈ l1, ∃ (c0 : Int) (c1 : Int) (c2 : Int) (c3 : Int) (c4 : Int) (c5 : Int) (c6 : Int) (c7 : ByteArray) (c8 : Option Addr) (d8 : Nat) (g8 : Nat), r = [.int .i64 c0, .int .i64 c1, .int .i64 c2, .int .i64 c3, .int .i64 c4, .int .i64 c5, .int .i64 c6, .string c7, .slice c8 d8 g8] ∧ (-9223372036854775808 ≤ c0 ∧ c0 ≤ 9223372036854775807) ∧ (-9223372036854775808 ≤ c1 ∧ c1 ≤ 9223372036854775807) ∧ (-9223372036854775808 ≤ c2 ∧ c2 ≤ 9223372036854775807) ∧ (-9223372036854775808 ≤ c3 ∧ c3 ≤ 9223372036854775807) ∧ (-9223372036854775808 ≤ c4 ∧ c4 ≤ 9223372036854775807) ∧ (-9223372036854775808 ≤ c5 ∧ c5 ≤ 9223372036854775807) ∧ (-9223372036854775808 ≤ c6 ∧ c6 ≤ 9223372036854775807)) :
    Calls Try.prog 8 #[.agg #[.int .i64 a0_0, .int .i64 a0_1], .slice p1 l1.length cap1] w fun e w' => e = .returned (.bool true) ∧ Below w.heap.size w w' := by
  obtain ⟨l, hlen, hl⟩ := steps_of h1 t1
  rw [← hlen] at c1 ⊢
  exact breads_core w a0_0 a0_1 p1 cap1 l hl c1 m1
end Go.Proofs.Ytecaahcmebdglaa

/- The reference's Hit. -/
import Derived.Test.YtecaahcmebdglaaBudA
import Derived.Test.YtecaahcmebdglaaOwnC
import Derived.Deep.RegionHeld3
namespace Go.Proofs.Ytecaahcmebdglaa
open Go.RowKit
set_option linter.unusedVariables false
/-- The steps of a slice. -/
def StepsAt (w : World) (ad : Option Addr) (l : List Bst) : Prop := ∀ (i : Nat) (x : Bst), l[i]? = some x → ∃ b off, ad = some ⟨b, off, none⟩ ∧ b < w.heap.size ∧ ∀ (j : Nat) (u : Value), x.row[j]? = some u → w.cell? ⟨b, off + i * 9 + j, none⟩ = some u
theorem StepsAt.below {w w' : World} {B : Nat} {ad : Option Addr} {l : List Bst} (h : StepsAt w ad l) (hb : Below B w w') (hB : w.heap.size ≤ B) : StepsAt w' ad l := by
  intro i x hx
  obtain ⟨b, off, h1, h2, h3⟩ := h i x hx
  exact ⟨b, off, h1, Nat.lt_of_lt_of_le h2 (Nat.le_trans (Nat.le_refl _) hb.size), fun j u hu => (hb.cell (p := ⟨b, off + i * 9 + j, none⟩) (Nat.lt_of_lt_of_le h2 hB)).trans (h3 j u hu)⟩
theorem StepsAt.later {w w' : World} {ad : Option Addr} {l : List Bst} (h : StepsAt w ad l) (hb : Below w.heap.size w w') : StepsAt w' ad l := h.below hb (Nat.le_refl _)
theorem cell_lt {w : World} {p : Addr} {v : Value} (h : w.cell? p = some v) : p.block < w.heap.size := by
  refine Nat.lt_of_not_le fun q => ?_
  have : w.heap[p.block]? = none := Array.getElem?_eq_none q
  unfold World.cell? at h
  simp [this] at h
theorem hit_append (r : Int) (l m : List Bst) (w n : Int) : Bud.hit r (l ++ m) w n = (Bud.hit r l w n || Bud.hit r m w n) := by unfold Bud.hit; rw [List.any_append]
theorem hit_one (r : Int) (x : Bst) (w n : Int) : Bud.hit r [x] w n = (Bud.rot r x && decide (x.w = w ∧ x.n = n)) := by unfold Bud.hit; simp
theorem take_snoc {l : List Bst} {i : Nat} {x : Bst} (h : l[i]? = some x) : l.take (i + 1) = l.take i ++ [x] := by rw [List.take_add_one, h]; rfl
set_option maxRecDepth 100000 in
set_option maxHeartbeats 20000000 in
theorem hit_any (r c who sec : Int) (ad : Option Addr) (cap : Nat) (l : List Bst) (w : World) (hl : StepsAt w ad l) (hn : l.length ≤ 1000) (hc : l.length ≤ cap) :
    Calls Try.prog 52 #[.agg #[.int .i64 r, .int .i64 c], .slice ad l.length cap, .int .i64 who, .int .i64 sec] w fun e w' => e = .returned (.bool (Bud.hit r l who sec)) ∧ Below w.heap.size w w' := by
  have HL := Lib.hid hl
  obtain ⟨n, hnn⟩ : ∃ n, n = l.length := ⟨_, rfl⟩
  have HNN := Lib.hid hnn
  rw [← hnn] at hn hc ⊢
  clear hl hnn
  go_enter Try.func52, Try.ntmps52
  go_wp2_with fail
  go_loopw [9] (fun iv wr => ∃ j : Nat, j ≤ n ∧ iv = .int .i64 j ∧ Bud.hit r (l.take j) who sec = false ∧ Below (w.alloc (.cells #[.int .i64 r, .int .i64 c] 29)).heap.size (w.alloc (.cells #[.int .i64 r, .int .i64 c] 29)) wr) (fun iv _ => n - (intOf iv).toNat)
  case atStart => exact ⟨0, by omega, rfl, rfl, Below.refl _ _⟩
  case round =>
    obtain ⟨j, hj, rfl, hf, hb⟩ := hrel
    have hw0 : Below w.heap.size w (w.alloc (.cells #[.int .i64 r, .int .i64 c] 29)) := (Below.refl _ _).alloc (Nat.le_refl _) _
    have s0 : wr.cell? ⟨w.heap.size, 0, none⟩ = some (.int .i64 r) := (hb.cell (p := ⟨w.heap.size, 0, none⟩) (by simp)).trans ((cell_of_row _ _ _ _ _ _ (heap_alloc_new w _)).trans rfl)
    have s1 : wr.cell? ⟨w.heap.size, 1, none⟩ = some (.int .i64 c) := (hb.cell (p := ⟨w.heap.size, 1, none⟩) (by simp)).trans ((cell_of_row _ _ _ _ _ _ (heap_alloc_new w _)).trans rfl)
    have hbl : Below w.heap.size w wr := hw0.trans (hb.mono hw0.size)
    have hbs := hb
    clear hb hw0
    by_cases hlt : j < n
    · obtain ⟨x, hx⟩ : ∃ x, l[j]? = some x := ⟨l[j]'(by rw [← HNN.out]; exact hlt), List.getElem?_eq_getElem _⟩
      obtain ⟨b, off, rfl, hbw, hcc⟩ := (HL.out.later hbl) j x hx
      obtain ⟨k, wh, p, nn, a, m, oo, bb, q, uu, vv⟩ := x
      have c0 := hcc 0 _ rfl
      have c1 := hcc 1 _ rfl
      have c2 := hcc 2 _ rfl
      have c3 := hcc 3 _ rfl
      have c4 := hcc 4 _ rfl
      have c5 := hcc 5 _ rfl
      have c6 := hcc 6 _ rfl
      have c7 := hcc 7 _ rfl
      have c8 := hcc 8 _ rfl
      rw [Nat.add_zero] at c0
      have HX := Lib.hid hx
      have HF := Lib.hid hf
      clear hcc hx hf HL
      obtain ⟨rb, hrb⟩ : ∃ rb, rb = Bud.rot r ⟨k, wh, p, nn, a, m, oo, bb, q, uu, vv⟩ := ⟨_, rfl⟩
      have HROT : Hid (∀ W, Calls Try.prog 54 #[.agg #[.int .i64 r, .int .i64 c], .agg #[.int .i64 k, .int .i64 wh, .int .i64 p, .int .i64 nn, .int .i64 a, .int .i64 m, .int .i64 oo, .string bb, .slice q uu vv]] W fun e w' => e = .returned (.bool rb) ∧ Below W.heap.size W w') := Lib.hid (fun W => by rw [hrb]; exact rrot_any r c k wh p nn a m oo bb q uu vv W)
      have HT : Hid (Bud.hit r (l.take (j + 1)) who sec = (rb && decide (wh = who ∧ nn = sec))) := Lib.hid (by rw [take_snoc HX.out, hit_append, HF.out, hit_one, ← hrb]; rfl)
      cases rb with
      | false =>
        have HN : Hid (Bud.hit r (l.take (j + 1)) who sec = false) := Lib.hid (by rw [HT.out]; rfl)
        clear hrb
        go_wp2_with fail
        refine wp_region_noPanic ?_
        refine wp_region_held_drew (S := fun W => Below wr.heap.size wr W) (by kernel_rfl) (show Below wr.heap.size wr wr.drew from (Below.refl _ _).drew) (fun hHeld => ?_)
        have hsz0 := hHeld.size
        generalize wr.drew = w7 at *
        refine wpAnyH_take (i := 0) (oi := { dst := some 16, op := _, type := _, pos := _, after := _, guard := _ }) (v := ?_) rfl (by kernel_rfl) (by kernel_rfl) (by kernel_rfl) (fun _ _ _ h => h) (Or.inl ⟨by rfl, ?_⟩) hHeld ?_
        rotate_left
        · intro W hSw
          have e0 := (Below.cell hSw (cell_lt s0)).trans s0
          have e1 := (Below.cell hSw (cell_lt s1)).trans s1
          have d0 := (Below.cell hSw (cell_lt c0)).trans c0
          have d1 := (Below.cell hSw (cell_lt c1)).trans c1
          have d2 := (Below.cell hSw (cell_lt c2)).trans c2
          have d3 := (Below.cell hSw (cell_lt c3)).trans c3
          have d4 := (Below.cell hSw (cell_lt c4)).trans c4
          have d5 := (Below.cell hSw (cell_lt c5)).trans c5
          have d6 := (Below.cell hSw (cell_lt c6)).trans c6
          have d7 := (Below.cell hSw (cell_lt c7)).trans c7
          have d8 := (Below.cell hSw (cell_lt c8)).trans c8
          go_simp
          first | done | rfl
        try simp only [Act.put, List.setIfInBounds_toArray, List.set_cons_zero, List.set_cons_succ]
        refine wpAnyH_take (i := 1) (oi := { dst := some 17, op := _, type := _, pos := _, after := _, guard := _ }) (v := ?_) rfl (by kernel_rfl) (by kernel_rfl) (by kernel_rfl) (fun _ _ _ h => h) (Or.inl ⟨by rfl, ?_⟩) hHeld ?_
        rotate_left
        · intro W hSw
          have e0 := (Below.cell hSw (cell_lt s0)).trans s0
          have e1 := (Below.cell hSw (cell_lt s1)).trans s1
          have d0 := (Below.cell hSw (cell_lt c0)).trans c0
          have d1 := (Below.cell hSw (cell_lt c1)).trans c1
          have d2 := (Below.cell hSw (cell_lt c2)).trans c2
          have d3 := (Below.cell hSw (cell_lt c3)).trans c3
          have d4 := (Below.cell hSw (cell_lt c4)).trans c4
          have d5 := (Below.cell hSw (cell_lt c5)).trans c5
          have d6 := (Below.cell hSw (cell_lt c6)).trans c6
          have d7 := (Below.cell hSw (cell_lt c7)).trans c7
          have d8 := (Below.cell hSw (cell_lt c8)).trans c8
          go_simp
          first | done | rfl
        try simp only [Act.put, List.setIfInBounds_toArray, List.set_cons_zero, List.set_cons_succ]
        refine wpAnyH_take (i := 2) (oi := { dst := some 18, op := _, type := _, pos := _, after := _, guard := _ }) (v := ?_) rfl (by kernel_rfl) (by kernel_rfl) (by kernel_rfl) (fun _ _ _ h => h) (Or.inl ⟨by rfl, ?_⟩) hHeld ?_
        rotate_left
        · intro W hSw
          have e0 := (Below.cell hSw (cell_lt s0)).trans s0
          have e1 := (Below.cell hSw (cell_lt s1)).trans s1
          have d0 := (Below.cell hSw (cell_lt c0)).trans c0
          have d1 := (Below.cell hSw (cell_lt c1)).trans c1
          have d2 := (Below.cell hSw (cell_lt c2)).trans c2
          have d3 := (Below.cell hSw (cell_lt c3)).trans c3
          have d4 := (Below.cell hSw (cell_lt c4)).trans c4
          have d5 := (Below.cell hSw (cell_lt c5)).trans c5
          have d6 := (Below.cell hSw (cell_lt c6)).trans c6
          have d7 := (Below.cell hSw (cell_lt c7)).trans c7
          have d8 := (Below.cell hSw (cell_lt c8)).trans c8
          go_simp
          first | done | rfl
        try simp only [Act.put, List.setIfInBounds_toArray, List.set_cons_zero, List.set_cons_succ]
        refine wpAnyH_take (i := 3) (oi := { dst := some 19, op := _, type := _, pos := _, after := _, guard := _ }) (v := ?_) rfl (by kernel_rfl) (by kernel_rfl) (by kernel_rfl) (fun _ _ _ h => h) (Or.inl ⟨by rfl, ?_⟩) hHeld ?_
        rotate_left
        · intro W hSw
          have e0 := (Below.cell hSw (cell_lt s0)).trans s0
          have e1 := (Below.cell hSw (cell_lt s1)).trans s1
          have d0 := (Below.cell hSw (cell_lt c0)).trans c0
          have d1 := (Below.cell hSw (cell_lt c1)).trans c1
          have d2 := (Below.cell hSw (cell_lt c2)).trans c2
          have d3 := (Below.cell hSw (cell_lt c3)).trans c3
          have d4 := (Below.cell hSw (cell_lt c4)).trans c4
          have d5 := (Below.cell hSw (cell_lt c5)).trans c5
          have d6 := (Below.cell hSw (cell_lt c6)).trans c6
          have d7 := (Below.cell hSw (cell_lt c7)).trans c7
          have d8 := (Below.cell hSw (cell_lt c8)).trans c8
          go_simp
          first | done | rfl
        try simp only [Act.put, List.setIfInBounds_toArray, List.set_cons_zero, List.set_cons_succ]
        refine wpAnyH_take (i := 4) (oi := { dst := some 20, op := _, type := _, pos := _, after := _, guard := _ }) (v := ?_) rfl (by kernel_rfl) (by kernel_rfl) (by kernel_rfl) (fun _ _ _ h => h) (Or.inl ⟨by rfl, ?_⟩) hHeld ?_
        rotate_left
        · intro W hSw
          have e0 := (Below.cell hSw (cell_lt s0)).trans s0
          have e1 := (Below.cell hSw (cell_lt s1)).trans s1
          have d0 := (Below.cell hSw (cell_lt c0)).trans c0
          have d1 := (Below.cell hSw (cell_lt c1)).trans c1
          have d2 := (Below.cell hSw (cell_lt c2)).trans c2
          have d3 := (Below.cell hSw (cell_lt c3)).trans c3
          have d4 := (Below.cell hSw (cell_lt c4)).trans c4
          have d5 := (Below.cell hSw (cell_lt c5)).trans c5
          have d6 := (Below.cell hSw (cell_lt c6)).trans c6
          have d7 := (Below.cell hSw (cell_lt c7)).trans c7
          have d8 := (Below.cell hSw (cell_lt c8)).trans c8
          go_simp
          first | done | rfl
        try simp only [Act.put, List.setIfInBounds_toArray, List.set_cons_zero, List.set_cons_succ]
        refine wpAnyH_ready (rs := [5]) (by kernel_rfl) (by simp) ?_
        refine AllReadyH.cons (o := { dst := some 21, op := _, type := _, pos := _, after := _, guard := _ }) rfl (fun K hK => ?_) AllReadyH.nil
        go_simp
        refine (HROT.out _).mono ?_
        rintro e w8 ⟨rfl, hb8⟩
        have hB8 := hHeld.trans (hb8.mono hHeld.size)
        clear hb8
        refine hK.out _ _ hB8 (fun _ => ?_)
        clear hK K
        try simp only [Act.put, List.setIfInBounds_toArray, List.set_cons_zero, List.set_cons_succ]
        refine wpAnyH_take (i := 6) (oi := { dst := some 22, op := _, type := _, pos := _, after := _, guard := _ }) (v := ?_) rfl (by kernel_rfl) (by kernel_rfl) (by kernel_rfl) (fun _ _ _ h => h) (Or.inl ⟨by rfl, ?_⟩) hB8 ?_
        rotate_left
        · intro W hSw
          have e0 := (Below.cell hSw (cell_lt s0)).trans s0
          have e1 := (Below.cell hSw (cell_lt s1)).trans s1
          have d0 := (Below.cell hSw (cell_lt c0)).trans c0
          have d1 := (Below.cell hSw (cell_lt c1)).trans c1
          have d2 := (Below.cell hSw (cell_lt c2)).trans c2
          have d3 := (Below.cell hSw (cell_lt c3)).trans c3
          have d4 := (Below.cell hSw (cell_lt c4)).trans c4
          have d5 := (Below.cell hSw (cell_lt c5)).trans c5
          have d6 := (Below.cell hSw (cell_lt c6)).trans c6
          have d7 := (Below.cell hSw (cell_lt c7)).trans c7
          have d8 := (Below.cell hSw (cell_lt c8)).trans c8
          go_simp
          first | done | rfl
        try simp only [Act.put, List.setIfInBounds_toArray, List.set_cons_zero, List.set_cons_succ]
        refine wpAnyH_take (i := 7) (oi := { dst := some 23, op := _, type := _, pos := _, after := _, guard := _ }) (v := undef) rfl (by kernel_rfl) (by kernel_rfl) (by kernel_rfl) (fun _ _ _ h => h) (Or.inr ⟨by rfl, rfl⟩) hB8 ?_
        try simp only [Act.put, List.setIfInBounds_toArray, List.set_cons_zero, List.set_cons_succ]
        refine wpAnyH_take (i := 8) (oi := { dst := some 24, op := _, type := _, pos := _, after := _, guard := _ }) (v := undef) rfl (by kernel_rfl) (by kernel_rfl) (by kernel_rfl) (fun _ _ _ h => h) (Or.inr ⟨by rfl, rfl⟩) hB8 ?_
        try simp only [Act.put, List.setIfInBounds_toArray, List.set_cons_zero, List.set_cons_succ]
        refine wpAnyH_take (i := 12) (oi := { dst := some 28, op := _, type := _, pos := _, after := _, guard := _ }) (v := undef) rfl (by kernel_rfl) (by kernel_rfl) (by kernel_rfl) (fun _ _ _ h => h) (Or.inr ⟨by rfl, rfl⟩) hB8 ?_
        try simp only [Act.put, List.setIfInBounds_toArray, List.set_cons_zero, List.set_cons_succ]
        refine wpAnyH_take (i := 9) (oi := { dst := some 25, op := _, type := _, pos := _, after := _, guard := _ }) (v := undef) rfl (by kernel_rfl) (by kernel_rfl) (by kernel_rfl) (fun _ _ _ h => h) (Or.inr ⟨by rfl, rfl⟩) hB8 ?_
        try simp only [Act.put, List.setIfInBounds_toArray, List.set_cons_zero, List.set_cons_succ]
        refine wpAnyH_take (i := 10) (oi := { dst := some 26, op := _, type := _, pos := _, after := _, guard := _ }) (v := undef) rfl (by kernel_rfl) (by kernel_rfl) (by kernel_rfl) (fun _ _ _ h => h) (Or.inr ⟨by rfl, rfl⟩) hB8 ?_
        try simp only [Act.put, List.setIfInBounds_toArray, List.set_cons_zero, List.set_cons_succ]
        refine wpAnyH_take (i := 11) (oi := { dst := some 27, op := _, type := _, pos := _, after := _, guard := _ }) (v := undef) rfl (by kernel_rfl) (by kernel_rfl) (by kernel_rfl) (fun _ _ _ h => h) (Or.inr ⟨by rfl, rfl⟩) hB8 ?_
        try simp only [Act.put, List.setIfInBounds_toArray, List.set_cons_zero, List.set_cons_succ]
        refine wpAnyH_take (i := 13) (oi := { dst := some 29, op := _, type := _, pos := _, after := _, guard := _ }) (v := undef) rfl (by kernel_rfl) (by kernel_rfl) (by kernel_rfl) (fun _ _ _ h => h) (Or.inr ⟨by rfl, rfl⟩) hB8 ?_
        try simp only [Act.put, List.setIfInBounds_toArray, List.set_cons_zero, List.set_cons_succ]
        refine wpAnyH_take (i := 14) (oi := { dst := some 30, op := _, type := _, pos := _, after := _, guard := _ }) (v := ?_) rfl (by kernel_rfl) (by kernel_rfl) (by kernel_rfl) (fun _ _ _ h => h) (Or.inl ⟨by rfl, ?_⟩) hB8 ?_
        rotate_left
        · intro W hSw
          have e0 := (Below.cell hSw (cell_lt s0)).trans s0
          have e1 := (Below.cell hSw (cell_lt s1)).trans s1
          have d0 := (Below.cell hSw (cell_lt c0)).trans c0
          have d1 := (Below.cell hSw (cell_lt c1)).trans c1
          have d2 := (Below.cell hSw (cell_lt c2)).trans c2
          have d3 := (Below.cell hSw (cell_lt c3)).trans c3
          have d4 := (Below.cell hSw (cell_lt c4)).trans c4
          have d5 := (Below.cell hSw (cell_lt c5)).trans c5
          have d6 := (Below.cell hSw (cell_lt c6)).trans c6
          have d7 := (Below.cell hSw (cell_lt c7)).trans c7
          have d8 := (Below.cell hSw (cell_lt c8)).trans c8
          go_simp
          first | done | rfl
        try simp only [Act.put, List.setIfInBounds_toArray, List.set_cons_zero, List.set_cons_succ]
        refine wpAnyH_take (i := 15) (oi := { dst := some 31, op := _, type := _, pos := _, after := _, guard := _ }) (v := ?_) rfl (by kernel_rfl) (by kernel_rfl) (by kernel_rfl) (fun _ _ _ h => h) (Or.inl ⟨by rfl, ?_⟩) hB8 ?_
        rotate_left
        · intro W hSw
          have e0 := (Below.cell hSw (cell_lt s0)).trans s0
          have e1 := (Below.cell hSw (cell_lt s1)).trans s1
          have d0 := (Below.cell hSw (cell_lt c0)).trans c0
          have d1 := (Below.cell hSw (cell_lt c1)).trans c1
          have d2 := (Below.cell hSw (cell_lt c2)).trans c2
          have d3 := (Below.cell hSw (cell_lt c3)).trans c3
          have d4 := (Below.cell hSw (cell_lt c4)).trans c4
          have d5 := (Below.cell hSw (cell_lt c5)).trans c5
          have d6 := (Below.cell hSw (cell_lt c6)).trans c6
          have d7 := (Below.cell hSw (cell_lt c7)).trans c7
          have d8 := (Below.cell hSw (cell_lt c8)).trans c8
          go_simp
          first | done | rfl
        try simp only [Act.put, List.setIfInBounds_toArray, List.set_cons_zero, List.set_cons_succ]
        refine wpAnyH_take (i := 16) (oi := { dst := some 32, op := _, type := _, pos := _, after := _, guard := _ }) (v := undef) rfl (by kernel_rfl) (by kernel_rfl) (by kernel_rfl) (fun _ _ _ h => h) (Or.inr ⟨by rfl, rfl⟩) hB8 ?_
        try simp only [Act.put, List.setIfInBounds_toArray, List.set_cons_zero, List.set_cons_succ]
        refine wpAnyH_take (i := 17) (oi := { dst := some 33, op := _, type := _, pos := _, after := _, guard := _ }) (v := undef) rfl (by kernel_rfl) (by kernel_rfl) (by kernel_rfl) (fun _ _ _ h => h) (Or.inr ⟨by rfl, rfl⟩) hB8 ?_
        try simp only [Act.put, List.setIfInBounds_toArray, List.set_cons_zero, List.set_cons_succ]
        refine wpAnyH_take (i := 21) (oi := { dst := some 37, op := _, type := _, pos := _, after := _, guard := _ }) (v := undef) rfl (by kernel_rfl) (by kernel_rfl) (by kernel_rfl) (fun _ _ _ h => h) (Or.inr ⟨by rfl, rfl⟩) hB8 ?_
        try simp only [Act.put, List.setIfInBounds_toArray, List.set_cons_zero, List.set_cons_succ]
        refine wpAnyH_take (i := 18) (oi := { dst := some 34, op := _, type := _, pos := _, after := _, guard := _ }) (v := undef) rfl (by kernel_rfl) (by kernel_rfl) (by kernel_rfl) (fun _ _ _ h => h) (Or.inr ⟨by rfl, rfl⟩) hB8 ?_
        try simp only [Act.put, List.setIfInBounds_toArray, List.set_cons_zero, List.set_cons_succ]
        refine wpAnyH_take (i := 19) (oi := { dst := some 35, op := _, type := _, pos := _, after := _, guard := _ }) (v := undef) rfl (by kernel_rfl) (by kernel_rfl) (by kernel_rfl) (fun _ _ _ h => h) (Or.inr ⟨by rfl, rfl⟩) hB8 ?_
        try simp only [Act.put, List.setIfInBounds_toArray, List.set_cons_zero, List.set_cons_succ]
        refine wpAnyH_take (i := 20) (oi := { dst := some 36, op := _, type := _, pos := _, after := _, guard := _ }) (v := undef) rfl (by kernel_rfl) (by kernel_rfl) (by kernel_rfl) (fun _ _ _ h => h) (Or.inr ⟨by rfl, rfl⟩) hB8 ?_
        try simp only [Act.put, List.setIfInBounds_toArray, List.set_cons_zero, List.set_cons_succ]
        refine wpAnyH_take (i := 22) (oi := { dst := some 38, op := _, type := _, pos := _, after := _, guard := _ }) (v := undef) rfl (by kernel_rfl) (by kernel_rfl) (by kernel_rfl) (fun _ _ _ h => h) (Or.inr ⟨by rfl, rfl⟩) hB8 ?_
        try simp only [Act.put, List.setIfInBounds_toArray, List.set_cons_zero, List.set_cons_succ]
        refine wpAnyH_take (i := 23) (oi := { dst := some 39, op := _, type := _, pos := _, after := _, guard := _ }) (v := ?_) rfl (by kernel_rfl) (by kernel_rfl) (by kernel_rfl) (fun _ _ _ h => h) (Or.inl ⟨by rfl, ?_⟩) hB8 ?_
        rotate_left
        · intro W hSw
          have e0 := (Below.cell hSw (cell_lt s0)).trans s0
          have e1 := (Below.cell hSw (cell_lt s1)).trans s1
          have d0 := (Below.cell hSw (cell_lt c0)).trans c0
          have d1 := (Below.cell hSw (cell_lt c1)).trans c1
          have d2 := (Below.cell hSw (cell_lt c2)).trans c2
          have d3 := (Below.cell hSw (cell_lt c3)).trans c3
          have d4 := (Below.cell hSw (cell_lt c4)).trans c4
          have d5 := (Below.cell hSw (cell_lt c5)).trans c5
          have d6 := (Below.cell hSw (cell_lt c6)).trans c6
          have d7 := (Below.cell hSw (cell_lt c7)).trans c7
          have d8 := (Below.cell hSw (cell_lt c8)).trans c8
          go_simp
          first | done | rfl
        try simp only [Act.put, List.setIfInBounds_toArray, List.set_cons_zero, List.set_cons_succ]
        refine wpAnyH_done (by kernel_rfl) ?_ _
        refine NoPanic.normal ?_
        go_wp2_with fail
        go_roundw
        case rel => exact ⟨j + 1, by omega, by go_num, HN.out, hbs.trans (hB8.mono hbs.size)⟩
        case measure => simp [intOf]; omega
      | true =>
        by_cases q1 : wh = who
        · by_cases q2 : nn = sec
          · have HY : Hid (true = Bud.hit r l who sec) := Lib.hid (by
              symm
              exact (Bud.hit_iff _ _ _ _).2 ⟨_, List.mem_of_getElem? HX.out, hrb.symm, q1, q2⟩)
            subst q1 q2
            clear hrb
            go_wp2_with fail
            refine wp_region_noPanic ?_
            refine wp_region_held_drew (S := fun W => Below wr.heap.size wr W) (by kernel_rfl) (show Below wr.heap.size wr wr.drew from (Below.refl _ _).drew) (fun hHeld => ?_)
            have hsz0 := hHeld.size
            generalize wr.drew = w7 at *
            refine wpAnyH_take (i := 0) (oi := { dst := some 16, op := _, type := _, pos := _, after := _, guard := _ }) (v := ?_) rfl (by kernel_rfl) (by kernel_rfl) (by kernel_rfl) (fun _ _ _ h => h) (Or.inl ⟨by rfl, ?_⟩) hHeld ?_
            rotate_left
            · intro W hSw
              have e0 := (Below.cell hSw (cell_lt s0)).trans s0
              have e1 := (Below.cell hSw (cell_lt s1)).trans s1
              have d0 := (Below.cell hSw (cell_lt c0)).trans c0
              have d1 := (Below.cell hSw (cell_lt c1)).trans c1
              have d2 := (Below.cell hSw (cell_lt c2)).trans c2
              have d3 := (Below.cell hSw (cell_lt c3)).trans c3
              have d4 := (Below.cell hSw (cell_lt c4)).trans c4
              have d5 := (Below.cell hSw (cell_lt c5)).trans c5
              have d6 := (Below.cell hSw (cell_lt c6)).trans c6
              have d7 := (Below.cell hSw (cell_lt c7)).trans c7
              have d8 := (Below.cell hSw (cell_lt c8)).trans c8
              go_simp
              first | done | rfl
            try simp only [Act.put, List.setIfInBounds_toArray, List.set_cons_zero, List.set_cons_succ]
            refine wpAnyH_take (i := 1) (oi := { dst := some 17, op := _, type := _, pos := _, after := _, guard := _ }) (v := ?_) rfl (by kernel_rfl) (by kernel_rfl) (by kernel_rfl) (fun _ _ _ h => h) (Or.inl ⟨by rfl, ?_⟩) hHeld ?_
            rotate_left
            · intro W hSw
              have e0 := (Below.cell hSw (cell_lt s0)).trans s0
              have e1 := (Below.cell hSw (cell_lt s1)).trans s1
              have d0 := (Below.cell hSw (cell_lt c0)).trans c0
              have d1 := (Below.cell hSw (cell_lt c1)).trans c1
              have d2 := (Below.cell hSw (cell_lt c2)).trans c2
              have d3 := (Below.cell hSw (cell_lt c3)).trans c3
              have d4 := (Below.cell hSw (cell_lt c4)).trans c4
              have d5 := (Below.cell hSw (cell_lt c5)).trans c5
              have d6 := (Below.cell hSw (cell_lt c6)).trans c6
              have d7 := (Below.cell hSw (cell_lt c7)).trans c7
              have d8 := (Below.cell hSw (cell_lt c8)).trans c8
              go_simp
              first | done | rfl
            try simp only [Act.put, List.setIfInBounds_toArray, List.set_cons_zero, List.set_cons_succ]
            refine wpAnyH_take (i := 2) (oi := { dst := some 18, op := _, type := _, pos := _, after := _, guard := _ }) (v := ?_) rfl (by kernel_rfl) (by kernel_rfl) (by kernel_rfl) (fun _ _ _ h => h) (Or.inl ⟨by rfl, ?_⟩) hHeld ?_
            rotate_left
            · intro W hSw
              have e0 := (Below.cell hSw (cell_lt s0)).trans s0
              have e1 := (Below.cell hSw (cell_lt s1)).trans s1
              have d0 := (Below.cell hSw (cell_lt c0)).trans c0
              have d1 := (Below.cell hSw (cell_lt c1)).trans c1
              have d2 := (Below.cell hSw (cell_lt c2)).trans c2
              have d3 := (Below.cell hSw (cell_lt c3)).trans c3
              have d4 := (Below.cell hSw (cell_lt c4)).trans c4
              have d5 := (Below.cell hSw (cell_lt c5)).trans c5
              have d6 := (Below.cell hSw (cell_lt c6)).trans c6
              have d7 := (Below.cell hSw (cell_lt c7)).trans c7
              have d8 := (Below.cell hSw (cell_lt c8)).trans c8
              go_simp
              first | done | rfl
            try simp only [Act.put, List.setIfInBounds_toArray, List.set_cons_zero, List.set_cons_succ]
            refine wpAnyH_take (i := 3) (oi := { dst := some 19, op := _, type := _, pos := _, after := _, guard := _ }) (v := ?_) rfl (by kernel_rfl) (by kernel_rfl) (by kernel_rfl) (fun _ _ _ h => h) (Or.inl ⟨by rfl, ?_⟩) hHeld ?_
            rotate_left
            · intro W hSw
              have e0 := (Below.cell hSw (cell_lt s0)).trans s0
              have e1 := (Below.cell hSw (cell_lt s1)).trans s1
              have d0 := (Below.cell hSw (cell_lt c0)).trans c0
              have d1 := (Below.cell hSw (cell_lt c1)).trans c1
              have d2 := (Below.cell hSw (cell_lt c2)).trans c2
              have d3 := (Below.cell hSw (cell_lt c3)).trans c3
              have d4 := (Below.cell hSw (cell_lt c4)).trans c4
              have d5 := (Below.cell hSw (cell_lt c5)).trans c5
              have d6 := (Below.cell hSw (cell_lt c6)).trans c6
              have d7 := (Below.cell hSw (cell_lt c7)).trans c7
              have d8 := (Below.cell hSw (cell_lt c8)).trans c8
              go_simp
              first | done | rfl
            try simp only [Act.put, List.setIfInBounds_toArray, List.set_cons_zero, List.set_cons_succ]
            refine wpAnyH_take (i := 4) (oi := { dst := some 20, op := _, type := _, pos := _, after := _, guard := _ }) (v := ?_) rfl (by kernel_rfl) (by kernel_rfl) (by kernel_rfl) (fun _ _ _ h => h) (Or.inl ⟨by rfl, ?_⟩) hHeld ?_
            rotate_left
            · intro W hSw
              have e0 := (Below.cell hSw (cell_lt s0)).trans s0
              have e1 := (Below.cell hSw (cell_lt s1)).trans s1
              have d0 := (Below.cell hSw (cell_lt c0)).trans c0
              have d1 := (Below.cell hSw (cell_lt c1)).trans c1
              have d2 := (Below.cell hSw (cell_lt c2)).trans c2
              have d3 := (Below.cell hSw (cell_lt c3)).trans c3
              have d4 := (Below.cell hSw (cell_lt c4)).trans c4
              have d5 := (Below.cell hSw (cell_lt c5)).trans c5
              have d6 := (Below.cell hSw (cell_lt c6)).trans c6
              have d7 := (Below.cell hSw (cell_lt c7)).trans c7
              have d8 := (Below.cell hSw (cell_lt c8)).trans c8
              go_simp
              first | done | rfl
            try simp only [Act.put, List.setIfInBounds_toArray, List.set_cons_zero, List.set_cons_succ]
            refine wpAnyH_ready (rs := [5]) (by kernel_rfl) (by simp) ?_
            refine AllReadyH.cons (o := { dst := some 21, op := _, type := _, pos := _, after := _, guard := _ }) rfl (fun K hK => ?_) AllReadyH.nil
            go_simp
            refine (HROT.out _).mono ?_
            rintro e w8 ⟨rfl, hb8⟩
            have hB8 := hHeld.trans (hb8.mono hHeld.size)
            clear hb8
            refine hK.out _ _ hB8 (fun _ => ?_)
            clear hK K
            try simp only [Act.put, List.setIfInBounds_toArray, List.set_cons_zero, List.set_cons_succ]
            refine wpAnyH_take (i := 6) (oi := { dst := some 22, op := _, type := _, pos := _, after := _, guard := _ }) (v := ?_) rfl (by kernel_rfl) (by kernel_rfl) (by kernel_rfl) (fun _ _ _ h => h) (Or.inl ⟨by rfl, ?_⟩) hB8 ?_
            rotate_left
            · intro W hSw
              have e0 := (Below.cell hSw (cell_lt s0)).trans s0
              have e1 := (Below.cell hSw (cell_lt s1)).trans s1
              have d0 := (Below.cell hSw (cell_lt c0)).trans c0
              have d1 := (Below.cell hSw (cell_lt c1)).trans c1
              have d2 := (Below.cell hSw (cell_lt c2)).trans c2
              have d3 := (Below.cell hSw (cell_lt c3)).trans c3
              have d4 := (Below.cell hSw (cell_lt c4)).trans c4
              have d5 := (Below.cell hSw (cell_lt c5)).trans c5
              have d6 := (Below.cell hSw (cell_lt c6)).trans c6
              have d7 := (Below.cell hSw (cell_lt c7)).trans c7
              have d8 := (Below.cell hSw (cell_lt c8)).trans c8
              go_simp
              first | done | rfl
            try simp only [Act.put, List.setIfInBounds_toArray, List.set_cons_zero, List.set_cons_succ]
            refine wpAnyH_take (i := 7) (oi := { dst := some 23, op := _, type := _, pos := _, after := _, guard := _ }) (v := ?_) rfl (by kernel_rfl) (by kernel_rfl) (by kernel_rfl) (fun _ _ _ h => h) (Or.inl ⟨by rfl, ?_⟩) hB8 ?_
            rotate_left
            · intro W hSw
              have e0 := (Below.cell hSw (cell_lt s0)).trans s0
              have e1 := (Below.cell hSw (cell_lt s1)).trans s1
              have d0 := (Below.cell hSw (cell_lt c0)).trans c0
              have d1 := (Below.cell hSw (cell_lt c1)).trans c1
              have d2 := (Below.cell hSw (cell_lt c2)).trans c2
              have d3 := (Below.cell hSw (cell_lt c3)).trans c3
              have d4 := (Below.cell hSw (cell_lt c4)).trans c4
              have d5 := (Below.cell hSw (cell_lt c5)).trans c5
              have d6 := (Below.cell hSw (cell_lt c6)).trans c6
              have d7 := (Below.cell hSw (cell_lt c7)).trans c7
              have d8 := (Below.cell hSw (cell_lt c8)).trans c8
              go_simp
              first | done | rfl
            try simp only [Act.put, List.setIfInBounds_toArray, List.set_cons_zero, List.set_cons_succ]
            refine wpAnyH_take (i := 8) (oi := { dst := some 24, op := _, type := _, pos := _, after := _, guard := _ }) (v := ?_) rfl (by kernel_rfl) (by kernel_rfl) (by kernel_rfl) (fun _ _ _ h => h) (Or.inl ⟨by rfl, ?_⟩) hB8 ?_
            rotate_left
            · intro W hSw
              have e0 := (Below.cell hSw (cell_lt s0)).trans s0
              have e1 := (Below.cell hSw (cell_lt s1)).trans s1
              have d0 := (Below.cell hSw (cell_lt c0)).trans c0
              have d1 := (Below.cell hSw (cell_lt c1)).trans c1
              have d2 := (Below.cell hSw (cell_lt c2)).trans c2
              have d3 := (Below.cell hSw (cell_lt c3)).trans c3
              have d4 := (Below.cell hSw (cell_lt c4)).trans c4
              have d5 := (Below.cell hSw (cell_lt c5)).trans c5
              have d6 := (Below.cell hSw (cell_lt c6)).trans c6
              have d7 := (Below.cell hSw (cell_lt c7)).trans c7
              have d8 := (Below.cell hSw (cell_lt c8)).trans c8
              go_simp
              first | done | rfl
            try simp only [Act.put, List.setIfInBounds_toArray, List.set_cons_zero, List.set_cons_succ]
            refine wpAnyH_take (i := 12) (oi := { dst := some 28, op := _, type := _, pos := _, after := _, guard := _ }) (v := ?_) rfl (by kernel_rfl) (by kernel_rfl) (by kernel_rfl) (fun _ _ _ h => h) (Or.inl ⟨by rfl, ?_⟩) hB8 ?_
            rotate_left
            · intro W hSw
              have e0 := (Below.cell hSw (cell_lt s0)).trans s0
              have e1 := (Below.cell hSw (cell_lt s1)).trans s1
              have d0 := (Below.cell hSw (cell_lt c0)).trans c0
              have d1 := (Below.cell hSw (cell_lt c1)).trans c1
              have d2 := (Below.cell hSw (cell_lt c2)).trans c2
              have d3 := (Below.cell hSw (cell_lt c3)).trans c3
              have d4 := (Below.cell hSw (cell_lt c4)).trans c4
              have d5 := (Below.cell hSw (cell_lt c5)).trans c5
              have d6 := (Below.cell hSw (cell_lt c6)).trans c6
              have d7 := (Below.cell hSw (cell_lt c7)).trans c7
              have d8 := (Below.cell hSw (cell_lt c8)).trans c8
              go_simp
              first | done | rfl
            try simp only [Act.put, List.setIfInBounds_toArray, List.set_cons_zero, List.set_cons_succ]
            refine wpAnyH_take (i := 9) (oi := { dst := some 25, op := _, type := _, pos := _, after := _, guard := _ }) (v := ?_) rfl (by kernel_rfl) (by kernel_rfl) (by kernel_rfl) (fun _ _ _ h => h) (Or.inl ⟨by rfl, ?_⟩) hB8 ?_
            rotate_left
            · intro W hSw
              have e0 := (Below.cell hSw (cell_lt s0)).trans s0
              have e1 := (Below.cell hSw (cell_lt s1)).trans s1
              have d0 := (Below.cell hSw (cell_lt c0)).trans c0
              have d1 := (Below.cell hSw (cell_lt c1)).trans c1
              have d2 := (Below.cell hSw (cell_lt c2)).trans c2
              have d3 := (Below.cell hSw (cell_lt c3)).trans c3
              have d4 := (Below.cell hSw (cell_lt c4)).trans c4
              have d5 := (Below.cell hSw (cell_lt c5)).trans c5
              have d6 := (Below.cell hSw (cell_lt c6)).trans c6
              have d7 := (Below.cell hSw (cell_lt c7)).trans c7
              have d8 := (Below.cell hSw (cell_lt c8)).trans c8
              go_simp
              first | done | rfl
            try simp only [Act.put, List.setIfInBounds_toArray, List.set_cons_zero, List.set_cons_succ]
            refine wpAnyH_take (i := 10) (oi := { dst := some 26, op := _, type := _, pos := _, after := _, guard := _ }) (v := ?_) rfl (by kernel_rfl) (by kernel_rfl) (by kernel_rfl) (fun _ _ _ h => h) (Or.inl ⟨by rfl, ?_⟩) hB8 ?_
            rotate_left
            · intro W hSw
              have e0 := (Below.cell hSw (cell_lt s0)).trans s0
              have e1 := (Below.cell hSw (cell_lt s1)).trans s1
              have d0 := (Below.cell hSw (cell_lt c0)).trans c0
              have d1 := (Below.cell hSw (cell_lt c1)).trans c1
              have d2 := (Below.cell hSw (cell_lt c2)).trans c2
              have d3 := (Below.cell hSw (cell_lt c3)).trans c3
              have d4 := (Below.cell hSw (cell_lt c4)).trans c4
              have d5 := (Below.cell hSw (cell_lt c5)).trans c5
              have d6 := (Below.cell hSw (cell_lt c6)).trans c6
              have d7 := (Below.cell hSw (cell_lt c7)).trans c7
              have d8 := (Below.cell hSw (cell_lt c8)).trans c8
              go_simp
              first | done | rfl
            try simp only [Act.put, List.setIfInBounds_toArray, List.set_cons_zero, List.set_cons_succ]
            refine wpAnyH_take (i := 11) (oi := { dst := some 27, op := _, type := _, pos := _, after := _, guard := _ }) (v := ?_) rfl (by kernel_rfl) (by kernel_rfl) (by kernel_rfl) (fun _ _ _ h => h) (Or.inl ⟨by rfl, ?_⟩) hB8 ?_
            rotate_left
            · intro W hSw
              have e0 := (Below.cell hSw (cell_lt s0)).trans s0
              have e1 := (Below.cell hSw (cell_lt s1)).trans s1
              have d0 := (Below.cell hSw (cell_lt c0)).trans c0
              have d1 := (Below.cell hSw (cell_lt c1)).trans c1
              have d2 := (Below.cell hSw (cell_lt c2)).trans c2
              have d3 := (Below.cell hSw (cell_lt c3)).trans c3
              have d4 := (Below.cell hSw (cell_lt c4)).trans c4
              have d5 := (Below.cell hSw (cell_lt c5)).trans c5
              have d6 := (Below.cell hSw (cell_lt c6)).trans c6
              have d7 := (Below.cell hSw (cell_lt c7)).trans c7
              have d8 := (Below.cell hSw (cell_lt c8)).trans c8
              go_simp
              first | done | rfl
            try simp only [Act.put, List.setIfInBounds_toArray, List.set_cons_zero, List.set_cons_succ]
            refine wpAnyH_take (i := 13) (oi := { dst := some 29, op := _, type := _, pos := _, after := _, guard := _ }) (v := ?_) rfl (by kernel_rfl) (by kernel_rfl) (by kernel_rfl) (fun _ _ _ h => h) (Or.inl ⟨by rfl, ?_⟩) hB8 ?_
            rotate_left
            · intro W hSw
              have e0 := (Below.cell hSw (cell_lt s0)).trans s0
              have e1 := (Below.cell hSw (cell_lt s1)).trans s1
              have d0 := (Below.cell hSw (cell_lt c0)).trans c0
              have d1 := (Below.cell hSw (cell_lt c1)).trans c1
              have d2 := (Below.cell hSw (cell_lt c2)).trans c2
              have d3 := (Below.cell hSw (cell_lt c3)).trans c3
              have d4 := (Below.cell hSw (cell_lt c4)).trans c4
              have d5 := (Below.cell hSw (cell_lt c5)).trans c5
              have d6 := (Below.cell hSw (cell_lt c6)).trans c6
              have d7 := (Below.cell hSw (cell_lt c7)).trans c7
              have d8 := (Below.cell hSw (cell_lt c8)).trans c8
              go_simp
              first | done | rfl
            try simp only [Act.put, List.setIfInBounds_toArray, List.set_cons_zero, List.set_cons_succ]
            refine wpAnyH_take (i := 14) (oi := { dst := some 30, op := _, type := _, pos := _, after := _, guard := _ }) (v := ?_) rfl (by kernel_rfl) (by kernel_rfl) (by kernel_rfl) (fun _ _ _ h => h) (Or.inl ⟨by rfl, ?_⟩) hB8 ?_
            rotate_left
            · intro W hSw
              have e0 := (Below.cell hSw (cell_lt s0)).trans s0
              have e1 := (Below.cell hSw (cell_lt s1)).trans s1
              have d0 := (Below.cell hSw (cell_lt c0)).trans c0
              have d1 := (Below.cell hSw (cell_lt c1)).trans c1
              have d2 := (Below.cell hSw (cell_lt c2)).trans c2
              have d3 := (Below.cell hSw (cell_lt c3)).trans c3
              have d4 := (Below.cell hSw (cell_lt c4)).trans c4
              have d5 := (Below.cell hSw (cell_lt c5)).trans c5
              have d6 := (Below.cell hSw (cell_lt c6)).trans c6
              have d7 := (Below.cell hSw (cell_lt c7)).trans c7
              have d8 := (Below.cell hSw (cell_lt c8)).trans c8
              go_simp
              first | done | rfl
            try simp only [Act.put, List.setIfInBounds_toArray, List.set_cons_zero, List.set_cons_succ]
            refine wpAnyH_take (i := 15) (oi := { dst := some 31, op := _, type := _, pos := _, after := _, guard := _ }) (v := ?_) rfl (by kernel_rfl) (by kernel_rfl) (by kernel_rfl) (fun _ _ _ h => h) (Or.inl ⟨by rfl, ?_⟩) hB8 ?_
            rotate_left
            · intro W hSw
              have e0 := (Below.cell hSw (cell_lt s0)).trans s0
              have e1 := (Below.cell hSw (cell_lt s1)).trans s1
              have d0 := (Below.cell hSw (cell_lt c0)).trans c0
              have d1 := (Below.cell hSw (cell_lt c1)).trans c1
              have d2 := (Below.cell hSw (cell_lt c2)).trans c2
              have d3 := (Below.cell hSw (cell_lt c3)).trans c3
              have d4 := (Below.cell hSw (cell_lt c4)).trans c4
              have d5 := (Below.cell hSw (cell_lt c5)).trans c5
              have d6 := (Below.cell hSw (cell_lt c6)).trans c6
              have d7 := (Below.cell hSw (cell_lt c7)).trans c7
              have d8 := (Below.cell hSw (cell_lt c8)).trans c8
              go_simp
              first | done | rfl
            try simp only [Act.put, List.setIfInBounds_toArray, List.set_cons_zero, List.set_cons_succ]
            refine wpAnyH_take (i := 16) (oi := { dst := some 32, op := _, type := _, pos := _, after := _, guard := _ }) (v := ?_) rfl (by kernel_rfl) (by kernel_rfl) (by kernel_rfl) (fun _ _ _ h => h) (Or.inl ⟨by rfl, ?_⟩) hB8 ?_
            rotate_left
            · intro W hSw
              have e0 := (Below.cell hSw (cell_lt s0)).trans s0
              have e1 := (Below.cell hSw (cell_lt s1)).trans s1
              have d0 := (Below.cell hSw (cell_lt c0)).trans c0
              have d1 := (Below.cell hSw (cell_lt c1)).trans c1
              have d2 := (Below.cell hSw (cell_lt c2)).trans c2
              have d3 := (Below.cell hSw (cell_lt c3)).trans c3
              have d4 := (Below.cell hSw (cell_lt c4)).trans c4
              have d5 := (Below.cell hSw (cell_lt c5)).trans c5
              have d6 := (Below.cell hSw (cell_lt c6)).trans c6
              have d7 := (Below.cell hSw (cell_lt c7)).trans c7
              have d8 := (Below.cell hSw (cell_lt c8)).trans c8
              go_simp
              first | done | rfl
            try simp only [Act.put, List.setIfInBounds_toArray, List.set_cons_zero, List.set_cons_succ]
            refine wpAnyH_take (i := 17) (oi := { dst := some 33, op := _, type := _, pos := _, after := _, guard := _ }) (v := ?_) rfl (by kernel_rfl) (by kernel_rfl) (by kernel_rfl) (fun _ _ _ h => h) (Or.inl ⟨by rfl, ?_⟩) hB8 ?_
            rotate_left
            · intro W hSw
              have e0 := (Below.cell hSw (cell_lt s0)).trans s0
              have e1 := (Below.cell hSw (cell_lt s1)).trans s1
              have d0 := (Below.cell hSw (cell_lt c0)).trans c0
              have d1 := (Below.cell hSw (cell_lt c1)).trans c1
              have d2 := (Below.cell hSw (cell_lt c2)).trans c2
              have d3 := (Below.cell hSw (cell_lt c3)).trans c3
              have d4 := (Below.cell hSw (cell_lt c4)).trans c4
              have d5 := (Below.cell hSw (cell_lt c5)).trans c5
              have d6 := (Below.cell hSw (cell_lt c6)).trans c6
              have d7 := (Below.cell hSw (cell_lt c7)).trans c7
              have d8 := (Below.cell hSw (cell_lt c8)).trans c8
              go_simp
              first | done | rfl
            try simp only [Act.put, List.setIfInBounds_toArray, List.set_cons_zero, List.set_cons_succ]
            refine wpAnyH_take (i := 21) (oi := { dst := some 37, op := _, type := _, pos := _, after := _, guard := _ }) (v := ?_) rfl (by kernel_rfl) (by kernel_rfl) (by kernel_rfl) (fun _ _ _ h => h) (Or.inl ⟨by rfl, ?_⟩) hB8 ?_
            rotate_left
            · intro W hSw
              have e0 := (Below.cell hSw (cell_lt s0)).trans s0
              have e1 := (Below.cell hSw (cell_lt s1)).trans s1
              have d0 := (Below.cell hSw (cell_lt c0)).trans c0
              have d1 := (Below.cell hSw (cell_lt c1)).trans c1
              have d2 := (Below.cell hSw (cell_lt c2)).trans c2
              have d3 := (Below.cell hSw (cell_lt c3)).trans c3
              have d4 := (Below.cell hSw (cell_lt c4)).trans c4
              have d5 := (Below.cell hSw (cell_lt c5)).trans c5
              have d6 := (Below.cell hSw (cell_lt c6)).trans c6
              have d7 := (Below.cell hSw (cell_lt c7)).trans c7
              have d8 := (Below.cell hSw (cell_lt c8)).trans c8
              go_simp
              first | done | rfl
            try simp only [Act.put, List.setIfInBounds_toArray, List.set_cons_zero, List.set_cons_succ]
            refine wpAnyH_take (i := 18) (oi := { dst := some 34, op := _, type := _, pos := _, after := _, guard := _ }) (v := ?_) rfl (by kernel_rfl) (by kernel_rfl) (by kernel_rfl) (fun _ _ _ h => h) (Or.inl ⟨by rfl, ?_⟩) hB8 ?_
            rotate_left
            · intro W hSw
              have e0 := (Below.cell hSw (cell_lt s0)).trans s0
              have e1 := (Below.cell hSw (cell_lt s1)).trans s1
              have d0 := (Below.cell hSw (cell_lt c0)).trans c0
              have d1 := (Below.cell hSw (cell_lt c1)).trans c1
              have d2 := (Below.cell hSw (cell_lt c2)).trans c2
              have d3 := (Below.cell hSw (cell_lt c3)).trans c3
              have d4 := (Below.cell hSw (cell_lt c4)).trans c4
              have d5 := (Below.cell hSw (cell_lt c5)).trans c5
              have d6 := (Below.cell hSw (cell_lt c6)).trans c6
              have d7 := (Below.cell hSw (cell_lt c7)).trans c7
              have d8 := (Below.cell hSw (cell_lt c8)).trans c8
              go_simp
              first | done | rfl
            try simp only [Act.put, List.setIfInBounds_toArray, List.set_cons_zero, List.set_cons_succ]
            refine wpAnyH_take (i := 19) (oi := { dst := some 35, op := _, type := _, pos := _, after := _, guard := _ }) (v := ?_) rfl (by kernel_rfl) (by kernel_rfl) (by kernel_rfl) (fun _ _ _ h => h) (Or.inl ⟨by rfl, ?_⟩) hB8 ?_
            rotate_left
            · intro W hSw
              have e0 := (Below.cell hSw (cell_lt s0)).trans s0
              have e1 := (Below.cell hSw (cell_lt s1)).trans s1
              have d0 := (Below.cell hSw (cell_lt c0)).trans c0
              have d1 := (Below.cell hSw (cell_lt c1)).trans c1
              have d2 := (Below.cell hSw (cell_lt c2)).trans c2
              have d3 := (Below.cell hSw (cell_lt c3)).trans c3
              have d4 := (Below.cell hSw (cell_lt c4)).trans c4
              have d5 := (Below.cell hSw (cell_lt c5)).trans c5
              have d6 := (Below.cell hSw (cell_lt c6)).trans c6
              have d7 := (Below.cell hSw (cell_lt c7)).trans c7
              have d8 := (Below.cell hSw (cell_lt c8)).trans c8
              go_simp
              first | done | rfl
            try simp only [Act.put, List.setIfInBounds_toArray, List.set_cons_zero, List.set_cons_succ]
            refine wpAnyH_take (i := 20) (oi := { dst := some 36, op := _, type := _, pos := _, after := _, guard := _ }) (v := ?_) rfl (by kernel_rfl) (by kernel_rfl) (by kernel_rfl) (fun _ _ _ h => h) (Or.inl ⟨by rfl, ?_⟩) hB8 ?_
            rotate_left
            · intro W hSw
              have e0 := (Below.cell hSw (cell_lt s0)).trans s0
              have e1 := (Below.cell hSw (cell_lt s1)).trans s1
              have d0 := (Below.cell hSw (cell_lt c0)).trans c0
              have d1 := (Below.cell hSw (cell_lt c1)).trans c1
              have d2 := (Below.cell hSw (cell_lt c2)).trans c2
              have d3 := (Below.cell hSw (cell_lt c3)).trans c3
              have d4 := (Below.cell hSw (cell_lt c4)).trans c4
              have d5 := (Below.cell hSw (cell_lt c5)).trans c5
              have d6 := (Below.cell hSw (cell_lt c6)).trans c6
              have d7 := (Below.cell hSw (cell_lt c7)).trans c7
              have d8 := (Below.cell hSw (cell_lt c8)).trans c8
              go_simp
              first | done | rfl
            try simp only [Act.put, List.setIfInBounds_toArray, List.set_cons_zero, List.set_cons_succ]
            refine wpAnyH_take (i := 22) (oi := { dst := some 38, op := _, type := _, pos := _, after := _, guard := _ }) (v := ?_) rfl (by kernel_rfl) (by kernel_rfl) (by kernel_rfl) (fun _ _ _ h => h) (Or.inl ⟨by rfl, ?_⟩) hB8 ?_
            rotate_left
            · intro W hSw
              have e0 := (Below.cell hSw (cell_lt s0)).trans s0
              have e1 := (Below.cell hSw (cell_lt s1)).trans s1
              have d0 := (Below.cell hSw (cell_lt c0)).trans c0
              have d1 := (Below.cell hSw (cell_lt c1)).trans c1
              have d2 := (Below.cell hSw (cell_lt c2)).trans c2
              have d3 := (Below.cell hSw (cell_lt c3)).trans c3
              have d4 := (Below.cell hSw (cell_lt c4)).trans c4
              have d5 := (Below.cell hSw (cell_lt c5)).trans c5
              have d6 := (Below.cell hSw (cell_lt c6)).trans c6
              have d7 := (Below.cell hSw (cell_lt c7)).trans c7
              have d8 := (Below.cell hSw (cell_lt c8)).trans c8
              go_simp
              first | done | rfl
            try simp only [Act.put, List.setIfInBounds_toArray, List.set_cons_zero, List.set_cons_succ]
            refine wpAnyH_take (i := 23) (oi := { dst := some 39, op := _, type := _, pos := _, after := _, guard := _ }) (v := ?_) rfl (by kernel_rfl) (by kernel_rfl) (by kernel_rfl) (fun _ _ _ h => h) (Or.inl ⟨by rfl, ?_⟩) hB8 ?_
            rotate_left
            · intro W hSw
              have e0 := (Below.cell hSw (cell_lt s0)).trans s0
              have e1 := (Below.cell hSw (cell_lt s1)).trans s1
              have d0 := (Below.cell hSw (cell_lt c0)).trans c0
              have d1 := (Below.cell hSw (cell_lt c1)).trans c1
              have d2 := (Below.cell hSw (cell_lt c2)).trans c2
              have d3 := (Below.cell hSw (cell_lt c3)).trans c3
              have d4 := (Below.cell hSw (cell_lt c4)).trans c4
              have d5 := (Below.cell hSw (cell_lt c5)).trans c5
              have d6 := (Below.cell hSw (cell_lt c6)).trans c6
              have d7 := (Below.cell hSw (cell_lt c7)).trans c7
              have d8 := (Below.cell hSw (cell_lt c8)).trans c8
              go_simp
              first | done | rfl
            try simp only [Act.put, List.setIfInBounds_toArray, List.set_cons_zero, List.set_cons_succ]
            refine wpAnyH_done (by kernel_rfl) ?_ _
            refine NoPanic.normal ?_
            go_wp2_with fail
            go_ret
            exact ⟨ret_bool HY.out, hbl.trans (hB8.mono hbl.size)⟩
          · have HN : Hid (Bud.hit r (l.take (j + 1)) who sec = false) := Lib.hid (by rw [HT.out]; simp [q2])
            have q2' : (nn == sec) = false := by simp [q2]
            subst q1
            clear hrb q2
            go_wp2_with fail
            refine wp_region_noPanic ?_
            refine wp_region_held_drew (S := fun W => Below wr.heap.size wr W) (by kernel_rfl) (show Below wr.heap.size wr wr.drew from (Below.refl _ _).drew) (fun hHeld => ?_)
            have hsz0 := hHeld.size
            generalize wr.drew = w7 at *
            refine wpAnyH_take (i := 0) (oi := { dst := some 16, op := _, type := _, pos := _, after := _, guard := _ }) (v := ?_) rfl (by kernel_rfl) (by kernel_rfl) (by kernel_rfl) (fun _ _ _ h => h) (Or.inl ⟨by rfl, ?_⟩) hHeld ?_
            rotate_left
            · intro W hSw
              have e0 := (Below.cell hSw (cell_lt s0)).trans s0
              have e1 := (Below.cell hSw (cell_lt s1)).trans s1
              have d0 := (Below.cell hSw (cell_lt c0)).trans c0
              have d1 := (Below.cell hSw (cell_lt c1)).trans c1
              have d2 := (Below.cell hSw (cell_lt c2)).trans c2
              have d3 := (Below.cell hSw (cell_lt c3)).trans c3
              have d4 := (Below.cell hSw (cell_lt c4)).trans c4
              have d5 := (Below.cell hSw (cell_lt c5)).trans c5
              have d6 := (Below.cell hSw (cell_lt c6)).trans c6
              have d7 := (Below.cell hSw (cell_lt c7)).trans c7
              have d8 := (Below.cell hSw (cell_lt c8)).trans c8
              go_simp
              first | done | rfl
            try simp only [Act.put, List.setIfInBounds_toArray, List.set_cons_zero, List.set_cons_succ]
            refine wpAnyH_take (i := 1) (oi := { dst := some 17, op := _, type := _, pos := _, after := _, guard := _ }) (v := ?_) rfl (by kernel_rfl) (by kernel_rfl) (by kernel_rfl) (fun _ _ _ h => h) (Or.inl ⟨by rfl, ?_⟩) hHeld ?_
            rotate_left
            · intro W hSw
              have e0 := (Below.cell hSw (cell_lt s0)).trans s0
              have e1 := (Below.cell hSw (cell_lt s1)).trans s1
              have d0 := (Below.cell hSw (cell_lt c0)).trans c0
              have d1 := (Below.cell hSw (cell_lt c1)).trans c1
              have d2 := (Below.cell hSw (cell_lt c2)).trans c2
              have d3 := (Below.cell hSw (cell_lt c3)).trans c3
              have d4 := (Below.cell hSw (cell_lt c4)).trans c4
              have d5 := (Below.cell hSw (cell_lt c5)).trans c5
              have d6 := (Below.cell hSw (cell_lt c6)).trans c6
              have d7 := (Below.cell hSw (cell_lt c7)).trans c7
              have d8 := (Below.cell hSw (cell_lt c8)).trans c8
              go_simp
              first | done | rfl
            try simp only [Act.put, List.setIfInBounds_toArray, List.set_cons_zero, List.set_cons_succ]
            refine wpAnyH_take (i := 2) (oi := { dst := some 18, op := _, type := _, pos := _, after := _, guard := _ }) (v := ?_) rfl (by kernel_rfl) (by kernel_rfl) (by kernel_rfl) (fun _ _ _ h => h) (Or.inl ⟨by rfl, ?_⟩) hHeld ?_
            rotate_left
            · intro W hSw
              have e0 := (Below.cell hSw (cell_lt s0)).trans s0
              have e1 := (Below.cell hSw (cell_lt s1)).trans s1
              have d0 := (Below.cell hSw (cell_lt c0)).trans c0
              have d1 := (Below.cell hSw (cell_lt c1)).trans c1
              have d2 := (Below.cell hSw (cell_lt c2)).trans c2
              have d3 := (Below.cell hSw (cell_lt c3)).trans c3
              have d4 := (Below.cell hSw (cell_lt c4)).trans c4
              have d5 := (Below.cell hSw (cell_lt c5)).trans c5
              have d6 := (Below.cell hSw (cell_lt c6)).trans c6
              have d7 := (Below.cell hSw (cell_lt c7)).trans c7
              have d8 := (Below.cell hSw (cell_lt c8)).trans c8
              go_simp
              first | done | rfl
            try simp only [Act.put, List.setIfInBounds_toArray, List.set_cons_zero, List.set_cons_succ]
            refine wpAnyH_take (i := 3) (oi := { dst := some 19, op := _, type := _, pos := _, after := _, guard := _ }) (v := ?_) rfl (by kernel_rfl) (by kernel_rfl) (by kernel_rfl) (fun _ _ _ h => h) (Or.inl ⟨by rfl, ?_⟩) hHeld ?_
            rotate_left
            · intro W hSw
              have e0 := (Below.cell hSw (cell_lt s0)).trans s0
              have e1 := (Below.cell hSw (cell_lt s1)).trans s1
              have d0 := (Below.cell hSw (cell_lt c0)).trans c0
              have d1 := (Below.cell hSw (cell_lt c1)).trans c1
              have d2 := (Below.cell hSw (cell_lt c2)).trans c2
              have d3 := (Below.cell hSw (cell_lt c3)).trans c3
              have d4 := (Below.cell hSw (cell_lt c4)).trans c4
              have d5 := (Below.cell hSw (cell_lt c5)).trans c5
              have d6 := (Below.cell hSw (cell_lt c6)).trans c6
              have d7 := (Below.cell hSw (cell_lt c7)).trans c7
              have d8 := (Below.cell hSw (cell_lt c8)).trans c8
              go_simp
              first | done | rfl
            try simp only [Act.put, List.setIfInBounds_toArray, List.set_cons_zero, List.set_cons_succ]
            refine wpAnyH_take (i := 4) (oi := { dst := some 20, op := _, type := _, pos := _, after := _, guard := _ }) (v := ?_) rfl (by kernel_rfl) (by kernel_rfl) (by kernel_rfl) (fun _ _ _ h => h) (Or.inl ⟨by rfl, ?_⟩) hHeld ?_
            rotate_left
            · intro W hSw
              have e0 := (Below.cell hSw (cell_lt s0)).trans s0
              have e1 := (Below.cell hSw (cell_lt s1)).trans s1
              have d0 := (Below.cell hSw (cell_lt c0)).trans c0
              have d1 := (Below.cell hSw (cell_lt c1)).trans c1
              have d2 := (Below.cell hSw (cell_lt c2)).trans c2
              have d3 := (Below.cell hSw (cell_lt c3)).trans c3
              have d4 := (Below.cell hSw (cell_lt c4)).trans c4
              have d5 := (Below.cell hSw (cell_lt c5)).trans c5
              have d6 := (Below.cell hSw (cell_lt c6)).trans c6
              have d7 := (Below.cell hSw (cell_lt c7)).trans c7
              have d8 := (Below.cell hSw (cell_lt c8)).trans c8
              go_simp
              first | done | rfl
            try simp only [Act.put, List.setIfInBounds_toArray, List.set_cons_zero, List.set_cons_succ]
            refine wpAnyH_ready (rs := [5]) (by kernel_rfl) (by simp) ?_
            refine AllReadyH.cons (o := { dst := some 21, op := _, type := _, pos := _, after := _, guard := _ }) rfl (fun K hK => ?_) AllReadyH.nil
            go_simp
            refine (HROT.out _).mono ?_
            rintro e w8 ⟨rfl, hb8⟩
            have hB8 := hHeld.trans (hb8.mono hHeld.size)
            clear hb8
            refine hK.out _ _ hB8 (fun _ => ?_)
            clear hK K
            try simp only [Act.put, List.setIfInBounds_toArray, List.set_cons_zero, List.set_cons_succ]
            refine wpAnyH_take (i := 6) (oi := { dst := some 22, op := _, type := _, pos := _, after := _, guard := _ }) (v := ?_) rfl (by kernel_rfl) (by kernel_rfl) (by kernel_rfl) (fun _ _ _ h => h) (Or.inl ⟨by rfl, ?_⟩) hB8 ?_
            rotate_left
            · intro W hSw
              have e0 := (Below.cell hSw (cell_lt s0)).trans s0
              have e1 := (Below.cell hSw (cell_lt s1)).trans s1
              have d0 := (Below.cell hSw (cell_lt c0)).trans c0
              have d1 := (Below.cell hSw (cell_lt c1)).trans c1
              have d2 := (Below.cell hSw (cell_lt c2)).trans c2
              have d3 := (Below.cell hSw (cell_lt c3)).trans c3
              have d4 := (Below.cell hSw (cell_lt c4)).trans c4
              have d5 := (Below.cell hSw (cell_lt c5)).trans c5
              have d6 := (Below.cell hSw (cell_lt c6)).trans c6
              have d7 := (Below.cell hSw (cell_lt c7)).trans c7
              have d8 := (Below.cell hSw (cell_lt c8)).trans c8
              go_simp
              first | done | rfl
            try simp only [Act.put, List.setIfInBounds_toArray, List.set_cons_zero, List.set_cons_succ]
            refine wpAnyH_take (i := 7) (oi := { dst := some 23, op := _, type := _, pos := _, after := _, guard := _ }) (v := ?_) rfl (by kernel_rfl) (by kernel_rfl) (by kernel_rfl) (fun _ _ _ h => h) (Or.inl ⟨by rfl, ?_⟩) hB8 ?_
            rotate_left
            · intro W hSw
              have e0 := (Below.cell hSw (cell_lt s0)).trans s0
              have e1 := (Below.cell hSw (cell_lt s1)).trans s1
              have d0 := (Below.cell hSw (cell_lt c0)).trans c0
              have d1 := (Below.cell hSw (cell_lt c1)).trans c1
              have d2 := (Below.cell hSw (cell_lt c2)).trans c2
              have d3 := (Below.cell hSw (cell_lt c3)).trans c3
              have d4 := (Below.cell hSw (cell_lt c4)).trans c4
              have d5 := (Below.cell hSw (cell_lt c5)).trans c5
              have d6 := (Below.cell hSw (cell_lt c6)).trans c6
              have d7 := (Below.cell hSw (cell_lt c7)).trans c7
              have d8 := (Below.cell hSw (cell_lt c8)).trans c8
              go_simp
              first | done | rfl
            try simp only [Act.put, List.setIfInBounds_toArray, List.set_cons_zero, List.set_cons_succ]
            refine wpAnyH_take (i := 8) (oi := { dst := some 24, op := _, type := _, pos := _, after := _, guard := _ }) (v := ?_) rfl (by kernel_rfl) (by kernel_rfl) (by kernel_rfl) (fun _ _ _ h => h) (Or.inl ⟨by rfl, ?_⟩) hB8 ?_
            rotate_left
            · intro W hSw
              have e0 := (Below.cell hSw (cell_lt s0)).trans s0
              have e1 := (Below.cell hSw (cell_lt s1)).trans s1
              have d0 := (Below.cell hSw (cell_lt c0)).trans c0
              have d1 := (Below.cell hSw (cell_lt c1)).trans c1
              have d2 := (Below.cell hSw (cell_lt c2)).trans c2
              have d3 := (Below.cell hSw (cell_lt c3)).trans c3
              have d4 := (Below.cell hSw (cell_lt c4)).trans c4
              have d5 := (Below.cell hSw (cell_lt c5)).trans c5
              have d6 := (Below.cell hSw (cell_lt c6)).trans c6
              have d7 := (Below.cell hSw (cell_lt c7)).trans c7
              have d8 := (Below.cell hSw (cell_lt c8)).trans c8
              go_simp
              first | done | rfl
            try simp only [Act.put, List.setIfInBounds_toArray, List.set_cons_zero, List.set_cons_succ]
            refine wpAnyH_take (i := 12) (oi := { dst := some 28, op := _, type := _, pos := _, after := _, guard := _ }) (v := ?_) rfl (by kernel_rfl) (by kernel_rfl) (by kernel_rfl) (fun _ _ _ h => h) (Or.inl ⟨by rfl, ?_⟩) hB8 ?_
            rotate_left
            · intro W hSw
              have e0 := (Below.cell hSw (cell_lt s0)).trans s0
              have e1 := (Below.cell hSw (cell_lt s1)).trans s1
              have d0 := (Below.cell hSw (cell_lt c0)).trans c0
              have d1 := (Below.cell hSw (cell_lt c1)).trans c1
              have d2 := (Below.cell hSw (cell_lt c2)).trans c2
              have d3 := (Below.cell hSw (cell_lt c3)).trans c3
              have d4 := (Below.cell hSw (cell_lt c4)).trans c4
              have d5 := (Below.cell hSw (cell_lt c5)).trans c5
              have d6 := (Below.cell hSw (cell_lt c6)).trans c6
              have d7 := (Below.cell hSw (cell_lt c7)).trans c7
              have d8 := (Below.cell hSw (cell_lt c8)).trans c8
              go_simp
              first | done | rfl
            try simp only [Act.put, List.setIfInBounds_toArray, List.set_cons_zero, List.set_cons_succ]
            refine wpAnyH_take (i := 9) (oi := { dst := some 25, op := _, type := _, pos := _, after := _, guard := _ }) (v := ?_) rfl (by kernel_rfl) (by kernel_rfl) (by kernel_rfl) (fun _ _ _ h => h) (Or.inl ⟨by rfl, ?_⟩) hB8 ?_
            rotate_left
            · intro W hSw
              have e0 := (Below.cell hSw (cell_lt s0)).trans s0
              have e1 := (Below.cell hSw (cell_lt s1)).trans s1
              have d0 := (Below.cell hSw (cell_lt c0)).trans c0
              have d1 := (Below.cell hSw (cell_lt c1)).trans c1
              have d2 := (Below.cell hSw (cell_lt c2)).trans c2
              have d3 := (Below.cell hSw (cell_lt c3)).trans c3
              have d4 := (Below.cell hSw (cell_lt c4)).trans c4
              have d5 := (Below.cell hSw (cell_lt c5)).trans c5
              have d6 := (Below.cell hSw (cell_lt c6)).trans c6
              have d7 := (Below.cell hSw (cell_lt c7)).trans c7
              have d8 := (Below.cell hSw (cell_lt c8)).trans c8
              go_simp
              first | done | rfl
            try simp only [Act.put, List.setIfInBounds_toArray, List.set_cons_zero, List.set_cons_succ]
            refine wpAnyH_take (i := 10) (oi := { dst := some 26, op := _, type := _, pos := _, after := _, guard := _ }) (v := ?_) rfl (by kernel_rfl) (by kernel_rfl) (by kernel_rfl) (fun _ _ _ h => h) (Or.inl ⟨by rfl, ?_⟩) hB8 ?_
            rotate_left
            · intro W hSw
              have e0 := (Below.cell hSw (cell_lt s0)).trans s0
              have e1 := (Below.cell hSw (cell_lt s1)).trans s1
              have d0 := (Below.cell hSw (cell_lt c0)).trans c0
              have d1 := (Below.cell hSw (cell_lt c1)).trans c1
              have d2 := (Below.cell hSw (cell_lt c2)).trans c2
              have d3 := (Below.cell hSw (cell_lt c3)).trans c3
              have d4 := (Below.cell hSw (cell_lt c4)).trans c4
              have d5 := (Below.cell hSw (cell_lt c5)).trans c5
              have d6 := (Below.cell hSw (cell_lt c6)).trans c6
              have d7 := (Below.cell hSw (cell_lt c7)).trans c7
              have d8 := (Below.cell hSw (cell_lt c8)).trans c8
              go_simp
              first | done | rfl
            try simp only [Act.put, List.setIfInBounds_toArray, List.set_cons_zero, List.set_cons_succ]
            refine wpAnyH_take (i := 11) (oi := { dst := some 27, op := _, type := _, pos := _, after := _, guard := _ }) (v := ?_) rfl (by kernel_rfl) (by kernel_rfl) (by kernel_rfl) (fun _ _ _ h => h) (Or.inl ⟨by rfl, ?_⟩) hB8 ?_
            rotate_left
            · intro W hSw
              have e0 := (Below.cell hSw (cell_lt s0)).trans s0
              have e1 := (Below.cell hSw (cell_lt s1)).trans s1
              have d0 := (Below.cell hSw (cell_lt c0)).trans c0
              have d1 := (Below.cell hSw (cell_lt c1)).trans c1
              have d2 := (Below.cell hSw (cell_lt c2)).trans c2
              have d3 := (Below.cell hSw (cell_lt c3)).trans c3
              have d4 := (Below.cell hSw (cell_lt c4)).trans c4
              have d5 := (Below.cell hSw (cell_lt c5)).trans c5
              have d6 := (Below.cell hSw (cell_lt c6)).trans c6
              have d7 := (Below.cell hSw (cell_lt c7)).trans c7
              have d8 := (Below.cell hSw (cell_lt c8)).trans c8
              go_simp
              first | done | rfl
            try simp only [Act.put, List.setIfInBounds_toArray, List.set_cons_zero, List.set_cons_succ]
            refine wpAnyH_take (i := 13) (oi := { dst := some 29, op := _, type := _, pos := _, after := _, guard := _ }) (v := ?_) rfl (by kernel_rfl) (by kernel_rfl) (by kernel_rfl) (fun _ _ _ h => h) (Or.inl ⟨by rfl, ?_⟩) hB8 ?_
            rotate_left
            · intro W hSw
              have e0 := (Below.cell hSw (cell_lt s0)).trans s0
              have e1 := (Below.cell hSw (cell_lt s1)).trans s1
              have d0 := (Below.cell hSw (cell_lt c0)).trans c0
              have d1 := (Below.cell hSw (cell_lt c1)).trans c1
              have d2 := (Below.cell hSw (cell_lt c2)).trans c2
              have d3 := (Below.cell hSw (cell_lt c3)).trans c3
              have d4 := (Below.cell hSw (cell_lt c4)).trans c4
              have d5 := (Below.cell hSw (cell_lt c5)).trans c5
              have d6 := (Below.cell hSw (cell_lt c6)).trans c6
              have d7 := (Below.cell hSw (cell_lt c7)).trans c7
              have d8 := (Below.cell hSw (cell_lt c8)).trans c8
              go_simp
              first | done | rfl
            try simp only [Act.put, List.setIfInBounds_toArray, List.set_cons_zero, List.set_cons_succ]
            refine wpAnyH_take (i := 14) (oi := { dst := some 30, op := _, type := _, pos := _, after := _, guard := _ }) (v := ?_) rfl (by kernel_rfl) (by kernel_rfl) (by kernel_rfl) (fun _ _ _ h => h) (Or.inl ⟨by rfl, ?_⟩) hB8 ?_
            rotate_left
            · intro W hSw
              have e0 := (Below.cell hSw (cell_lt s0)).trans s0
              have e1 := (Below.cell hSw (cell_lt s1)).trans s1
              have d0 := (Below.cell hSw (cell_lt c0)).trans c0
              have d1 := (Below.cell hSw (cell_lt c1)).trans c1
              have d2 := (Below.cell hSw (cell_lt c2)).trans c2
              have d3 := (Below.cell hSw (cell_lt c3)).trans c3
              have d4 := (Below.cell hSw (cell_lt c4)).trans c4
              have d5 := (Below.cell hSw (cell_lt c5)).trans c5
              have d6 := (Below.cell hSw (cell_lt c6)).trans c6
              have d7 := (Below.cell hSw (cell_lt c7)).trans c7
              have d8 := (Below.cell hSw (cell_lt c8)).trans c8
              go_simp
              first | done | rfl
            try simp only [Act.put, List.setIfInBounds_toArray, List.set_cons_zero, List.set_cons_succ]
            refine wpAnyH_take (i := 15) (oi := { dst := some 31, op := _, type := _, pos := _, after := _, guard := _ }) (v := ?_) rfl (by kernel_rfl) (by kernel_rfl) (by kernel_rfl) (fun _ _ _ h => h) (Or.inl ⟨by rfl, ?_⟩) hB8 ?_
            rotate_left
            · intro W hSw
              have e0 := (Below.cell hSw (cell_lt s0)).trans s0
              have e1 := (Below.cell hSw (cell_lt s1)).trans s1
              have d0 := (Below.cell hSw (cell_lt c0)).trans c0
              have d1 := (Below.cell hSw (cell_lt c1)).trans c1
              have d2 := (Below.cell hSw (cell_lt c2)).trans c2
              have d3 := (Below.cell hSw (cell_lt c3)).trans c3
              have d4 := (Below.cell hSw (cell_lt c4)).trans c4
              have d5 := (Below.cell hSw (cell_lt c5)).trans c5
              have d6 := (Below.cell hSw (cell_lt c6)).trans c6
              have d7 := (Below.cell hSw (cell_lt c7)).trans c7
              have d8 := (Below.cell hSw (cell_lt c8)).trans c8
              go_simp
              first | done | rfl
            try simp only [Act.put, List.setIfInBounds_toArray, List.set_cons_zero, List.set_cons_succ]
            refine wpAnyH_take (i := 16) (oi := { dst := some 32, op := _, type := _, pos := _, after := _, guard := _ }) (v := ?_) rfl (by kernel_rfl) (by kernel_rfl) (by kernel_rfl) (fun _ _ _ h => h) (Or.inl ⟨by rfl, ?_⟩) hB8 ?_
            rotate_left
            · intro W hSw
              have e0 := (Below.cell hSw (cell_lt s0)).trans s0
              have e1 := (Below.cell hSw (cell_lt s1)).trans s1
              have d0 := (Below.cell hSw (cell_lt c0)).trans c0
              have d1 := (Below.cell hSw (cell_lt c1)).trans c1
              have d2 := (Below.cell hSw (cell_lt c2)).trans c2
              have d3 := (Below.cell hSw (cell_lt c3)).trans c3
              have d4 := (Below.cell hSw (cell_lt c4)).trans c4
              have d5 := (Below.cell hSw (cell_lt c5)).trans c5
              have d6 := (Below.cell hSw (cell_lt c6)).trans c6
              have d7 := (Below.cell hSw (cell_lt c7)).trans c7
              have d8 := (Below.cell hSw (cell_lt c8)).trans c8
              go_simp
              first | done | rfl
            try simp only [Act.put, List.setIfInBounds_toArray, List.set_cons_zero, List.set_cons_succ]
            refine wpAnyH_take (i := 17) (oi := { dst := some 33, op := _, type := _, pos := _, after := _, guard := _ }) (v := ?_) rfl (by kernel_rfl) (by kernel_rfl) (by kernel_rfl) (fun _ _ _ h => h) (Or.inl ⟨by rfl, ?_⟩) hB8 ?_
            rotate_left
            · intro W hSw
              have e0 := (Below.cell hSw (cell_lt s0)).trans s0
              have e1 := (Below.cell hSw (cell_lt s1)).trans s1
              have d0 := (Below.cell hSw (cell_lt c0)).trans c0
              have d1 := (Below.cell hSw (cell_lt c1)).trans c1
              have d2 := (Below.cell hSw (cell_lt c2)).trans c2
              have d3 := (Below.cell hSw (cell_lt c3)).trans c3
              have d4 := (Below.cell hSw (cell_lt c4)).trans c4
              have d5 := (Below.cell hSw (cell_lt c5)).trans c5
              have d6 := (Below.cell hSw (cell_lt c6)).trans c6
              have d7 := (Below.cell hSw (cell_lt c7)).trans c7
              have d8 := (Below.cell hSw (cell_lt c8)).trans c8
              go_simp
              first | done | rfl
            try simp only [Act.put, List.setIfInBounds_toArray, List.set_cons_zero, List.set_cons_succ]
            refine wpAnyH_take (i := 21) (oi := { dst := some 37, op := _, type := _, pos := _, after := _, guard := _ }) (v := ?_) rfl (by kernel_rfl) (by kernel_rfl) (by kernel_rfl) (fun _ _ _ h => h) (Or.inl ⟨by rfl, ?_⟩) hB8 ?_
            rotate_left
            · intro W hSw
              have e0 := (Below.cell hSw (cell_lt s0)).trans s0
              have e1 := (Below.cell hSw (cell_lt s1)).trans s1
              have d0 := (Below.cell hSw (cell_lt c0)).trans c0
              have d1 := (Below.cell hSw (cell_lt c1)).trans c1
              have d2 := (Below.cell hSw (cell_lt c2)).trans c2
              have d3 := (Below.cell hSw (cell_lt c3)).trans c3
              have d4 := (Below.cell hSw (cell_lt c4)).trans c4
              have d5 := (Below.cell hSw (cell_lt c5)).trans c5
              have d6 := (Below.cell hSw (cell_lt c6)).trans c6
              have d7 := (Below.cell hSw (cell_lt c7)).trans c7
              have d8 := (Below.cell hSw (cell_lt c8)).trans c8
              go_simp
              first | done | rfl
            try simp only [Act.put, List.setIfInBounds_toArray, List.set_cons_zero, List.set_cons_succ]
            refine wpAnyH_take (i := 18) (oi := { dst := some 34, op := _, type := _, pos := _, after := _, guard := _ }) (v := ?_) rfl (by kernel_rfl) (by kernel_rfl) (by kernel_rfl) (fun _ _ _ h => h) (Or.inl ⟨by rfl, ?_⟩) hB8 ?_
            rotate_left
            · intro W hSw
              have e0 := (Below.cell hSw (cell_lt s0)).trans s0
              have e1 := (Below.cell hSw (cell_lt s1)).trans s1
              have d0 := (Below.cell hSw (cell_lt c0)).trans c0
              have d1 := (Below.cell hSw (cell_lt c1)).trans c1
              have d2 := (Below.cell hSw (cell_lt c2)).trans c2
              have d3 := (Below.cell hSw (cell_lt c3)).trans c3
              have d4 := (Below.cell hSw (cell_lt c4)).trans c4
              have d5 := (Below.cell hSw (cell_lt c5)).trans c5
              have d6 := (Below.cell hSw (cell_lt c6)).trans c6
              have d7 := (Below.cell hSw (cell_lt c7)).trans c7
              have d8 := (Below.cell hSw (cell_lt c8)).trans c8
              go_simp
              first | done | rfl
            try simp only [Act.put, List.setIfInBounds_toArray, List.set_cons_zero, List.set_cons_succ]
            refine wpAnyH_take (i := 19) (oi := { dst := some 35, op := _, type := _, pos := _, after := _, guard := _ }) (v := ?_) rfl (by kernel_rfl) (by kernel_rfl) (by kernel_rfl) (fun _ _ _ h => h) (Or.inl ⟨by rfl, ?_⟩) hB8 ?_
            rotate_left
            · intro W hSw
              have e0 := (Below.cell hSw (cell_lt s0)).trans s0
              have e1 := (Below.cell hSw (cell_lt s1)).trans s1
              have d0 := (Below.cell hSw (cell_lt c0)).trans c0
              have d1 := (Below.cell hSw (cell_lt c1)).trans c1
              have d2 := (Below.cell hSw (cell_lt c2)).trans c2
              have d3 := (Below.cell hSw (cell_lt c3)).trans c3
              have d4 := (Below.cell hSw (cell_lt c4)).trans c4
              have d5 := (Below.cell hSw (cell_lt c5)).trans c5
              have d6 := (Below.cell hSw (cell_lt c6)).trans c6
              have d7 := (Below.cell hSw (cell_lt c7)).trans c7
              have d8 := (Below.cell hSw (cell_lt c8)).trans c8
              go_simp
              first | done | rfl
            try simp only [Act.put, List.setIfInBounds_toArray, List.set_cons_zero, List.set_cons_succ]
            refine wpAnyH_take (i := 20) (oi := { dst := some 36, op := _, type := _, pos := _, after := _, guard := _ }) (v := ?_) rfl (by kernel_rfl) (by kernel_rfl) (by kernel_rfl) (fun _ _ _ h => h) (Or.inl ⟨by rfl, ?_⟩) hB8 ?_
            rotate_left
            · intro W hSw
              have e0 := (Below.cell hSw (cell_lt s0)).trans s0
              have e1 := (Below.cell hSw (cell_lt s1)).trans s1
              have d0 := (Below.cell hSw (cell_lt c0)).trans c0
              have d1 := (Below.cell hSw (cell_lt c1)).trans c1
              have d2 := (Below.cell hSw (cell_lt c2)).trans c2
              have d3 := (Below.cell hSw (cell_lt c3)).trans c3
              have d4 := (Below.cell hSw (cell_lt c4)).trans c4
              have d5 := (Below.cell hSw (cell_lt c5)).trans c5
              have d6 := (Below.cell hSw (cell_lt c6)).trans c6
              have d7 := (Below.cell hSw (cell_lt c7)).trans c7
              have d8 := (Below.cell hSw (cell_lt c8)).trans c8
              go_simp
              first | done | rfl
            try simp only [Act.put, List.setIfInBounds_toArray, List.set_cons_zero, List.set_cons_succ]
            refine wpAnyH_take (i := 22) (oi := { dst := some 38, op := _, type := _, pos := _, after := _, guard := _ }) (v := ?_) rfl (by kernel_rfl) (by kernel_rfl) (by kernel_rfl) (fun _ _ _ h => h) (Or.inl ⟨by rfl, ?_⟩) hB8 ?_
            rotate_left
            · intro W hSw
              have e0 := (Below.cell hSw (cell_lt s0)).trans s0
              have e1 := (Below.cell hSw (cell_lt s1)).trans s1
              have d0 := (Below.cell hSw (cell_lt c0)).trans c0
              have d1 := (Below.cell hSw (cell_lt c1)).trans c1
              have d2 := (Below.cell hSw (cell_lt c2)).trans c2
              have d3 := (Below.cell hSw (cell_lt c3)).trans c3
              have d4 := (Below.cell hSw (cell_lt c4)).trans c4
              have d5 := (Below.cell hSw (cell_lt c5)).trans c5
              have d6 := (Below.cell hSw (cell_lt c6)).trans c6
              have d7 := (Below.cell hSw (cell_lt c7)).trans c7
              have d8 := (Below.cell hSw (cell_lt c8)).trans c8
              go_simp
              first | done | rfl
            try simp only [Act.put, List.setIfInBounds_toArray, List.set_cons_zero, List.set_cons_succ]
            refine wpAnyH_take (i := 23) (oi := { dst := some 39, op := _, type := _, pos := _, after := _, guard := _ }) (v := ?_) rfl (by kernel_rfl) (by kernel_rfl) (by kernel_rfl) (fun _ _ _ h => h) (Or.inl ⟨by rfl, ?_⟩) hB8 ?_
            rotate_left
            · intro W hSw
              have e0 := (Below.cell hSw (cell_lt s0)).trans s0
              have e1 := (Below.cell hSw (cell_lt s1)).trans s1
              have d0 := (Below.cell hSw (cell_lt c0)).trans c0
              have d1 := (Below.cell hSw (cell_lt c1)).trans c1
              have d2 := (Below.cell hSw (cell_lt c2)).trans c2
              have d3 := (Below.cell hSw (cell_lt c3)).trans c3
              have d4 := (Below.cell hSw (cell_lt c4)).trans c4
              have d5 := (Below.cell hSw (cell_lt c5)).trans c5
              have d6 := (Below.cell hSw (cell_lt c6)).trans c6
              have d7 := (Below.cell hSw (cell_lt c7)).trans c7
              have d8 := (Below.cell hSw (cell_lt c8)).trans c8
              go_simp
              first | done | rfl
            try simp only [Act.put, List.setIfInBounds_toArray, List.set_cons_zero, List.set_cons_succ]
            refine wpAnyH_done (by kernel_rfl) ?_ _
            refine NoPanic.normal ?_
            go_wp2_with fail
            go_roundw
            case rel => exact ⟨j + 1, by omega, by go_num, HN.out, hbs.trans (hB8.mono hbs.size)⟩
            case measure => simp [intOf]; omega
        · have HN : Hid (Bud.hit r (l.take (j + 1)) who sec = false) := Lib.hid (by rw [HT.out]; simp [q1])
          have q1' : (wh == who) = false := by simp [q1]
          clear hrb q1
          go_wp2_with fail
          refine wp_region_noPanic ?_
          refine wp_region_held_drew (S := fun W => Below wr.heap.size wr W) (by kernel_rfl) (show Below wr.heap.size wr wr.drew from (Below.refl _ _).drew) (fun hHeld => ?_)
          have hsz0 := hHeld.size
          generalize wr.drew = w7 at *
          refine wpAnyH_take (i := 0) (oi := { dst := some 16, op := _, type := _, pos := _, after := _, guard := _ }) (v := ?_) rfl (by kernel_rfl) (by kernel_rfl) (by kernel_rfl) (fun _ _ _ h => h) (Or.inl ⟨by rfl, ?_⟩) hHeld ?_
          rotate_left
          · intro W hSw
            have e0 := (Below.cell hSw (cell_lt s0)).trans s0
            have e1 := (Below.cell hSw (cell_lt s1)).trans s1
            have d0 := (Below.cell hSw (cell_lt c0)).trans c0
            have d1 := (Below.cell hSw (cell_lt c1)).trans c1
            have d2 := (Below.cell hSw (cell_lt c2)).trans c2
            have d3 := (Below.cell hSw (cell_lt c3)).trans c3
            have d4 := (Below.cell hSw (cell_lt c4)).trans c4
            have d5 := (Below.cell hSw (cell_lt c5)).trans c5
            have d6 := (Below.cell hSw (cell_lt c6)).trans c6
            have d7 := (Below.cell hSw (cell_lt c7)).trans c7
            have d8 := (Below.cell hSw (cell_lt c8)).trans c8
            go_simp
            first | done | rfl
          try simp only [Act.put, List.setIfInBounds_toArray, List.set_cons_zero, List.set_cons_succ]
          refine wpAnyH_take (i := 1) (oi := { dst := some 17, op := _, type := _, pos := _, after := _, guard := _ }) (v := ?_) rfl (by kernel_rfl) (by kernel_rfl) (by kernel_rfl) (fun _ _ _ h => h) (Or.inl ⟨by rfl, ?_⟩) hHeld ?_
          rotate_left
          · intro W hSw
            have e0 := (Below.cell hSw (cell_lt s0)).trans s0
            have e1 := (Below.cell hSw (cell_lt s1)).trans s1
            have d0 := (Below.cell hSw (cell_lt c0)).trans c0
            have d1 := (Below.cell hSw (cell_lt c1)).trans c1
            have d2 := (Below.cell hSw (cell_lt c2)).trans c2
            have d3 := (Below.cell hSw (cell_lt c3)).trans c3
            have d4 := (Below.cell hSw (cell_lt c4)).trans c4
            have d5 := (Below.cell hSw (cell_lt c5)).trans c5
            have d6 := (Below.cell hSw (cell_lt c6)).trans c6
            have d7 := (Below.cell hSw (cell_lt c7)).trans c7
            have d8 := (Below.cell hSw (cell_lt c8)).trans c8
            go_simp
            first | done | rfl
          try simp only [Act.put, List.setIfInBounds_toArray, List.set_cons_zero, List.set_cons_succ]
          refine wpAnyH_take (i := 2) (oi := { dst := some 18, op := _, type := _, pos := _, after := _, guard := _ }) (v := ?_) rfl (by kernel_rfl) (by kernel_rfl) (by kernel_rfl) (fun _ _ _ h => h) (Or.inl ⟨by rfl, ?_⟩) hHeld ?_
          rotate_left
          · intro W hSw
            have e0 := (Below.cell hSw (cell_lt s0)).trans s0
            have e1 := (Below.cell hSw (cell_lt s1)).trans s1
            have d0 := (Below.cell hSw (cell_lt c0)).trans c0
            have d1 := (Below.cell hSw (cell_lt c1)).trans c1
            have d2 := (Below.cell hSw (cell_lt c2)).trans c2
            have d3 := (Below.cell hSw (cell_lt c3)).trans c3
            have d4 := (Below.cell hSw (cell_lt c4)).trans c4
            have d5 := (Below.cell hSw (cell_lt c5)).trans c5
            have d6 := (Below.cell hSw (cell_lt c6)).trans c6
            have d7 := (Below.cell hSw (cell_lt c7)).trans c7
            have d8 := (Below.cell hSw (cell_lt c8)).trans c8
            go_simp
            first | done | rfl
          try simp only [Act.put, List.setIfInBounds_toArray, List.set_cons_zero, List.set_cons_succ]
          refine wpAnyH_take (i := 3) (oi := { dst := some 19, op := _, type := _, pos := _, after := _, guard := _ }) (v := ?_) rfl (by kernel_rfl) (by kernel_rfl) (by kernel_rfl) (fun _ _ _ h => h) (Or.inl ⟨by rfl, ?_⟩) hHeld ?_
          rotate_left
          · intro W hSw
            have e0 := (Below.cell hSw (cell_lt s0)).trans s0
            have e1 := (Below.cell hSw (cell_lt s1)).trans s1
            have d0 := (Below.cell hSw (cell_lt c0)).trans c0
            have d1 := (Below.cell hSw (cell_lt c1)).trans c1
            have d2 := (Below.cell hSw (cell_lt c2)).trans c2
            have d3 := (Below.cell hSw (cell_lt c3)).trans c3
            have d4 := (Below.cell hSw (cell_lt c4)).trans c4
            have d5 := (Below.cell hSw (cell_lt c5)).trans c5
            have d6 := (Below.cell hSw (cell_lt c6)).trans c6
            have d7 := (Below.cell hSw (cell_lt c7)).trans c7
            have d8 := (Below.cell hSw (cell_lt c8)).trans c8
            go_simp
            first | done | rfl
          try simp only [Act.put, List.setIfInBounds_toArray, List.set_cons_zero, List.set_cons_succ]
          refine wpAnyH_take (i := 4) (oi := { dst := some 20, op := _, type := _, pos := _, after := _, guard := _ }) (v := ?_) rfl (by kernel_rfl) (by kernel_rfl) (by kernel_rfl) (fun _ _ _ h => h) (Or.inl ⟨by rfl, ?_⟩) hHeld ?_
          rotate_left
          · intro W hSw
            have e0 := (Below.cell hSw (cell_lt s0)).trans s0
            have e1 := (Below.cell hSw (cell_lt s1)).trans s1
            have d0 := (Below.cell hSw (cell_lt c0)).trans c0
            have d1 := (Below.cell hSw (cell_lt c1)).trans c1
            have d2 := (Below.cell hSw (cell_lt c2)).trans c2
            have d3 := (Below.cell hSw (cell_lt c3)).trans c3
            have d4 := (Below.cell hSw (cell_lt c4)).trans c4
            have d5 := (Below.cell hSw (cell_lt c5)).trans c5
            have d6 := (Below.cell hSw (cell_lt c6)).trans c6
            have d7 := (Below.cell hSw (cell_lt c7)).trans c7
            have d8 := (Below.cell hSw (cell_lt c8)).trans c8
            go_simp
            first | done | rfl
          try simp only [Act.put, List.setIfInBounds_toArray, List.set_cons_zero, List.set_cons_succ]
          refine wpAnyH_ready (rs := [5]) (by kernel_rfl) (by simp) ?_
          refine AllReadyH.cons (o := { dst := some 21, op := _, type := _, pos := _, after := _, guard := _ }) rfl (fun K hK => ?_) AllReadyH.nil
          go_simp
          refine (HROT.out _).mono ?_
          rintro e w8 ⟨rfl, hb8⟩
          have hB8 := hHeld.trans (hb8.mono hHeld.size)
          clear hb8
          refine hK.out _ _ hB8 (fun _ => ?_)
          clear hK K
          try simp only [Act.put, List.setIfInBounds_toArray, List.set_cons_zero, List.set_cons_succ]
          refine wpAnyH_take (i := 6) (oi := { dst := some 22, op := _, type := _, pos := _, after := _, guard := _ }) (v := ?_) rfl (by kernel_rfl) (by kernel_rfl) (by kernel_rfl) (fun _ _ _ h => h) (Or.inl ⟨by rfl, ?_⟩) hB8 ?_
          rotate_left
          · intro W hSw
            have e0 := (Below.cell hSw (cell_lt s0)).trans s0
            have e1 := (Below.cell hSw (cell_lt s1)).trans s1
            have d0 := (Below.cell hSw (cell_lt c0)).trans c0
            have d1 := (Below.cell hSw (cell_lt c1)).trans c1
            have d2 := (Below.cell hSw (cell_lt c2)).trans c2
            have d3 := (Below.cell hSw (cell_lt c3)).trans c3
            have d4 := (Below.cell hSw (cell_lt c4)).trans c4
            have d5 := (Below.cell hSw (cell_lt c5)).trans c5
            have d6 := (Below.cell hSw (cell_lt c6)).trans c6
            have d7 := (Below.cell hSw (cell_lt c7)).trans c7
            have d8 := (Below.cell hSw (cell_lt c8)).trans c8
            go_simp
            first | done | rfl
          try simp only [Act.put, List.setIfInBounds_toArray, List.set_cons_zero, List.set_cons_succ]
          refine wpAnyH_take (i := 7) (oi := { dst := some 23, op := _, type := _, pos := _, after := _, guard := _ }) (v := ?_) rfl (by kernel_rfl) (by kernel_rfl) (by kernel_rfl) (fun _ _ _ h => h) (Or.inl ⟨by rfl, ?_⟩) hB8 ?_
          rotate_left
          · intro W hSw
            have e0 := (Below.cell hSw (cell_lt s0)).trans s0
            have e1 := (Below.cell hSw (cell_lt s1)).trans s1
            have d0 := (Below.cell hSw (cell_lt c0)).trans c0
            have d1 := (Below.cell hSw (cell_lt c1)).trans c1
            have d2 := (Below.cell hSw (cell_lt c2)).trans c2
            have d3 := (Below.cell hSw (cell_lt c3)).trans c3
            have d4 := (Below.cell hSw (cell_lt c4)).trans c4
            have d5 := (Below.cell hSw (cell_lt c5)).trans c5
            have d6 := (Below.cell hSw (cell_lt c6)).trans c6
            have d7 := (Below.cell hSw (cell_lt c7)).trans c7
            have d8 := (Below.cell hSw (cell_lt c8)).trans c8
            go_simp
            first | done | rfl
          try simp only [Act.put, List.setIfInBounds_toArray, List.set_cons_zero, List.set_cons_succ]
          refine wpAnyH_take (i := 8) (oi := { dst := some 24, op := _, type := _, pos := _, after := _, guard := _ }) (v := ?_) rfl (by kernel_rfl) (by kernel_rfl) (by kernel_rfl) (fun _ _ _ h => h) (Or.inl ⟨by rfl, ?_⟩) hB8 ?_
          rotate_left
          · intro W hSw
            have e0 := (Below.cell hSw (cell_lt s0)).trans s0
            have e1 := (Below.cell hSw (cell_lt s1)).trans s1
            have d0 := (Below.cell hSw (cell_lt c0)).trans c0
            have d1 := (Below.cell hSw (cell_lt c1)).trans c1
            have d2 := (Below.cell hSw (cell_lt c2)).trans c2
            have d3 := (Below.cell hSw (cell_lt c3)).trans c3
            have d4 := (Below.cell hSw (cell_lt c4)).trans c4
            have d5 := (Below.cell hSw (cell_lt c5)).trans c5
            have d6 := (Below.cell hSw (cell_lt c6)).trans c6
            have d7 := (Below.cell hSw (cell_lt c7)).trans c7
            have d8 := (Below.cell hSw (cell_lt c8)).trans c8
            go_simp
            first | done | rfl
          try simp only [Act.put, List.setIfInBounds_toArray, List.set_cons_zero, List.set_cons_succ]
          refine wpAnyH_take (i := 12) (oi := { dst := some 28, op := _, type := _, pos := _, after := _, guard := _ }) (v := ?_) rfl (by kernel_rfl) (by kernel_rfl) (by kernel_rfl) (fun _ _ _ h => h) (Or.inl ⟨by rfl, ?_⟩) hB8 ?_
          rotate_left
          · intro W hSw
            have e0 := (Below.cell hSw (cell_lt s0)).trans s0
            have e1 := (Below.cell hSw (cell_lt s1)).trans s1
            have d0 := (Below.cell hSw (cell_lt c0)).trans c0
            have d1 := (Below.cell hSw (cell_lt c1)).trans c1
            have d2 := (Below.cell hSw (cell_lt c2)).trans c2
            have d3 := (Below.cell hSw (cell_lt c3)).trans c3
            have d4 := (Below.cell hSw (cell_lt c4)).trans c4
            have d5 := (Below.cell hSw (cell_lt c5)).trans c5
            have d6 := (Below.cell hSw (cell_lt c6)).trans c6
            have d7 := (Below.cell hSw (cell_lt c7)).trans c7
            have d8 := (Below.cell hSw (cell_lt c8)).trans c8
            go_simp
            first | done | rfl
          try simp only [Act.put, List.setIfInBounds_toArray, List.set_cons_zero, List.set_cons_succ]
          refine wpAnyH_take (i := 9) (oi := { dst := some 25, op := _, type := _, pos := _, after := _, guard := _ }) (v := ?_) rfl (by kernel_rfl) (by kernel_rfl) (by kernel_rfl) (fun _ _ _ h => h) (Or.inl ⟨by rfl, ?_⟩) hB8 ?_
          rotate_left
          · intro W hSw
            have e0 := (Below.cell hSw (cell_lt s0)).trans s0
            have e1 := (Below.cell hSw (cell_lt s1)).trans s1
            have d0 := (Below.cell hSw (cell_lt c0)).trans c0
            have d1 := (Below.cell hSw (cell_lt c1)).trans c1
            have d2 := (Below.cell hSw (cell_lt c2)).trans c2
            have d3 := (Below.cell hSw (cell_lt c3)).trans c3
            have d4 := (Below.cell hSw (cell_lt c4)).trans c4
            have d5 := (Below.cell hSw (cell_lt c5)).trans c5
            have d6 := (Below.cell hSw (cell_lt c6)).trans c6
            have d7 := (Below.cell hSw (cell_lt c7)).trans c7
            have d8 := (Below.cell hSw (cell_lt c8)).trans c8
            go_simp
            first | done | rfl
          try simp only [Act.put, List.setIfInBounds_toArray, List.set_cons_zero, List.set_cons_succ]
          refine wpAnyH_take (i := 10) (oi := { dst := some 26, op := _, type := _, pos := _, after := _, guard := _ }) (v := ?_) rfl (by kernel_rfl) (by kernel_rfl) (by kernel_rfl) (fun _ _ _ h => h) (Or.inl ⟨by rfl, ?_⟩) hB8 ?_
          rotate_left
          · intro W hSw
            have e0 := (Below.cell hSw (cell_lt s0)).trans s0
            have e1 := (Below.cell hSw (cell_lt s1)).trans s1
            have d0 := (Below.cell hSw (cell_lt c0)).trans c0
            have d1 := (Below.cell hSw (cell_lt c1)).trans c1
            have d2 := (Below.cell hSw (cell_lt c2)).trans c2
            have d3 := (Below.cell hSw (cell_lt c3)).trans c3
            have d4 := (Below.cell hSw (cell_lt c4)).trans c4
            have d5 := (Below.cell hSw (cell_lt c5)).trans c5
            have d6 := (Below.cell hSw (cell_lt c6)).trans c6
            have d7 := (Below.cell hSw (cell_lt c7)).trans c7
            have d8 := (Below.cell hSw (cell_lt c8)).trans c8
            go_simp
            first | done | rfl
          try simp only [Act.put, List.setIfInBounds_toArray, List.set_cons_zero, List.set_cons_succ]
          refine wpAnyH_take (i := 11) (oi := { dst := some 27, op := _, type := _, pos := _, after := _, guard := _ }) (v := ?_) rfl (by kernel_rfl) (by kernel_rfl) (by kernel_rfl) (fun _ _ _ h => h) (Or.inl ⟨by rfl, ?_⟩) hB8 ?_
          rotate_left
          · intro W hSw
            have e0 := (Below.cell hSw (cell_lt s0)).trans s0
            have e1 := (Below.cell hSw (cell_lt s1)).trans s1
            have d0 := (Below.cell hSw (cell_lt c0)).trans c0
            have d1 := (Below.cell hSw (cell_lt c1)).trans c1
            have d2 := (Below.cell hSw (cell_lt c2)).trans c2
            have d3 := (Below.cell hSw (cell_lt c3)).trans c3
            have d4 := (Below.cell hSw (cell_lt c4)).trans c4
            have d5 := (Below.cell hSw (cell_lt c5)).trans c5
            have d6 := (Below.cell hSw (cell_lt c6)).trans c6
            have d7 := (Below.cell hSw (cell_lt c7)).trans c7
            have d8 := (Below.cell hSw (cell_lt c8)).trans c8
            go_simp
            first | done | rfl
          try simp only [Act.put, List.setIfInBounds_toArray, List.set_cons_zero, List.set_cons_succ]
          refine wpAnyH_take (i := 13) (oi := { dst := some 29, op := _, type := _, pos := _, after := _, guard := _ }) (v := ?_) rfl (by kernel_rfl) (by kernel_rfl) (by kernel_rfl) (fun _ _ _ h => h) (Or.inl ⟨by rfl, ?_⟩) hB8 ?_
          rotate_left
          · intro W hSw
            have e0 := (Below.cell hSw (cell_lt s0)).trans s0
            have e1 := (Below.cell hSw (cell_lt s1)).trans s1
            have d0 := (Below.cell hSw (cell_lt c0)).trans c0
            have d1 := (Below.cell hSw (cell_lt c1)).trans c1
            have d2 := (Below.cell hSw (cell_lt c2)).trans c2
            have d3 := (Below.cell hSw (cell_lt c3)).trans c3
            have d4 := (Below.cell hSw (cell_lt c4)).trans c4
            have d5 := (Below.cell hSw (cell_lt c5)).trans c5
            have d6 := (Below.cell hSw (cell_lt c6)).trans c6
            have d7 := (Below.cell hSw (cell_lt c7)).trans c7
            have d8 := (Below.cell hSw (cell_lt c8)).trans c8
            go_simp
            first | done | rfl
          try simp only [Act.put, List.setIfInBounds_toArray, List.set_cons_zero, List.set_cons_succ]
          refine wpAnyH_take (i := 14) (oi := { dst := some 30, op := _, type := _, pos := _, after := _, guard := _ }) (v := ?_) rfl (by kernel_rfl) (by kernel_rfl) (by kernel_rfl) (fun _ _ _ h => h) (Or.inl ⟨by rfl, ?_⟩) hB8 ?_
          rotate_left
          · intro W hSw
            have e0 := (Below.cell hSw (cell_lt s0)).trans s0
            have e1 := (Below.cell hSw (cell_lt s1)).trans s1
            have d0 := (Below.cell hSw (cell_lt c0)).trans c0
            have d1 := (Below.cell hSw (cell_lt c1)).trans c1
            have d2 := (Below.cell hSw (cell_lt c2)).trans c2
            have d3 := (Below.cell hSw (cell_lt c3)).trans c3
            have d4 := (Below.cell hSw (cell_lt c4)).trans c4
            have d5 := (Below.cell hSw (cell_lt c5)).trans c5
            have d6 := (Below.cell hSw (cell_lt c6)).trans c6
            have d7 := (Below.cell hSw (cell_lt c7)).trans c7
            have d8 := (Below.cell hSw (cell_lt c8)).trans c8
            go_simp
            first | done | rfl
          try simp only [Act.put, List.setIfInBounds_toArray, List.set_cons_zero, List.set_cons_succ]
          refine wpAnyH_take (i := 15) (oi := { dst := some 31, op := _, type := _, pos := _, after := _, guard := _ }) (v := ?_) rfl (by kernel_rfl) (by kernel_rfl) (by kernel_rfl) (fun _ _ _ h => h) (Or.inl ⟨by rfl, ?_⟩) hB8 ?_
          rotate_left
          · intro W hSw
            have e0 := (Below.cell hSw (cell_lt s0)).trans s0
            have e1 := (Below.cell hSw (cell_lt s1)).trans s1
            have d0 := (Below.cell hSw (cell_lt c0)).trans c0
            have d1 := (Below.cell hSw (cell_lt c1)).trans c1
            have d2 := (Below.cell hSw (cell_lt c2)).trans c2
            have d3 := (Below.cell hSw (cell_lt c3)).trans c3
            have d4 := (Below.cell hSw (cell_lt c4)).trans c4
            have d5 := (Below.cell hSw (cell_lt c5)).trans c5
            have d6 := (Below.cell hSw (cell_lt c6)).trans c6
            have d7 := (Below.cell hSw (cell_lt c7)).trans c7
            have d8 := (Below.cell hSw (cell_lt c8)).trans c8
            go_simp
            first | done | rfl
          try simp only [Act.put, List.setIfInBounds_toArray, List.set_cons_zero, List.set_cons_succ]
          refine wpAnyH_take (i := 16) (oi := { dst := some 32, op := _, type := _, pos := _, after := _, guard := _ }) (v := undef) rfl (by kernel_rfl) (by kernel_rfl) (by kernel_rfl) (fun _ _ _ h => h) (Or.inr ⟨by rfl, rfl⟩) hB8 ?_
          try simp only [Act.put, List.setIfInBounds_toArray, List.set_cons_zero, List.set_cons_succ]
          refine wpAnyH_take (i := 17) (oi := { dst := some 33, op := _, type := _, pos := _, after := _, guard := _ }) (v := undef) rfl (by kernel_rfl) (by kernel_rfl) (by kernel_rfl) (fun _ _ _ h => h) (Or.inr ⟨by rfl, rfl⟩) hB8 ?_
          try simp only [Act.put, List.setIfInBounds_toArray, List.set_cons_zero, List.set_cons_succ]
          refine wpAnyH_take (i := 21) (oi := { dst := some 37, op := _, type := _, pos := _, after := _, guard := _ }) (v := undef) rfl (by kernel_rfl) (by kernel_rfl) (by kernel_rfl) (fun _ _ _ h => h) (Or.inr ⟨by rfl, rfl⟩) hB8 ?_
          try simp only [Act.put, List.setIfInBounds_toArray, List.set_cons_zero, List.set_cons_succ]
          refine wpAnyH_take (i := 18) (oi := { dst := some 34, op := _, type := _, pos := _, after := _, guard := _ }) (v := undef) rfl (by kernel_rfl) (by kernel_rfl) (by kernel_rfl) (fun _ _ _ h => h) (Or.inr ⟨by rfl, rfl⟩) hB8 ?_
          try simp only [Act.put, List.setIfInBounds_toArray, List.set_cons_zero, List.set_cons_succ]
          refine wpAnyH_take (i := 19) (oi := { dst := some 35, op := _, type := _, pos := _, after := _, guard := _ }) (v := undef) rfl (by kernel_rfl) (by kernel_rfl) (by kernel_rfl) (fun _ _ _ h => h) (Or.inr ⟨by rfl, rfl⟩) hB8 ?_
          try simp only [Act.put, List.setIfInBounds_toArray, List.set_cons_zero, List.set_cons_succ]
          refine wpAnyH_take (i := 20) (oi := { dst := some 36, op := _, type := _, pos := _, after := _, guard := _ }) (v := undef) rfl (by kernel_rfl) (by kernel_rfl) (by kernel_rfl) (fun _ _ _ h => h) (Or.inr ⟨by rfl, rfl⟩) hB8 ?_
          try simp only [Act.put, List.setIfInBounds_toArray, List.set_cons_zero, List.set_cons_succ]
          refine wpAnyH_take (i := 22) (oi := { dst := some 38, op := _, type := _, pos := _, after := _, guard := _ }) (v := undef) rfl (by kernel_rfl) (by kernel_rfl) (by kernel_rfl) (fun _ _ _ h => h) (Or.inr ⟨by rfl, rfl⟩) hB8 ?_
          try simp only [Act.put, List.setIfInBounds_toArray, List.set_cons_zero, List.set_cons_succ]
          refine wpAnyH_take (i := 23) (oi := { dst := some 39, op := _, type := _, pos := _, after := _, guard := _ }) (v := ?_) rfl (by kernel_rfl) (by kernel_rfl) (by kernel_rfl) (fun _ _ _ h => h) (Or.inl ⟨by rfl, ?_⟩) hB8 ?_
          rotate_left
          · intro W hSw
            have e0 := (Below.cell hSw (cell_lt s0)).trans s0
            have e1 := (Below.cell hSw (cell_lt s1)).trans s1
            have d0 := (Below.cell hSw (cell_lt c0)).trans c0
            have d1 := (Below.cell hSw (cell_lt c1)).trans c1
            have d2 := (Below.cell hSw (cell_lt c2)).trans c2
            have d3 := (Below.cell hSw (cell_lt c3)).trans c3
            have d4 := (Below.cell hSw (cell_lt c4)).trans c4
            have d5 := (Below.cell hSw (cell_lt c5)).trans c5
            have d6 := (Below.cell hSw (cell_lt c6)).trans c6
            have d7 := (Below.cell hSw (cell_lt c7)).trans c7
            have d8 := (Below.cell hSw (cell_lt c8)).trans c8
            go_simp
            first | done | rfl
          try simp only [Act.put, List.setIfInBounds_toArray, List.set_cons_zero, List.set_cons_succ]
          refine wpAnyH_done (by kernel_rfl) ?_ _
          refine NoPanic.normal ?_
          go_wp2_with fail
          go_roundw
          case rel => exact ⟨j + 1, by omega, by go_num, HN.out, hbs.trans (hB8.mono hbs.size)⟩
          case measure => simp [intOf]; omega
    · obtain rfl : j = n := by omega
      have HY : Hid (false = Bud.hit r l who sec) := Lib.hid (by rw [HNN.out, List.take_length] at hf; exact hf.symm)
      clear hf
      go_wp2_with fail
      go_ret
      exact ⟨ret_bool HY.out, hbl⟩
end Go.Proofs.Ytecaahcmebdglaa

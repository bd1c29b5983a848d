/- entry.Unpack and the reference's: bytes that are an entry's, or none's. -/
import Derived.Test.YtmebodjofcomlaaTrn
import Derived.Test.YtmebodjofcomlaaEMk
import Derived.Test.YtmebodjofcomlaaRUn
namespace Go.Proofs.Ytmebodjofcomlaa
open Go.RowKit
def ueB (s : ByteArray) : Bool := entB (un (nats s) 0) (un (nats s) 1) (un (nats s) 6) (un (nats s) 3) (un (nats s) 4) (un (nats s) 5) (uk (nats s) 2) (s.extract 128 s.size)
def ueOk (s : ByteArray) : Bool := decide (unOk s = true ∧ (uk (nats s) 0 = 255 ∧ uk (nats s) 1 = 0 ∧ un (nats s) 2 = 0 ∧ un (nats s) 7 = 0) ∧ ueB s = true)
def ueHdr (s : ByteArray) : Array Value := #[.int .i64 (un (nats s) 0), .int .i64 (un (nats s) 1), .int .i64 (un (nats s) 6), .int .u64 (up (nats s)), .int .i64 (un (nats s) 3), .int .i64 (un (nats s) 4), .int .i64 (un (nats s) 5), .int .i64 (uk (nats s) 2), .string (s.extract 128 s.size)]
def UePost (s : ByteArray) (w : World) (e : Ending) (w' : World) : Prop := e = .returned (if ueOk s = true then .tuple #[.agg (ueHdr s), .int .i64 0] else .tuple #[.agg #[.int .i64 0, .int .i64 0, .int .i64 0, .int .u64 0, .int .i64 0, .int .i64 0, .int .i64 0, .int .i64 0, .string ⟨#[]⟩], .int .i64 4]) ∧ Below w.heap.size w w'
theorem UePost.yes {s : ByteArray} {w w' : World} {hd : Array Value} (h : ueOk s = true) (hE : ueHdr s = hd) (hb : Below w.heap.size w w') : UePost s w (.returned (.tuple #[.agg hd, .int .i64 0])) w' := by
  subst hE
  exact ⟨by rw [if_pos h], hb⟩
theorem UePost.no {s : ByteArray} {w w' : World} (h : ueOk s = false) (hb : Below w.heap.size w w') : UePost s w (.returned (.tuple #[.agg #[.int .i64 0, .int .i64 0, .int .i64 0, .int .u64 0, .int .i64 0, .int .i64 0, .int .i64 0, .int .i64 0, .string ⟨#[]⟩], .int .i64 4])) w' := ⟨by rw [if_neg (by rw [h]; simp)], hb⟩
/-- What the bytes hold, under names. -/
theorem ue_names (s : ByteArray) : ∃ (K0 K1 K2 N0 N1 N2 N3 N4 N5 N6 N7 P : Int) (B : ByteArray), unHdr (nats s) 8 = #[.int .i64 K0, .int .i64 K1, .int .i64 K2, .int .i64 N0, .int .i64 N1, .int .i64 N2, .int .i64 N3, .int .i64 N4, .int .i64 N5, .int .i64 N6, .int .i64 N7, .int .u64 P] ∧ ueHdr s = #[.int .i64 N0, .int .i64 N1, .int .i64 N6, .int .u64 P, .int .i64 N3, .int .i64 N4, .int .i64 N5, .int .i64 K2, .string B] ∧ (s.extract 128 s.size) = B ∧ (0 ≤ P ∧ P ≤ 18446744073709551615) ∧
    (ueOk s = decide (unOk s = true ∧ (K0 = 255 ∧ K1 = 0 ∧ N2 = 0 ∧ N7 = 0) ∧ entB N0 N1 N6 N3 N4 N5 K2 B = true)) ∧ (unOk s = true → ((entB N0 N1 N6 N3 N4 N5 K2 B = true ∧ entS N0 N1 N6 P N3 N4 N5 K2 B = s) ↔ ((K0 = 255 ∧ K1 = 0 ∧ N2 = 0 ∧ N7 = 0) ∧ entB N0 N1 N6 N3 N4 N5 K2 B = true))) := by
  refine ⟨uk (nats s) 0, uk (nats s) 1, uk (nats s) 2, un (nats s) 0, un (nats s) 1, un (nats s) 2, un (nats s) 3, un (nats s) 4, un (nats s) 5, un (nats s) 6, un (nats s) 7, up (nats s), s.extract 128 s.size, rfl, rfl, rfl, up_bd _ (nats_lt s), rfl, fun hok => ?_⟩
  have hok := of_decide_eq_true hok
  have hE : unE s = 0 := hok.2.1
  have hS : unS s = s := hok.2.2
  constructor
  · rintro ⟨hb, he⟩
    refine ⟨?_, hb⟩
    unfold entS at he
    rw [if_pos hb] at he
    have := packS_inj (up_bd _ (nats_lt s)) (up_bd _ (nats_lt s)) (ent_packE hb) hE (he.trans hS.symm)
    obtain ⟨⟨q1, q2, _, _, _, q3, _, _, _, _, q4, _⟩, _⟩ := this
    exact ⟨q1.symm, q2.symm, q3.symm, q4.symm⟩
  · rintro ⟨⟨m0, m1, m2, m3⟩, hb⟩
    refine ⟨hb, ?_⟩
    unfold entS
    rw [if_pos hb]
    unfold unS at hS
    rw [m0, m1, m2, m3] at hS
    exact hS
def BQ (w : World) (W : World) : Prop := Blk W w.heap.size #[.int .i64 0, .int .i64 0, .int .i64 0, .int .u64 0, .int .i64 0, .int .i64 0, .int .i64 0, .int .i64 0, .string ⟨#[]⟩] ∧ Below w.heap.size w W
theorem BQ.next {w W W' : World} (h : BQ w W) (hb : Below W.heap.size W W') : BQ w W' := ⟨h.1.below hb h.1.1, h.2.trans (hb.mono h.2.size)⟩
theorem BQ.drew {w W : World} (h : BQ w W) : BQ w W.drew := ⟨h.1, h.2.drew⟩
theorem BQ.new (w : World) (t : TypeId) : BQ w (w.alloc (.cells #[.int .i64 0, .int .i64 0, .int .i64 0, .int .u64 0, .int .i64 0, .int .i64 0, .int .i64 0, .int .i64 0, .string ⟨#[]⟩] t)) := ⟨Blk.new w _ _ _ rfl, (Below.refl _ _).alloc (Nat.le_refl _) _⟩
/-- The result's block, kept; the header and the entry that were read. -/
def EU (w : World) (g : Nat) (ch ce : Array Value) (W : World) : Prop := BQ w W ∧ Row W g ch ∧ Row W (g + 1) ce
theorem EU.next {w W W' : World} {g : Nat} {ch ce : Array Value} (h : EU w g ch ce W) (hb : Below W.heap.size W W') : EU w g ch ce W' := ⟨h.1.next hb, h.2.1.below hb h.2.1.1, h.2.2.below hb h.2.2.1⟩
theorem EU.drew {w W : World} {g : Nat} {ch ce : Array Value} (h : EU w g ch ce W) : EU w g ch ce W.drew := ⟨h.1.drew, h.2.1, h.2.2⟩
theorem EU.new {w W : World} (h : BQ w W) (ch ce : Array Value) (t u : TypeId) : EU w W.heap.size ch ce ((W.alloc (.cells ch t)).alloc (.cells ce u)) :=
  ⟨(h.next ((Below.refl _ _).alloc (Nat.le_refl _) _)).next ((Below.refl _ _).alloc (Nat.le_refl _) _), (Row.new W _ _ _ rfl).alloc _, Row.new _ _ _ _ (by simp)⟩
set_option linter.unusedVariables false in
set_option maxHeartbeats 8000000 in
theorem eunpack_no (s : ByteArray) (w : World) (hl : s.size ≤ 140737488355328) (hok : unOk s = false) : Calls Try.prog 26 #[.string s] w (UePost s w) := by
  have HY : Hid (ueOk s = false) := Lib.hid (decide_eq_false (fun h => by rw [hok] at h; exact absurd h.1 (by simp)))
  have HU : Hid (∀ W, Calls Try.prog 22 #[.string s] W fun e w' => e = .returned (.tuple #[.agg #[.int .i64 0, .int .i64 0, .int .i64 0, .int .i64 0, .int .i64 0, .int .i64 0, .int .i64 0, .int .i64 0, .int .i64 0, .int .i64 0, .int .i64 0, .int .u64 0], .string ⟨#[]⟩, .int .i64 4]) ∧ Below W.heap.size W w') := Lib.hid (fun W => by
    refine (unpack_any s W hl).mono ?_
    rintro e w' ⟨rfl, hb⟩
    exact ⟨by rw [if_neg (by rw [hok]; simp)], hb⟩)
  clear hok
  have H0 := Lib.hid (BQ.new w 26)
  go_enter Try.func26, Try.ntmps26
  go_wp2_with fail
  refine (HU.out _).mono ?_
  rintro e w1 ⟨rfl, hb1⟩
  have H1 := Lib.hid (H0.out.next hb1)
  clear hb1 H0
  have hlt := H1.out.1.1
  go_wp2_with fail
  have H2 := Lib.hid ((H1.out.next ((Below.refl _ _).alloc (Nat.le_refl _) (.cells #[.int .i64 0, .int .i64 0, .int .i64 0, .int .i64 0, .int .i64 0, .int .i64 0, .int .i64 0, .int .i64 0, .int .i64 0, .int .i64 0, .int .i64 0, .int .u64 0] 34))).next ((Below.refl _ _).alloc (Nat.le_refl _) (.cells #[.int .i64 0, .int .i64 0, .int .i64 0, .int .u64 0, .int .i64 0, .int .i64 0, .int .i64 0, .int .i64 0, .string ⟨#[]⟩] 26)))
  generalize ((w1.alloc (.cells #[.int .i64 0, .int .i64 0, .int .i64 0, .int .i64 0, .int .i64 0, .int .i64 0, .int .i64 0, .int .i64 0, .int .i64 0, .int .i64 0, .int .i64 0, .int .u64 0] 34)).alloc (.cells #[.int .i64 0, .int .i64 0, .int .i64 0, .int .u64 0, .int .i64 0, .int .i64 0, .int .i64 0, .int .i64 0, .string ⟨#[]⟩] 26)) = w2 at *
  refine wp_region_noPanic ?_
  refine wp_region_held_drew (S := BQ w) (by kernel_rfl) H2.out.drew (fun hHeld => ?_)
  refine wpAnyH_take (i := 0) (oi := { dst := some 32, op := _, type := _, pos := _, after := _, guard := _ }) (v := ?_) rfl (by kernel_rfl) (by kernel_rfl) (by kernel_rfl) (fun _ _ _ h => h) (Or.inl ⟨by rfl, ?_⟩) hHeld ?_
  rotate_left
  · intro W hSw
    go_simp
    first | done | rfl
  simp only [Act.put, List.setIfInBounds_toArray, List.set_cons_zero, List.set_cons_succ]
  refine wpAnyH_take (i := 1) (oi := { dst := some 33, op := _, type := _, pos := _, after := _, guard := _ }) (v := ?_) rfl (by kernel_rfl) (by kernel_rfl) (by kernel_rfl) (fun _ _ _ h => h) (Or.inl ⟨by rfl, ?_⟩) hHeld ?_
  rotate_left
  · intro W hSw
    go_simp
    first | done | rfl
  simp only [Act.put, List.setIfInBounds_toArray, List.set_cons_zero, List.set_cons_succ]
  refine wpAnyH_take (i := 2) (oi := { dst := some 34, op := _, type := _, pos := _, after := _, guard := _ }) (v := ?_) rfl (by kernel_rfl) (by kernel_rfl) (by kernel_rfl) (fun _ _ _ h => h) (Or.inl ⟨by rfl, ?_⟩) hHeld ?_
  rotate_left
  · intro W hSw
    go_simp
    first | done | rfl
  simp only [Act.put, List.setIfInBounds_toArray, List.set_cons_zero, List.set_cons_succ]
  refine wpAnyH_take (i := 3) (oi := { dst := some 35, op := _, type := _, pos := _, after := _, guard := _ }) (v := undef) rfl (by kernel_rfl) (by kernel_rfl) (by kernel_rfl) (fun _ _ _ h => h) (Or.inr ⟨by rfl, rfl⟩) hHeld ?_
  simp only [Act.put, List.setIfInBounds_toArray, List.set_cons_zero, List.set_cons_succ]
  refine wpAnyH_take (i := 4) (oi := { dst := some 36, op := _, type := _, pos := _, after := _, guard := _ }) (v := undef) rfl (by kernel_rfl) (by kernel_rfl) (by kernel_rfl) (fun _ _ _ h => h) (Or.inr ⟨by rfl, rfl⟩) hHeld ?_
  simp only [Act.put, List.setIfInBounds_toArray, List.set_cons_zero, List.set_cons_succ]
  refine wpAnyH_take (i := 5) (oi := { dst := some 37, op := _, type := _, pos := _, after := _, guard := _ }) (v := undef) rfl (by kernel_rfl) (by kernel_rfl) (by kernel_rfl) (fun _ _ _ h => h) (Or.inr ⟨by rfl, rfl⟩) hHeld ?_
  simp only [Act.put, List.setIfInBounds_toArray, List.set_cons_zero, List.set_cons_succ]
  refine wpAnyH_take (i := 6) (oi := { dst := some 38, op := _, type := _, pos := _, after := _, guard := _ }) (v := undef) rfl (by kernel_rfl) (by kernel_rfl) (by kernel_rfl) (fun _ _ _ h => h) (Or.inr ⟨by rfl, rfl⟩) hHeld ?_
  simp only [Act.put, List.setIfInBounds_toArray, List.set_cons_zero, List.set_cons_succ]
  refine wpAnyH_take (i := 7) (oi := { dst := some 39, op := _, type := _, pos := _, after := _, guard := _ }) (v := ?_) rfl (by kernel_rfl) (by kernel_rfl) (by kernel_rfl) (fun _ _ _ h => h) (Or.inl ⟨by rfl, ?_⟩) hHeld ?_
  rotate_left
  · intro W hSw
    go_simp
    first | done | rfl
  simp only [Act.put, List.setIfInBounds_toArray, List.set_cons_zero, List.set_cons_succ]
  refine wpAnyH_take (i := 8) (oi := { dst := some 40, op := _, type := _, pos := _, after := _, guard := _ }) (v := ?_) rfl (by kernel_rfl) (by kernel_rfl) (by kernel_rfl) (fun _ _ _ h => h) (Or.inl ⟨by rfl, ?_⟩) hHeld ?_
  rotate_left
  · intro W hSw
    go_simp
    first | done | rfl
  simp only [Act.put, List.setIfInBounds_toArray, List.set_cons_zero, List.set_cons_succ]
  refine wpAnyH_take (i := 9) (oi := { dst := some 41, op := _, type := _, pos := _, after := _, guard := _ }) (v := undef) rfl (by kernel_rfl) (by kernel_rfl) (by kernel_rfl) (fun _ _ _ h => h) (Or.inr ⟨by rfl, rfl⟩) hHeld ?_
  simp only [Act.put, List.setIfInBounds_toArray, List.set_cons_zero, List.set_cons_succ]
  refine wpAnyH_take (i := 10) (oi := { dst := some 42, op := _, type := _, pos := _, after := _, guard := _ }) (v := undef) rfl (by kernel_rfl) (by kernel_rfl) (by kernel_rfl) (fun _ _ _ h => h) (Or.inr ⟨by rfl, rfl⟩) hHeld ?_
  simp only [Act.put, List.setIfInBounds_toArray, List.set_cons_zero, List.set_cons_succ]
  refine wpAnyH_take (i := 11) (oi := { dst := some 43, op := _, type := _, pos := _, after := _, guard := _ }) (v := undef) rfl (by kernel_rfl) (by kernel_rfl) (by kernel_rfl) (fun _ _ _ h => h) (Or.inr ⟨by rfl, rfl⟩) hHeld ?_
  simp only [Act.put, List.setIfInBounds_toArray, List.set_cons_zero, List.set_cons_succ]
  refine wpAnyH_take (i := 12) (oi := { dst := some 44, op := _, type := _, pos := _, after := _, guard := _ }) (v := ?_) rfl (by kernel_rfl) (by kernel_rfl) (by kernel_rfl) (fun _ _ _ h => h) (Or.inl ⟨by rfl, ?_⟩) hHeld ?_
  rotate_left
  · intro W hSw
    go_simp
    first | done | rfl
  simp only [Act.put, List.setIfInBounds_toArray, List.set_cons_zero, List.set_cons_succ]
  refine wpAnyH_done (by kernel_rfl) ?_ _
  refine NoPanic.normal ?_
  all_goals
    generalize w2.drew = w3 at *
    have HX := Lib.hid hHeld
    have hX := HX.out
    obtain ⟨r0, f0⟩ := hX.1.2 0 _ rfl
    obtain ⟨r1, f1⟩ := hX.1.2 1 _ rfl
    obtain ⟨r2, f2⟩ := hX.1.2 2 _ rfl
    obtain ⟨r3, f3⟩ := hX.1.2 3 _ rfl
    obtain ⟨r4, f4⟩ := hX.1.2 4 _ rfl
    obtain ⟨r5, f5⟩ := hX.1.2 5 _ rfl
    obtain ⟨r6, f6⟩ := hX.1.2 6 _ rfl
    obtain ⟨r7, f7⟩ := hX.1.2 7 _ rfl
    obtain ⟨r8, f8⟩ := hX.1.2 8 _ rfl
    clear hX
    go_wp2_with fail
    exact bodyPost_ret (v := .tuple #[.agg #[.int .i64 0, .int .i64 0, .int .i64 0, .int .u64 0, .int .i64 0, .int .i64 0, .int .i64 0, .int .i64 0, .string ⟨#[]⟩], .int .i64 4]) (by simp [results, Try.results26, go_sem, r0, r1, r2, r3, r4, r5, r6, r7, r8]) rfl (UePost.no HY.out (((((((((HX.out.2.setCell (p := ⟨w.heap.size, 0, none⟩) (Nat.le_refl _) _).setCell (p := ⟨w.heap.size, 1, none⟩) (Nat.le_refl _) _).setCell (p := ⟨w.heap.size, 2, none⟩) (Nat.le_refl _) _).setCell (p := ⟨w.heap.size, 3, none⟩) (Nat.le_refl _) _).setCell (p := ⟨w.heap.size, 4, none⟩) (Nat.le_refl _) _).setCell (p := ⟨w.heap.size, 5, none⟩) (Nat.le_refl _) _).setCell (p := ⟨w.heap.size, 6, none⟩) (Nat.le_refl _) _).setCell (p := ⟨w.heap.size, 7, none⟩) (Nat.le_refl _) _).setCell (p := ⟨w.heap.size, 8, none⟩) (Nat.le_refl _) _))
set_option linter.unusedVariables false in
set_option maxHeartbeats 16000000 in
theorem eunpack_try (s : ByteArray) (w : World) (hl : s.size ≤ 140737488355328) (hok : unOk s = true) : Calls Try.prog 26 #[.string s] w (UePost s w) := by
  obtain ⟨K0, K1, K2, N0, N1, N2, N3, N4, N5, N6, N7, P, B, hh, hu, hB, hP, hue, hiff⟩ := ue_names s
  have HU : Hid (∀ W, Calls Try.prog 22 #[.string s] W fun e w' => e = .returned (.tuple #[.agg #[.int .i64 K0, .int .i64 K1, .int .i64 K2, .int .i64 N0, .int .i64 N1, .int .i64 N2, .int .i64 N3, .int .i64 N4, .int .i64 N5, .int .i64 N6, .int .i64 N7, .int .u64 P], .string B, .int .i64 0]) ∧ Below W.heap.size W w') := Lib.hid (fun W => by
    refine (unpack_any s W hl).mono ?_
    rintro e w' ⟨rfl, hb⟩
    exact ⟨by rw [if_pos hok, hh, hB], hb⟩)
  have HHD := Lib.hid hu
  have HUE := Lib.hid hue
  have HIFF := Lib.hid (hiff hok)
  have HOK := Lib.hid hok
  have HPB := Lib.hid hP
  clear hh hu hB hue hiff hok hP
  have H0 := Lib.hid (BQ.new w 26)
  have HHE := Lib.hid (fun W => header_any N0 N1 N6 P N3 N4 N5 K2 B W)
  have HRI := Lib.hid (fun W => entright_any N0 N1 N6 P N3 N4 N5 K2 B W)
  by_cases mK0 : K0 = 255
  rotate_left
  · have HY : Hid (ueOk s = false) := Lib.hid (by rw [HUE.out]; exact decide_eq_false (fun h => mK0 (by have := h.2.1; omega)))
    have q1 : ((255 : Int) == K0) = false := by simp; omega
    have q2 : (K0 == (255 : Int)) = false := by simp; omega
    have q3 : ¬ (255 : Int) = K0 := by omega
    have q4 : ¬ K0 = (255 : Int) := mK0
    clear mK0
    go_enter Try.func26, Try.ntmps26
    go_wp2_with fail
    refine (HU.out _).mono ?_
    rintro e w1 ⟨rfl, hb1⟩
    have H1 := Lib.hid (H0.out.next hb1)
    clear hb1 H0
    have hlt := H1.out.1.1
    go_wp2_with fail
    have H2 := Lib.hid (EU.new H1.out #[.int .i64 K0, .int .i64 K1, .int .i64 K2, .int .i64 N0, .int .i64 N1, .int .i64 N2, .int .i64 N3, .int .i64 N4, .int .i64 N5, .int .i64 N6, .int .i64 N7, .int .u64 P] #[.int .i64 N0, .int .i64 N1, .int .i64 N6, .int .u64 P, .int .i64 N3, .int .i64 N4, .int .i64 N5, .int .i64 K2, .string B] 34 26)
    generalize ((w1.alloc (.cells #[.int .i64 K0, .int .i64 K1, .int .i64 K2, .int .i64 N0, .int .i64 N1, .int .i64 N2, .int .i64 N3, .int .i64 N4, .int .i64 N5, .int .i64 N6, .int .i64 N7, .int .u64 P] 34)).alloc (.cells #[.int .i64 N0, .int .i64 N1, .int .i64 N6, .int .u64 P, .int .i64 N3, .int .i64 N4, .int .i64 N5, .int .i64 K2, .string B] 26)) = w2 at *
    obtain ⟨g, hg⟩ : ∃ g, g = w1.heap.size := ⟨_, rfl⟩
    rw [← hg] at hlt H2 ⊢
    clear hg H1
    have l0 : ∀ W, EU w g #[.int .i64 K0, .int .i64 K1, .int .i64 K2, .int .i64 N0, .int .i64 N1, .int .i64 N2, .int .i64 N3, .int .i64 N4, .int .i64 N5, .int .i64 N6, .int .i64 N7, .int .u64 P] #[.int .i64 N0, .int .i64 N1, .int .i64 N6, .int .u64 P, .int .i64 N3, .int .i64 N4, .int .i64 N5, .int .i64 K2, .string B] W → W.cell? ⟨g, 0, none⟩ = some (.int .i64 K0) := fun W h => h.2.1.2 0 _ rfl
    have l1 : ∀ W, EU w g #[.int .i64 K0, .int .i64 K1, .int .i64 K2, .int .i64 N0, .int .i64 N1, .int .i64 N2, .int .i64 N3, .int .i64 N4, .int .i64 N5, .int .i64 N6, .int .i64 N7, .int .u64 P] #[.int .i64 N0, .int .i64 N1, .int .i64 N6, .int .u64 P, .int .i64 N3, .int .i64 N4, .int .i64 N5, .int .i64 K2, .string B] W → W.cell? ⟨g, 1, none⟩ = some (.int .i64 K1) := fun W h => h.2.1.2 1 _ rfl
    have l2 : ∀ W, EU w g #[.int .i64 K0, .int .i64 K1, .int .i64 K2, .int .i64 N0, .int .i64 N1, .int .i64 N2, .int .i64 N3, .int .i64 N4, .int .i64 N5, .int .i64 N6, .int .i64 N7, .int .u64 P] #[.int .i64 N0, .int .i64 N1, .int .i64 N6, .int .u64 P, .int .i64 N3, .int .i64 N4, .int .i64 N5, .int .i64 K2, .string B] W → W.cell? ⟨g, 2, none⟩ = some (.int .i64 K2) := fun W h => h.2.1.2 2 _ rfl
    have l3 : ∀ W, EU w g #[.int .i64 K0, .int .i64 K1, .int .i64 K2, .int .i64 N0, .int .i64 N1, .int .i64 N2, .int .i64 N3, .int .i64 N4, .int .i64 N5, .int .i64 N6, .int .i64 N7, .int .u64 P] #[.int .i64 N0, .int .i64 N1, .int .i64 N6, .int .u64 P, .int .i64 N3, .int .i64 N4, .int .i64 N5, .int .i64 K2, .string B] W → W.cell? ⟨g, 3, none⟩ = some (.int .i64 N0) := fun W h => h.2.1.2 3 _ rfl
    have l4 : ∀ W, EU w g #[.int .i64 K0, .int .i64 K1, .int .i64 K2, .int .i64 N0, .int .i64 N1, .int .i64 N2, .int .i64 N3, .int .i64 N4, .int .i64 N5, .int .i64 N6, .int .i64 N7, .int .u64 P] #[.int .i64 N0, .int .i64 N1, .int .i64 N6, .int .u64 P, .int .i64 N3, .int .i64 N4, .int .i64 N5, .int .i64 K2, .string B] W → W.cell? ⟨g, 4, none⟩ = some (.int .i64 N1) := fun W h => h.2.1.2 4 _ rfl
    have l5 : ∀ W, EU w g #[.int .i64 K0, .int .i64 K1, .int .i64 K2, .int .i64 N0, .int .i64 N1, .int .i64 N2, .int .i64 N3, .int .i64 N4, .int .i64 N5, .int .i64 N6, .int .i64 N7, .int .u64 P] #[.int .i64 N0, .int .i64 N1, .int .i64 N6, .int .u64 P, .int .i64 N3, .int .i64 N4, .int .i64 N5, .int .i64 K2, .string B] W → W.cell? ⟨g, 5, none⟩ = some (.int .i64 N2) := fun W h => h.2.1.2 5 _ rfl
    have l6 : ∀ W, EU w g #[.int .i64 K0, .int .i64 K1, .int .i64 K2, .int .i64 N0, .int .i64 N1, .int .i64 N2, .int .i64 N3, .int .i64 N4, .int .i64 N5, .int .i64 N6, .int .i64 N7, .int .u64 P] #[.int .i64 N0, .int .i64 N1, .int .i64 N6, .int .u64 P, .int .i64 N3, .int .i64 N4, .int .i64 N5, .int .i64 K2, .string B] W → W.cell? ⟨g, 6, none⟩ = some (.int .i64 N3) := fun W h => h.2.1.2 6 _ rfl
    have l7 : ∀ W, EU w g #[.int .i64 K0, .int .i64 K1, .int .i64 K2, .int .i64 N0, .int .i64 N1, .int .i64 N2, .int .i64 N3, .int .i64 N4, .int .i64 N5, .int .i64 N6, .int .i64 N7, .int .u64 P] #[.int .i64 N0, .int .i64 N1, .int .i64 N6, .int .u64 P, .int .i64 N3, .int .i64 N4, .int .i64 N5, .int .i64 K2, .string B] W → W.cell? ⟨g, 7, none⟩ = some (.int .i64 N4) := fun W h => h.2.1.2 7 _ rfl
    have l8 : ∀ W, EU w g #[.int .i64 K0, .int .i64 K1, .int .i64 K2, .int .i64 N0, .int .i64 N1, .int .i64 N2, .int .i64 N3, .int .i64 N4, .int .i64 N5, .int .i64 N6, .int .i64 N7, .int .u64 P] #[.int .i64 N0, .int .i64 N1, .int .i64 N6, .int .u64 P, .int .i64 N3, .int .i64 N4, .int .i64 N5, .int .i64 K2, .string B] W → W.cell? ⟨g, 8, none⟩ = some (.int .i64 N5) := fun W h => h.2.1.2 8 _ rfl
    have l9 : ∀ W, EU w g #[.int .i64 K0, .int .i64 K1, .int .i64 K2, .int .i64 N0, .int .i64 N1, .int .i64 N2, .int .i64 N3, .int .i64 N4, .int .i64 N5, .int .i64 N6, .int .i64 N7, .int .u64 P] #[.int .i64 N0, .int .i64 N1, .int .i64 N6, .int .u64 P, .int .i64 N3, .int .i64 N4, .int .i64 N5, .int .i64 K2, .string B] W → W.cell? ⟨g, 9, none⟩ = some (.int .i64 N6) := fun W h => h.2.1.2 9 _ rfl
    have l10 : ∀ W, EU w g #[.int .i64 K0, .int .i64 K1, .int .i64 K2, .int .i64 N0, .int .i64 N1, .int .i64 N2, .int .i64 N3, .int .i64 N4, .int .i64 N5, .int .i64 N6, .int .i64 N7, .int .u64 P] #[.int .i64 N0, .int .i64 N1, .int .i64 N6, .int .u64 P, .int .i64 N3, .int .i64 N4, .int .i64 N5, .int .i64 K2, .string B] W → W.cell? ⟨g, 10, none⟩ = some (.int .i64 N7) := fun W h => h.2.1.2 10 _ rfl
    have l11 : ∀ W, EU w g #[.int .i64 K0, .int .i64 K1, .int .i64 K2, .int .i64 N0, .int .i64 N1, .int .i64 N2, .int .i64 N3, .int .i64 N4, .int .i64 N5, .int .i64 N6, .int .i64 N7, .int .u64 P] #[.int .i64 N0, .int .i64 N1, .int .i64 N6, .int .u64 P, .int .i64 N3, .int .i64 N4, .int .i64 N5, .int .i64 K2, .string B] W → W.cell? ⟨g, 11, none⟩ = some (.int .u64 P) := fun W h => h.2.1.2 11 _ rfl
    have e0 : ∀ W, EU w g #[.int .i64 K0, .int .i64 K1, .int .i64 K2, .int .i64 N0, .int .i64 N1, .int .i64 N2, .int .i64 N3, .int .i64 N4, .int .i64 N5, .int .i64 N6, .int .i64 N7, .int .u64 P] #[.int .i64 N0, .int .i64 N1, .int .i64 N6, .int .u64 P, .int .i64 N3, .int .i64 N4, .int .i64 N5, .int .i64 K2, .string B] W → W.cell? ⟨g + 1, 0, none⟩ = some (.int .i64 N0) := fun W h => h.2.2.2 0 _ rfl
    have e1 : ∀ W, EU w g #[.int .i64 K0, .int .i64 K1, .int .i64 K2, .int .i64 N0, .int .i64 N1, .int .i64 N2, .int .i64 N3, .int .i64 N4, .int .i64 N5, .int .i64 N6, .int .i64 N7, .int .u64 P] #[.int .i64 N0, .int .i64 N1, .int .i64 N6, .int .u64 P, .int .i64 N3, .int .i64 N4, .int .i64 N5, .int .i64 K2, .string B] W → W.cell? ⟨g + 1, 1, none⟩ = some (.int .i64 N1) := fun W h => h.2.2.2 1 _ rfl
    have e2 : ∀ W, EU w g #[.int .i64 K0, .int .i64 K1, .int .i64 K2, .int .i64 N0, .int .i64 N1, .int .i64 N2, .int .i64 N3, .int .i64 N4, .int .i64 N5, .int .i64 N6, .int .i64 N7, .int .u64 P] #[.int .i64 N0, .int .i64 N1, .int .i64 N6, .int .u64 P, .int .i64 N3, .int .i64 N4, .int .i64 N5, .int .i64 K2, .string B] W → W.cell? ⟨g + 1, 2, none⟩ = some (.int .i64 N6) := fun W h => h.2.2.2 2 _ rfl
    have e3 : ∀ W, EU w g #[.int .i64 K0, .int .i64 K1, .int .i64 K2, .int .i64 N0, .int .i64 N1, .int .i64 N2, .int .i64 N3, .int .i64 N4, .int .i64 N5, .int .i64 N6, .int .i64 N7, .int .u64 P] #[.int .i64 N0, .int .i64 N1, .int .i64 N6, .int .u64 P, .int .i64 N3, .int .i64 N4, .int .i64 N5, .int .i64 K2, .string B] W → W.cell? ⟨g + 1, 3, none⟩ = some (.int .u64 P) := fun W h => h.2.2.2 3 _ rfl
    have e4 : ∀ W, EU w g #[.int .i64 K0, .int .i64 K1, .int .i64 K2, .int .i64 N0, .int .i64 N1, .int .i64 N2, .int .i64 N3, .int .i64 N4, .int .i64 N5, .int .i64 N6, .int .i64 N7, .int .u64 P] #[.int .i64 N0, .int .i64 N1, .int .i64 N6, .int .u64 P, .int .i64 N3, .int .i64 N4, .int .i64 N5, .int .i64 K2, .string B] W → W.cell? ⟨g + 1, 4, none⟩ = some (.int .i64 N3) := fun W h => h.2.2.2 4 _ rfl
    have e5 : ∀ W, EU w g #[.int .i64 K0, .int .i64 K1, .int .i64 K2, .int .i64 N0, .int .i64 N1, .int .i64 N2, .int .i64 N3, .int .i64 N4, .int .i64 N5, .int .i64 N6, .int .i64 N7, .int .u64 P] #[.int .i64 N0, .int .i64 N1, .int .i64 N6, .int .u64 P, .int .i64 N3, .int .i64 N4, .int .i64 N5, .int .i64 K2, .string B] W → W.cell? ⟨g + 1, 5, none⟩ = some (.int .i64 N4) := fun W h => h.2.2.2 5 _ rfl
    have e6 : ∀ W, EU w g #[.int .i64 K0, .int .i64 K1, .int .i64 K2, .int .i64 N0, .int .i64 N1, .int .i64 N2, .int .i64 N3, .int .i64 N4, .int .i64 N5, .int .i64 N6, .int .i64 N7, .int .u64 P] #[.int .i64 N0, .int .i64 N1, .int .i64 N6, .int .u64 P, .int .i64 N3, .int .i64 N4, .int .i64 N5, .int .i64 K2, .string B] W → W.cell? ⟨g + 1, 6, none⟩ = some (.int .i64 N5) := fun W h => h.2.2.2 6 _ rfl
    have e7 : ∀ W, EU w g #[.int .i64 K0, .int .i64 K1, .int .i64 K2, .int .i64 N0, .int .i64 N1, .int .i64 N2, .int .i64 N3, .int .i64 N4, .int .i64 N5, .int .i64 N6, .int .i64 N7, .int .u64 P] #[.int .i64 N0, .int .i64 N1, .int .i64 N6, .int .u64 P, .int .i64 N3, .int .i64 N4, .int .i64 N5, .int .i64 K2, .string B] W → W.cell? ⟨g + 1, 7, none⟩ = some (.int .i64 K2) := fun W h => h.2.2.2 7 _ rfl
    have e8 : ∀ W, EU w g #[.int .i64 K0, .int .i64 K1, .int .i64 K2, .int .i64 N0, .int .i64 N1, .int .i64 N2, .int .i64 N3, .int .i64 N4, .int .i64 N5, .int .i64 N6, .int .i64 N7, .int .u64 P] #[.int .i64 N0, .int .i64 N1, .int .i64 N6, .int .u64 P, .int .i64 N3, .int .i64 N4, .int .i64 N5, .int .i64 K2, .string B] W → W.cell? ⟨g + 1, 8, none⟩ = some (.string B) := fun W h => h.2.2.2 8 _ rfl
    refine wp_region_noPanic ?_
    refine wp_region_held_drew (S := (EU w g #[.int .i64 K0, .int .i64 K1, .int .i64 K2, .int .i64 N0, .int .i64 N1, .int .i64 N2, .int .i64 N3, .int .i64 N4, .int .i64 N5, .int .i64 N6, .int .i64 N7, .int .u64 P] #[.int .i64 N0, .int .i64 N1, .int .i64 N6, .int .u64 P, .int .i64 N3, .int .i64 N4, .int .i64 N5, .int .i64 K2, .string B])) (by kernel_rfl) H2.out.drew (fun hHeld => ?_)
    refine wpAnyH_take (i := 0) (oi := { dst := some 32, op := _, type := _, pos := _, after := _, guard := _ }) (v := ?_) rfl (by kernel_rfl) (by kernel_rfl) (by kernel_rfl) (fun _ _ _ h => h) (Or.inl ⟨by rfl, ?_⟩) hHeld ?_
    rotate_left
    · intro W hSw
      go_simp
      first | done | rfl
    simp only [Act.put, List.setIfInBounds_toArray, List.set_cons_zero, List.set_cons_succ]
    refine wpAnyH_take (i := 1) (oi := { dst := some 33, op := _, type := _, pos := _, after := _, guard := _ }) (v := ?_) rfl (by kernel_rfl) (by kernel_rfl) (by kernel_rfl) (fun _ _ _ h => h) (Or.inl ⟨by rfl, ?_⟩) hHeld ?_
    rotate_left
    · intro W hSw
      go_simp
      first | done | rfl
    simp only [Act.put, List.setIfInBounds_toArray, List.set_cons_zero, List.set_cons_succ]
    refine wpAnyH_take (i := 2) (oi := { dst := some 34, op := _, type := _, pos := _, after := _, guard := _ }) (v := ?_) rfl (by kernel_rfl) (by kernel_rfl) (by kernel_rfl) (fun _ _ _ h => h) (Or.inl ⟨by rfl, ?_⟩) hHeld ?_
    rotate_left
    · intro W hSw
      go_simp
      first | done | rfl
    simp only [Act.put, List.setIfInBounds_toArray, List.set_cons_zero, List.set_cons_succ]
    refine wpAnyH_take (i := 3) (oi := { dst := some 35, op := _, type := _, pos := _, after := _, guard := _ }) (v := ?_) rfl (by kernel_rfl) (by kernel_rfl) (by kernel_rfl) (fun _ _ _ h => h) (Or.inl ⟨by rfl, ?_⟩) hHeld ?_
    rotate_left
    · intro W hSw
      go_simp
      first | done | rfl
    simp only [Act.put, List.setIfInBounds_toArray, List.set_cons_zero, List.set_cons_succ]
    refine wpAnyH_take (i := 5) (oi := { dst := some 37, op := _, type := _, pos := _, after := _, guard := _ }) (v := ?_) rfl (by kernel_rfl) (by kernel_rfl) (by kernel_rfl) (fun _ _ _ h => h) (Or.inl ⟨by rfl, ?_⟩) hHeld ?_
    rotate_left
    · intro W hSw
      go_simp
      first | done | rfl
    simp only [Act.put, List.setIfInBounds_toArray, List.set_cons_zero, List.set_cons_succ]
    refine wpAnyH_ready (rs := [4]) (by kernel_rfl) (by simp) ?_
    refine AllReadyH.cons (o := { dst := some 36, op := _, type := _, pos := _, after := _, guard := _ }) rfl (fun K hK => ?_) ?_
    rotate_left
    · exact AllReadyH.nil
    go_simp
    refine (HHE.out _).mono ?_
    rintro e wx ⟨rfl, hbx⟩
    refine hK.out _ _ (EU.next hHeld hbx) (fun hHeld2 => ?_)
    clear hK K
    clear hHeld
    have hHeld := hHeld2
    clear hHeld2
    refine wpAnyH_take (i := 6) (oi := { dst := some 38, op := _, type := _, pos := _, after := _, guard := _ }) (v := ?_) rfl (by kernel_rfl) (by kernel_rfl) (by kernel_rfl) (fun _ _ _ h => h) (Or.inl ⟨by rfl, ?_⟩) hHeld ?_
    rotate_left
    · intro W hSw
      go_simp
      first | done | rfl
    simp only [Act.put, List.setIfInBounds_toArray, List.set_cons_zero, List.set_cons_succ]
    refine wpAnyH_take (i := 7) (oi := { dst := some 39, op := _, type := _, pos := _, after := _, guard := _ }) (v := ?_) rfl (by kernel_rfl) (by kernel_rfl) (by kernel_rfl) (fun _ _ _ h => h) (Or.inl ⟨by rfl, ?_⟩) hHeld ?_
    rotate_left
    · intro W hSw
      go_simp
      first | done | rfl
    simp only [Act.put, List.setIfInBounds_toArray, List.set_cons_zero, List.set_cons_succ]
    refine wpAnyH_take (i := 8) (oi := { dst := some 40, op := _, type := _, pos := _, after := _, guard := _ }) (v := ?_) rfl (by kernel_rfl) (by kernel_rfl) (by kernel_rfl) (fun _ _ _ h => h) (Or.inl ⟨by rfl, ?_⟩) hHeld ?_
    rotate_left
    · intro W hSw
      go_simp
      first | done | rfl
    simp only [Act.put, List.setIfInBounds_toArray, List.set_cons_zero, List.set_cons_succ]
    refine wpAnyH_take (i := 9) (oi := { dst := some 41, op := _, type := _, pos := _, after := _, guard := _ }) (v := undef) rfl (by kernel_rfl) (by kernel_rfl) (by kernel_rfl) (fun _ _ _ h => h) (Or.inr ⟨by rfl, rfl⟩) hHeld ?_
    simp only [Act.put, List.setIfInBounds_toArray, List.set_cons_zero, List.set_cons_succ]
    refine wpAnyH_take (i := 10) (oi := { dst := some 42, op := _, type := _, pos := _, after := _, guard := _ }) (v := undef) rfl (by kernel_rfl) (by kernel_rfl) (by kernel_rfl) (fun _ _ _ h => h) (Or.inr ⟨by rfl, rfl⟩) hHeld ?_
    simp only [Act.put, List.setIfInBounds_toArray, List.set_cons_zero, List.set_cons_succ]
    refine wpAnyH_take (i := 11) (oi := { dst := some 43, op := _, type := _, pos := _, after := _, guard := _ }) (v := undef) rfl (by kernel_rfl) (by kernel_rfl) (by kernel_rfl) (fun _ _ _ h => h) (Or.inr ⟨by rfl, rfl⟩) hHeld ?_
    simp only [Act.put, List.setIfInBounds_toArray, List.set_cons_zero, List.set_cons_succ]
    refine wpAnyH_take (i := 12) (oi := { dst := some 44, op := _, type := _, pos := _, after := _, guard := _ }) (v := ?_) rfl (by kernel_rfl) (by kernel_rfl) (by kernel_rfl) (fun _ _ _ h => h) (Or.inl ⟨by rfl, ?_⟩) hHeld ?_
    rotate_left
    · intro W hSw
      go_simp
      first | done | rfl
    simp only [Act.put, List.setIfInBounds_toArray, List.set_cons_zero, List.set_cons_succ]
    refine wpAnyH_done (by kernel_rfl) ?_ _
    refine NoPanic.normal ?_
    all_goals
      have HX := Lib.hid hHeld
      have hne1 : g ≠ w.heap.size := by omega
      have hne2 : w.heap.size ≠ g := by omega
      have hne3 : g + 1 ≠ w.heap.size := by omega
      have hne4 : w.heap.size ≠ g + 1 := by omega
      have hX := HX.out
      obtain ⟨r0, f0⟩ := hX.1.1.2 0 _ rfl
      obtain ⟨r1, f1⟩ := hX.1.1.2 1 _ rfl
      obtain ⟨r2, f2⟩ := hX.1.1.2 2 _ rfl
      obtain ⟨r3, f3⟩ := hX.1.1.2 3 _ rfl
      obtain ⟨r4, f4⟩ := hX.1.1.2 4 _ rfl
      obtain ⟨r5, f5⟩ := hX.1.1.2 5 _ rfl
      obtain ⟨r6, f6⟩ := hX.1.1.2 6 _ rfl
      obtain ⟨r7, f7⟩ := hX.1.1.2 7 _ rfl
      obtain ⟨r8, f8⟩ := hX.1.1.2 8 _ rfl
      clear hX
      clear l0 l1 l2 l3 l4 l5 l6 l7 l8 l9 l10 l11 e0 e1 e2 e3 e4 e5 e6 e7 e8
      go_wp2_with fail
      exact bodyPost_ret (v := .tuple #[.agg #[.int .i64 0, .int .i64 0, .int .i64 0, .int .u64 0, .int .i64 0, .int .i64 0, .int .i64 0, .int .i64 0, .string ⟨#[]⟩], .int .i64 4]) (by simp [results, Try.results26, go_sem, r0, r1, r2, r3, r4, r5, r6, r7, r8]) rfl (UePost.no HY.out (((((((((HX.out.1.2.setCell (p := ⟨w.heap.size, 0, none⟩) (Nat.le_refl _) _).setCell (p := ⟨w.heap.size, 1, none⟩) (Nat.le_refl _) _).setCell (p := ⟨w.heap.size, 2, none⟩) (Nat.le_refl _) _).setCell (p := ⟨w.heap.size, 3, none⟩) (Nat.le_refl _) _).setCell (p := ⟨w.heap.size, 4, none⟩) (Nat.le_refl _) _).setCell (p := ⟨w.heap.size, 5, none⟩) (Nat.le_refl _) _).setCell (p := ⟨w.heap.size, 6, none⟩) (Nat.le_refl _) _).setCell (p := ⟨w.heap.size, 7, none⟩) (Nat.le_refl _) _).setCell (p := ⟨w.heap.size, 8, none⟩) (Nat.le_refl _) _))
  subst mK0
  by_cases mK1 : K1 = 0
  rotate_left
  · have HY : Hid (ueOk s = false) := Lib.hid (by rw [HUE.out]; exact decide_eq_false (fun h => mK1 (by have := h.2.1; omega)))
    have q1 : ((0 : Int) == K1) = false := by simp; omega
    have q2 : (K1 == (0 : Int)) = false := by simp; omega
    have q3 : ¬ (0 : Int) = K1 := by omega
    have q4 : ¬ K1 = (0 : Int) := mK1
    clear mK1
    go_enter Try.func26, Try.ntmps26
    go_wp2_with fail
    refine (HU.out _).mono ?_
    rintro e w1 ⟨rfl, hb1⟩
    have H1 := Lib.hid (H0.out.next hb1)
    clear hb1 H0
    have hlt := H1.out.1.1
    go_wp2_with fail
    have H2 := Lib.hid (EU.new H1.out #[.int .i64 255, .int .i64 K1, .int .i64 K2, .int .i64 N0, .int .i64 N1, .int .i64 N2, .int .i64 N3, .int .i64 N4, .int .i64 N5, .int .i64 N6, .int .i64 N7, .int .u64 P] #[.int .i64 N0, .int .i64 N1, .int .i64 N6, .int .u64 P, .int .i64 N3, .int .i64 N4, .int .i64 N5, .int .i64 K2, .string B] 34 26)
    generalize ((w1.alloc (.cells #[.int .i64 255, .int .i64 K1, .int .i64 K2, .int .i64 N0, .int .i64 N1, .int .i64 N2, .int .i64 N3, .int .i64 N4, .int .i64 N5, .int .i64 N6, .int .i64 N7, .int .u64 P] 34)).alloc (.cells #[.int .i64 N0, .int .i64 N1, .int .i64 N6, .int .u64 P, .int .i64 N3, .int .i64 N4, .int .i64 N5, .int .i64 K2, .string B] 26)) = w2 at *
    obtain ⟨g, hg⟩ : ∃ g, g = w1.heap.size := ⟨_, rfl⟩
    rw [← hg] at hlt H2 ⊢
    clear hg H1
    have l0 : ∀ W, EU w g #[.int .i64 255, .int .i64 K1, .int .i64 K2, .int .i64 N0, .int .i64 N1, .int .i64 N2, .int .i64 N3, .int .i64 N4, .int .i64 N5, .int .i64 N6, .int .i64 N7, .int .u64 P] #[.int .i64 N0, .int .i64 N1, .int .i64 N6, .int .u64 P, .int .i64 N3, .int .i64 N4, .int .i64 N5, .int .i64 K2, .string B] W → W.cell? ⟨g, 0, none⟩ = some (.int .i64 255) := fun W h => h.2.1.2 0 _ rfl
    have l1 : ∀ W, EU w g #[.int .i64 255, .int .i64 K1, .int .i64 K2, .int .i64 N0, .int .i64 N1, .int .i64 N2, .int .i64 N3, .int .i64 N4, .int .i64 N5, .int .i64 N6, .int .i64 N7, .int .u64 P] #[.int .i64 N0, .int .i64 N1, .int .i64 N6, .int .u64 P, .int .i64 N3, .int .i64 N4, .int .i64 N5, .int .i64 K2, .string B] W → W.cell? ⟨g, 1, none⟩ = some (.int .i64 K1) := fun W h => h.2.1.2 1 _ rfl
    have l2 : ∀ W, EU w g #[.int .i64 255, .int .i64 K1, .int .i64 K2, .int .i64 N0, .int .i64 N1, .int .i64 N2, .int .i64 N3, .int .i64 N4, .int .i64 N5, .int .i64 N6, .int .i64 N7, .int .u64 P] #[.int .i64 N0, .int .i64 N1, .int .i64 N6, .int .u64 P, .int .i64 N3, .int .i64 N4, .int .i64 N5, .int .i64 K2, .string B] W → W.cell? ⟨g, 2, none⟩ = some (.int .i64 K2) := fun W h => h.2.1.2 2 _ rfl
    have l3 : ∀ W, EU w g #[.int .i64 255, .int .i64 K1, .int .i64 K2, .int .i64 N0, .int .i64 N1, .int .i64 N2, .int .i64 N3, .int .i64 N4, .int .i64 N5, .int .i64 N6, .int .i64 N7, .int .u64 P] #[.int .i64 N0, .int .i64 N1, .int .i64 N6, .int .u64 P, .int .i64 N3, .int .i64 N4, .int .i64 N5, .int .i64 K2, .string B] W → W.cell? ⟨g, 3, none⟩ = some (.int .i64 N0) := fun W h => h.2.1.2 3 _ rfl
    have l4 : ∀ W, EU w g #[.int .i64 255, .int .i64 K1, .int .i64 K2, .int .i64 N0, .int .i64 N1, .int .i64 N2, .int .i64 N3, .int .i64 N4, .int .i64 N5, .int .i64 N6, .int .i64 N7, .int .u64 P] #[.int .i64 N0, .int .i64 N1, .int .i64 N6, .int .u64 P, .int .i64 N3, .int .i64 N4, .int .i64 N5, .int .i64 K2, .string B] W → W.cell? ⟨g, 4, none⟩ = some (.int .i64 N1) := fun W h => h.2.1.2 4 _ rfl
    have l5 : ∀ W, EU w g #[.int .i64 255, .int .i64 K1, .int .i64 K2, .int .i64 N0, .int .i64 N1, .int .i64 N2, .int .i64 N3, .int .i64 N4, .int .i64 N5, .int .i64 N6, .int .i64 N7, .int .u64 P] #[.int .i64 N0, .int .i64 N1, .int .i64 N6, .int .u64 P, .int .i64 N3, .int .i64 N4, .int .i64 N5, .int .i64 K2, .string B] W → W.cell? ⟨g, 5, none⟩ = some (.int .i64 N2) := fun W h => h.2.1.2 5 _ rfl
    have l6 : ∀ W, EU w g #[.int .i64 255, .int .i64 K1, .int .i64 K2, .int .i64 N0, .int .i64 N1, .int .i64 N2, .int .i64 N3, .int .i64 N4, .int .i64 N5, .int .i64 N6, .int .i64 N7, .int .u64 P] #[.int .i64 N0, .int .i64 N1, .int .i64 N6, .int .u64 P, .int .i64 N3, .int .i64 N4, .int .i64 N5, .int .i64 K2, .string B] W → W.cell? ⟨g, 6, none⟩ = some (.int .i64 N3) := fun W h => h.2.1.2 6 _ rfl
    have l7 : ∀ W, EU w g #[.int .i64 255, .int .i64 K1, .int .i64 K2, .int .i64 N0, .int .i64 N1, .int .i64 N2, .int .i64 N3, .int .i64 N4, .int .i64 N5, .int .i64 N6, .int .i64 N7, .int .u64 P] #[.int .i64 N0, .int .i64 N1, .int .i64 N6, .int .u64 P, .int .i64 N3, .int .i64 N4, .int .i64 N5, .int .i64 K2, .string B] W → W.cell? ⟨g, 7, none⟩ = some (.int .i64 N4) := fun W h => h.2.1.2 7 _ rfl
    have l8 : ∀ W, EU w g #[.int .i64 255, .int .i64 K1, .int .i64 K2, .int .i64 N0, .int .i64 N1, .int .i64 N2, .int .i64 N3, .int .i64 N4, .int .i64 N5, .int .i64 N6, .int .i64 N7, .int .u64 P] #[.int .i64 N0, .int .i64 N1, .int .i64 N6, .int .u64 P, .int .i64 N3, .int .i64 N4, .int .i64 N5, .int .i64 K2, .string B] W → W.cell? ⟨g, 8, none⟩ = some (.int .i64 N5) := fun W h => h.2.1.2 8 _ rfl
    have l9 : ∀ W, EU w g #[.int .i64 255, .int .i64 K1, .int .i64 K2, .int .i64 N0, .int .i64 N1, .int .i64 N2, .int .i64 N3, .int .i64 N4, .int .i64 N5, .int .i64 N6, .int .i64 N7, .int .u64 P] #[.int .i64 N0, .int .i64 N1, .int .i64 N6, .int .u64 P, .int .i64 N3, .int .i64 N4, .int .i64 N5, .int .i64 K2, .string B] W → W.cell? ⟨g, 9, none⟩ = some (.int .i64 N6) := fun W h => h.2.1.2 9 _ rfl
    have l10 : ∀ W, EU w g #[.int .i64 255, .int .i64 K1, .int .i64 K2, .int .i64 N0, .int .i64 N1, .int .i64 N2, .int .i64 N3, .int .i64 N4, .int .i64 N5, .int .i64 N6, .int .i64 N7, .int .u64 P] #[.int .i64 N0, .int .i64 N1, .int .i64 N6, .int .u64 P, .int .i64 N3, .int .i64 N4, .int .i64 N5, .int .i64 K2, .string B] W → W.cell? ⟨g, 10, none⟩ = some (.int .i64 N7) := fun W h => h.2.1.2 10 _ rfl
    have l11 : ∀ W, EU w g #[.int .i64 255, .int .i64 K1, .int .i64 K2, .int .i64 N0, .int .i64 N1, .int .i64 N2, .int .i64 N3, .int .i64 N4, .int .i64 N5, .int .i64 N6, .int .i64 N7, .int .u64 P] #[.int .i64 N0, .int .i64 N1, .int .i64 N6, .int .u64 P, .int .i64 N3, .int .i64 N4, .int .i64 N5, .int .i64 K2, .string B] W → W.cell? ⟨g, 11, none⟩ = some (.int .u64 P) := fun W h => h.2.1.2 11 _ rfl
    have e0 : ∀ W, EU w g #[.int .i64 255, .int .i64 K1, .int .i64 K2, .int .i64 N0, .int .i64 N1, .int .i64 N2, .int .i64 N3, .int .i64 N4, .int .i64 N5, .int .i64 N6, .int .i64 N7, .int .u64 P] #[.int .i64 N0, .int .i64 N1, .int .i64 N6, .int .u64 P, .int .i64 N3, .int .i64 N4, .int .i64 N5, .int .i64 K2, .string B] W → W.cell? ⟨g + 1, 0, none⟩ = some (.int .i64 N0) := fun W h => h.2.2.2 0 _ rfl
    have e1 : ∀ W, EU w g #[.int .i64 255, .int .i64 K1, .int .i64 K2, .int .i64 N0, .int .i64 N1, .int .i64 N2, .int .i64 N3, .int .i64 N4, .int .i64 N5, .int .i64 N6, .int .i64 N7, .int .u64 P] #[.int .i64 N0, .int .i64 N1, .int .i64 N6, .int .u64 P, .int .i64 N3, .int .i64 N4, .int .i64 N5, .int .i64 K2, .string B] W → W.cell? ⟨g + 1, 1, none⟩ = some (.int .i64 N1) := fun W h => h.2.2.2 1 _ rfl
    have e2 : ∀ W, EU w g #[.int .i64 255, .int .i64 K1, .int .i64 K2, .int .i64 N0, .int .i64 N1, .int .i64 N2, .int .i64 N3, .int .i64 N4, .int .i64 N5, .int .i64 N6, .int .i64 N7, .int .u64 P] #[.int .i64 N0, .int .i64 N1, .int .i64 N6, .int .u64 P, .int .i64 N3, .int .i64 N4, .int .i64 N5, .int .i64 K2, .string B] W → W.cell? ⟨g + 1, 2, none⟩ = some (.int .i64 N6) := fun W h => h.2.2.2 2 _ rfl
    have e3 : ∀ W, EU w g #[.int .i64 255, .int .i64 K1, .int .i64 K2, .int .i64 N0, .int .i64 N1, .int .i64 N2, .int .i64 N3, .int .i64 N4, .int .i64 N5, .int .i64 N6, .int .i64 N7, .int .u64 P] #[.int .i64 N0, .int .i64 N1, .int .i64 N6, .int .u64 P, .int .i64 N3, .int .i64 N4, .int .i64 N5, .int .i64 K2, .string B] W → W.cell? ⟨g + 1, 3, none⟩ = some (.int .u64 P) := fun W h => h.2.2.2 3 _ rfl
    have e4 : ∀ W, EU w g #[.int .i64 255, .int .i64 K1, .int .i64 K2, .int .i64 N0, .int .i64 N1, .int .i64 N2, .int .i64 N3, .int .i64 N4, .int .i64 N5, .int .i64 N6, .int .i64 N7, .int .u64 P] #[.int .i64 N0, .int .i64 N1, .int .i64 N6, .int .u64 P, .int .i64 N3, .int .i64 N4, .int .i64 N5, .int .i64 K2, .string B] W → W.cell? ⟨g + 1, 4, none⟩ = some (.int .i64 N3) := fun W h => h.2.2.2 4 _ rfl
    have e5 : ∀ W, EU w g #[.int .i64 255, .int .i64 K1, .int .i64 K2, .int .i64 N0, .int .i64 N1, .int .i64 N2, .int .i64 N3, .int .i64 N4, .int .i64 N5, .int .i64 N6, .int .i64 N7, .int .u64 P] #[.int .i64 N0, .int .i64 N1, .int .i64 N6, .int .u64 P, .int .i64 N3, .int .i64 N4, .int .i64 N5, .int .i64 K2, .string B] W → W.cell? ⟨g + 1, 5, none⟩ = some (.int .i64 N4) := fun W h => h.2.2.2 5 _ rfl
    have e6 : ∀ W, EU w g #[.int .i64 255, .int .i64 K1, .int .i64 K2, .int .i64 N0, .int .i64 N1, .int .i64 N2, .int .i64 N3, .int .i64 N4, .int .i64 N5, .int .i64 N6, .int .i64 N7, .int .u64 P] #[.int .i64 N0, .int .i64 N1, .int .i64 N6, .int .u64 P, .int .i64 N3, .int .i64 N4, .int .i64 N5, .int .i64 K2, .string B] W → W.cell? ⟨g + 1, 6, none⟩ = some (.int .i64 N5) := fun W h => h.2.2.2 6 _ rfl
    have e7 : ∀ W, EU w g #[.int .i64 255, .int .i64 K1, .int .i64 K2, .int .i64 N0, .int .i64 N1, .int .i64 N2, .int .i64 N3, .int .i64 N4, .int .i64 N5, .int .i64 N6, .int .i64 N7, .int .u64 P] #[.int .i64 N0, .int .i64 N1, .int .i64 N6, .int .u64 P, .int .i64 N3, .int .i64 N4, .int .i64 N5, .int .i64 K2, .string B] W → W.cell? ⟨g + 1, 7, none⟩ = some (.int .i64 K2) := fun W h => h.2.2.2 7 _ rfl
    have e8 : ∀ W, EU w g #[.int .i64 255, .int .i64 K1, .int .i64 K2, .int .i64 N0, .int .i64 N1, .int .i64 N2, .int .i64 N3, .int .i64 N4, .int .i64 N5, .int .i64 N6, .int .i64 N7, .int .u64 P] #[.int .i64 N0, .int .i64 N1, .int .i64 N6, .int .u64 P, .int .i64 N3, .int .i64 N4, .int .i64 N5, .int .i64 K2, .string B] W → W.cell? ⟨g + 1, 8, none⟩ = some (.string B) := fun W h => h.2.2.2 8 _ rfl
    refine wp_region_noPanic ?_
    refine wp_region_held_drew (S := (EU w g #[.int .i64 255, .int .i64 K1, .int .i64 K2, .int .i64 N0, .int .i64 N1, .int .i64 N2, .int .i64 N3, .int .i64 N4, .int .i64 N5, .int .i64 N6, .int .i64 N7, .int .u64 P] #[.int .i64 N0, .int .i64 N1, .int .i64 N6, .int .u64 P, .int .i64 N3, .int .i64 N4, .int .i64 N5, .int .i64 K2, .string B])) (by kernel_rfl) H2.out.drew (fun hHeld => ?_)
    refine wpAnyH_take (i := 0) (oi := { dst := some 32, op := _, type := _, pos := _, after := _, guard := _ }) (v := ?_) rfl (by kernel_rfl) (by kernel_rfl) (by kernel_rfl) (fun _ _ _ h => h) (Or.inl ⟨by rfl, ?_⟩) hHeld ?_
    rotate_left
    · intro W hSw
      go_simp
      first | done | rfl
    simp only [Act.put, List.setIfInBounds_toArray, List.set_cons_zero, List.set_cons_succ]
    refine wpAnyH_take (i := 1) (oi := { dst := some 33, op := _, type := _, pos := _, after := _, guard := _ }) (v := ?_) rfl (by kernel_rfl) (by kernel_rfl) (by kernel_rfl) (fun _ _ _ h => h) (Or.inl ⟨by rfl, ?_⟩) hHeld ?_
    rotate_left
    · intro W hSw
      go_simp
      first | done | rfl
    simp only [Act.put, List.setIfInBounds_toArray, List.set_cons_zero, List.set_cons_succ]
    refine wpAnyH_take (i := 2) (oi := { dst := some 34, op := _, type := _, pos := _, after := _, guard := _ }) (v := ?_) rfl (by kernel_rfl) (by kernel_rfl) (by kernel_rfl) (fun _ _ _ h => h) (Or.inl ⟨by rfl, ?_⟩) hHeld ?_
    rotate_left
    · intro W hSw
      go_simp
      first | done | rfl
    simp only [Act.put, List.setIfInBounds_toArray, List.set_cons_zero, List.set_cons_succ]
    refine wpAnyH_take (i := 3) (oi := { dst := some 35, op := _, type := _, pos := _, after := _, guard := _ }) (v := ?_) rfl (by kernel_rfl) (by kernel_rfl) (by kernel_rfl) (fun _ _ _ h => h) (Or.inl ⟨by rfl, ?_⟩) hHeld ?_
    rotate_left
    · intro W hSw
      go_simp
      first | done | rfl
    simp only [Act.put, List.setIfInBounds_toArray, List.set_cons_zero, List.set_cons_succ]
    refine wpAnyH_take (i := 5) (oi := { dst := some 37, op := _, type := _, pos := _, after := _, guard := _ }) (v := ?_) rfl (by kernel_rfl) (by kernel_rfl) (by kernel_rfl) (fun _ _ _ h => h) (Or.inl ⟨by rfl, ?_⟩) hHeld ?_
    rotate_left
    · intro W hSw
      go_simp
      first | done | rfl
    simp only [Act.put, List.setIfInBounds_toArray, List.set_cons_zero, List.set_cons_succ]
    refine wpAnyH_ready (rs := [4]) (by kernel_rfl) (by simp) ?_
    refine AllReadyH.cons (o := { dst := some 36, op := _, type := _, pos := _, after := _, guard := _ }) rfl (fun K hK => ?_) ?_
    rotate_left
    · exact AllReadyH.nil
    go_simp
    refine (HHE.out _).mono ?_
    rintro e wx ⟨rfl, hbx⟩
    refine hK.out _ _ (EU.next hHeld hbx) (fun hHeld2 => ?_)
    clear hK K
    clear hHeld
    have hHeld := hHeld2
    clear hHeld2
    refine wpAnyH_take (i := 6) (oi := { dst := some 38, op := _, type := _, pos := _, after := _, guard := _ }) (v := ?_) rfl (by kernel_rfl) (by kernel_rfl) (by kernel_rfl) (fun _ _ _ h => h) (Or.inl ⟨by rfl, ?_⟩) hHeld ?_
    rotate_left
    · intro W hSw
      go_simp
      first | done | rfl
    simp only [Act.put, List.setIfInBounds_toArray, List.set_cons_zero, List.set_cons_succ]
    refine wpAnyH_take (i := 7) (oi := { dst := some 39, op := _, type := _, pos := _, after := _, guard := _ }) (v := ?_) rfl (by kernel_rfl) (by kernel_rfl) (by kernel_rfl) (fun _ _ _ h => h) (Or.inl ⟨by rfl, ?_⟩) hHeld ?_
    rotate_left
    · intro W hSw
      go_simp
      first | done | rfl
    simp only [Act.put, List.setIfInBounds_toArray, List.set_cons_zero, List.set_cons_succ]
    refine wpAnyH_take (i := 8) (oi := { dst := some 40, op := _, type := _, pos := _, after := _, guard := _ }) (v := ?_) rfl (by kernel_rfl) (by kernel_rfl) (by kernel_rfl) (fun _ _ _ h => h) (Or.inl ⟨by rfl, ?_⟩) hHeld ?_
    rotate_left
    · intro W hSw
      go_simp
      first | done | rfl
    simp only [Act.put, List.setIfInBounds_toArray, List.set_cons_zero, List.set_cons_succ]
    refine wpAnyH_take (i := 9) (oi := { dst := some 41, op := _, type := _, pos := _, after := _, guard := _ }) (v := undef) rfl (by kernel_rfl) (by kernel_rfl) (by kernel_rfl) (fun _ _ _ h => h) (Or.inr ⟨by rfl, rfl⟩) hHeld ?_
    simp only [Act.put, List.setIfInBounds_toArray, List.set_cons_zero, List.set_cons_succ]
    refine wpAnyH_take (i := 10) (oi := { dst := some 42, op := _, type := _, pos := _, after := _, guard := _ }) (v := undef) rfl (by kernel_rfl) (by kernel_rfl) (by kernel_rfl) (fun _ _ _ h => h) (Or.inr ⟨by rfl, rfl⟩) hHeld ?_
    simp only [Act.put, List.setIfInBounds_toArray, List.set_cons_zero, List.set_cons_succ]
    refine wpAnyH_take (i := 11) (oi := { dst := some 43, op := _, type := _, pos := _, after := _, guard := _ }) (v := undef) rfl (by kernel_rfl) (by kernel_rfl) (by kernel_rfl) (fun _ _ _ h => h) (Or.inr ⟨by rfl, rfl⟩) hHeld ?_
    simp only [Act.put, List.setIfInBounds_toArray, List.set_cons_zero, List.set_cons_succ]
    refine wpAnyH_take (i := 12) (oi := { dst := some 44, op := _, type := _, pos := _, after := _, guard := _ }) (v := ?_) rfl (by kernel_rfl) (by kernel_rfl) (by kernel_rfl) (fun _ _ _ h => h) (Or.inl ⟨by rfl, ?_⟩) hHeld ?_
    rotate_left
    · intro W hSw
      go_simp
      first | done | rfl
    simp only [Act.put, List.setIfInBounds_toArray, List.set_cons_zero, List.set_cons_succ]
    refine wpAnyH_done (by kernel_rfl) ?_ _
    refine NoPanic.normal ?_
    all_goals
      have HX := Lib.hid hHeld
      have hne1 : g ≠ w.heap.size := by omega
      have hne2 : w.heap.size ≠ g := by omega
      have hne3 : g + 1 ≠ w.heap.size := by omega
      have hne4 : w.heap.size ≠ g + 1 := by omega
      have hX := HX.out
      obtain ⟨r0, f0⟩ := hX.1.1.2 0 _ rfl
      obtain ⟨r1, f1⟩ := hX.1.1.2 1 _ rfl
      obtain ⟨r2, f2⟩ := hX.1.1.2 2 _ rfl
      obtain ⟨r3, f3⟩ := hX.1.1.2 3 _ rfl
      obtain ⟨r4, f4⟩ := hX.1.1.2 4 _ rfl
      obtain ⟨r5, f5⟩ := hX.1.1.2 5 _ rfl
      obtain ⟨r6, f6⟩ := hX.1.1.2 6 _ rfl
      obtain ⟨r7, f7⟩ := hX.1.1.2 7 _ rfl
      obtain ⟨r8, f8⟩ := hX.1.1.2 8 _ rfl
      clear hX
      clear l0 l1 l2 l3 l4 l5 l6 l7 l8 l9 l10 l11 e0 e1 e2 e3 e4 e5 e6 e7 e8
      go_wp2_with fail
      exact bodyPost_ret (v := .tuple #[.agg #[.int .i64 0, .int .i64 0, .int .i64 0, .int .u64 0, .int .i64 0, .int .i64 0, .int .i64 0, .int .i64 0, .string ⟨#[]⟩], .int .i64 4]) (by simp [results, Try.results26, go_sem, r0, r1, r2, r3, r4, r5, r6, r7, r8]) rfl (UePost.no HY.out (((((((((HX.out.1.2.setCell (p := ⟨w.heap.size, 0, none⟩) (Nat.le_refl _) _).setCell (p := ⟨w.heap.size, 1, none⟩) (Nat.le_refl _) _).setCell (p := ⟨w.heap.size, 2, none⟩) (Nat.le_refl _) _).setCell (p := ⟨w.heap.size, 3, none⟩) (Nat.le_refl _) _).setCell (p := ⟨w.heap.size, 4, none⟩) (Nat.le_refl _) _).setCell (p := ⟨w.heap.size, 5, none⟩) (Nat.le_refl _) _).setCell (p := ⟨w.heap.size, 6, none⟩) (Nat.le_refl _) _).setCell (p := ⟨w.heap.size, 7, none⟩) (Nat.le_refl _) _).setCell (p := ⟨w.heap.size, 8, none⟩) (Nat.le_refl _) _))
  subst mK1
  by_cases mN2 : N2 = 0
  rotate_left
  · have HY : Hid (ueOk s = false) := Lib.hid (by rw [HUE.out]; exact decide_eq_false (fun h => mN2 (by have := h.2.1; omega)))
    have q1 : ((0 : Int) == N2) = false := by simp; omega
    have q2 : (N2 == (0 : Int)) = false := by simp; omega
    have q3 : ¬ (0 : Int) = N2 := by omega
    have q4 : ¬ N2 = (0 : Int) := mN2
    clear mN2
    go_enter Try.func26, Try.ntmps26
    go_wp2_with fail
    refine (HU.out _).mono ?_
    rintro e w1 ⟨rfl, hb1⟩
    have H1 := Lib.hid (H0.out.next hb1)
    clear hb1 H0
    have hlt := H1.out.1.1
    go_wp2_with fail
    have H2 := Lib.hid (EU.new H1.out #[.int .i64 255, .int .i64 0, .int .i64 K2, .int .i64 N0, .int .i64 N1, .int .i64 N2, .int .i64 N3, .int .i64 N4, .int .i64 N5, .int .i64 N6, .int .i64 N7, .int .u64 P] #[.int .i64 N0, .int .i64 N1, .int .i64 N6, .int .u64 P, .int .i64 N3, .int .i64 N4, .int .i64 N5, .int .i64 K2, .string B] 34 26)
    generalize ((w1.alloc (.cells #[.int .i64 255, .int .i64 0, .int .i64 K2, .int .i64 N0, .int .i64 N1, .int .i64 N2, .int .i64 N3, .int .i64 N4, .int .i64 N5, .int .i64 N6, .int .i64 N7, .int .u64 P] 34)).alloc (.cells #[.int .i64 N0, .int .i64 N1, .int .i64 N6, .int .u64 P, .int .i64 N3, .int .i64 N4, .int .i64 N5, .int .i64 K2, .string B] 26)) = w2 at *
    obtain ⟨g, hg⟩ : ∃ g, g = w1.heap.size := ⟨_, rfl⟩
    rw [← hg] at hlt H2 ⊢
    clear hg H1
    have l0 : ∀ W, EU w g #[.int .i64 255, .int .i64 0, .int .i64 K2, .int .i64 N0, .int .i64 N1, .int .i64 N2, .int .i64 N3, .int .i64 N4, .int .i64 N5, .int .i64 N6, .int .i64 N7, .int .u64 P] #[.int .i64 N0, .int .i64 N1, .int .i64 N6, .int .u64 P, .int .i64 N3, .int .i64 N4, .int .i64 N5, .int .i64 K2, .string B] W → W.cell? ⟨g, 0, none⟩ = some (.int .i64 255) := fun W h => h.2.1.2 0 _ rfl
    have l1 : ∀ W, EU w g #[.int .i64 255, .int .i64 0, .int .i64 K2, .int .i64 N0, .int .i64 N1, .int .i64 N2, .int .i64 N3, .int .i64 N4, .int .i64 N5, .int .i64 N6, .int .i64 N7, .int .u64 P] #[.int .i64 N0, .int .i64 N1, .int .i64 N6, .int .u64 P, .int .i64 N3, .int .i64 N4, .int .i64 N5, .int .i64 K2, .string B] W → W.cell? ⟨g, 1, none⟩ = some (.int .i64 0) := fun W h => h.2.1.2 1 _ rfl
    have l2 : ∀ W, EU w g #[.int .i64 255, .int .i64 0, .int .i64 K2, .int .i64 N0, .int .i64 N1, .int .i64 N2, .int .i64 N3, .int .i64 N4, .int .i64 N5, .int .i64 N6, .int .i64 N7, .int .u64 P] #[.int .i64 N0, .int .i64 N1, .int .i64 N6, .int .u64 P, .int .i64 N3, .int .i64 N4, .int .i64 N5, .int .i64 K2, .string B] W → W.cell? ⟨g, 2, none⟩ = some (.int .i64 K2) := fun W h => h.2.1.2 2 _ rfl
    have l3 : ∀ W, EU w g #[.int .i64 255, .int .i64 0, .int .i64 K2, .int .i64 N0, .int .i64 N1, .int .i64 N2, .int .i64 N3, .int .i64 N4, .int .i64 N5, .int .i64 N6, .int .i64 N7, .int .u64 P] #[.int .i64 N0, .int .i64 N1, .int .i64 N6, .int .u64 P, .int .i64 N3, .int .i64 N4, .int .i64 N5, .int .i64 K2, .string B] W → W.cell? ⟨g, 3, none⟩ = some (.int .i64 N0) := fun W h => h.2.1.2 3 _ rfl
    have l4 : ∀ W, EU w g #[.int .i64 255, .int .i64 0, .int .i64 K2, .int .i64 N0, .int .i64 N1, .int .i64 N2, .int .i64 N3, .int .i64 N4, .int .i64 N5, .int .i64 N6, .int .i64 N7, .int .u64 P] #[.int .i64 N0, .int .i64 N1, .int .i64 N6, .int .u64 P, .int .i64 N3, .int .i64 N4, .int .i64 N5, .int .i64 K2, .string B] W → W.cell? ⟨g, 4, none⟩ = some (.int .i64 N1) := fun W h => h.2.1.2 4 _ rfl
    have l5 : ∀ W, EU w g #[.int .i64 255, .int .i64 0, .int .i64 K2, .int .i64 N0, .int .i64 N1, .int .i64 N2, .int .i64 N3, .int .i64 N4, .int .i64 N5, .int .i64 N6, .int .i64 N7, .int .u64 P] #[.int .i64 N0, .int .i64 N1, .int .i64 N6, .int .u64 P, .int .i64 N3, .int .i64 N4, .int .i64 N5, .int .i64 K2, .string B] W → W.cell? ⟨g, 5, none⟩ = some (.int .i64 N2) := fun W h => h.2.1.2 5 _ rfl
    have l6 : ∀ W, EU w g #[.int .i64 255, .int .i64 0, .int .i64 K2, .int .i64 N0, .int .i64 N1, .int .i64 N2, .int .i64 N3, .int .i64 N4, .int .i64 N5, .int .i64 N6, .int .i64 N7, .int .u64 P] #[.int .i64 N0, .int .i64 N1, .int .i64 N6, .int .u64 P, .int .i64 N3, .int .i64 N4, .int .i64 N5, .int .i64 K2, .string B] W → W.cell? ⟨g, 6, none⟩ = some (.int .i64 N3) := fun W h => h.2.1.2 6 _ rfl
    have l7 : ∀ W, EU w g #[.int .i64 255, .int .i64 0, .int .i64 K2, .int .i64 N0, .int .i64 N1, .int .i64 N2, .int .i64 N3, .int .i64 N4, .int .i64 N5, .int .i64 N6, .int .i64 N7, .int .u64 P] #[.int .i64 N0, .int .i64 N1, .int .i64 N6, .int .u64 P, .int .i64 N3, .int .i64 N4, .int .i64 N5, .int .i64 K2, .string B] W → W.cell? ⟨g, 7, none⟩ = some (.int .i64 N4) := fun W h => h.2.1.2 7 _ rfl
    have l8 : ∀ W, EU w g #[.int .i64 255, .int .i64 0, .int .i64 K2, .int .i64 N0, .int .i64 N1, .int .i64 N2, .int .i64 N3, .int .i64 N4, .int .i64 N5, .int .i64 N6, .int .i64 N7, .int .u64 P] #[.int .i64 N0, .int .i64 N1, .int .i64 N6, .int .u64 P, .int .i64 N3, .int .i64 N4, .int .i64 N5, .int .i64 K2, .string B] W → W.cell? ⟨g, 8, none⟩ = some (.int .i64 N5) := fun W h => h.2.1.2 8 _ rfl
    have l9 : ∀ W, EU w g #[.int .i64 255, .int .i64 0, .int .i64 K2, .int .i64 N0, .int .i64 N1, .int .i64 N2, .int .i64 N3, .int .i64 N4, .int .i64 N5, .int .i64 N6, .int .i64 N7, .int .u64 P] #[.int .i64 N0, .int .i64 N1, .int .i64 N6, .int .u64 P, .int .i64 N3, .int .i64 N4, .int .i64 N5, .int .i64 K2, .string B] W → W.cell? ⟨g, 9, none⟩ = some (.int .i64 N6) := fun W h => h.2.1.2 9 _ rfl
    have l10 : ∀ W, EU w g #[.int .i64 255, .int .i64 0, .int .i64 K2, .int .i64 N0, .int .i64 N1, .int .i64 N2, .int .i64 N3, .int .i64 N4, .int .i64 N5, .int .i64 N6, .int .i64 N7, .int .u64 P] #[.int .i64 N0, .int .i64 N1, .int .i64 N6, .int .u64 P, .int .i64 N3, .int .i64 N4, .int .i64 N5, .int .i64 K2, .string B] W → W.cell? ⟨g, 10, none⟩ = some (.int .i64 N7) := fun W h => h.2.1.2 10 _ rfl
    have l11 : ∀ W, EU w g #[.int .i64 255, .int .i64 0, .int .i64 K2, .int .i64 N0, .int .i64 N1, .int .i64 N2, .int .i64 N3, .int .i64 N4, .int .i64 N5, .int .i64 N6, .int .i64 N7, .int .u64 P] #[.int .i64 N0, .int .i64 N1, .int .i64 N6, .int .u64 P, .int .i64 N3, .int .i64 N4, .int .i64 N5, .int .i64 K2, .string B] W → W.cell? ⟨g, 11, none⟩ = some (.int .u64 P) := fun W h => h.2.1.2 11 _ rfl
    have e0 : ∀ W, EU w g #[.int .i64 255, .int .i64 0, .int .i64 K2, .int .i64 N0, .int .i64 N1, .int .i64 N2, .int .i64 N3, .int .i64 N4, .int .i64 N5, .int .i64 N6, .int .i64 N7, .int .u64 P] #[.int .i64 N0, .int .i64 N1, .int .i64 N6, .int .u64 P, .int .i64 N3, .int .i64 N4, .int .i64 N5, .int .i64 K2, .string B] W → W.cell? ⟨g + 1, 0, none⟩ = some (.int .i64 N0) := fun W h => h.2.2.2 0 _ rfl
    have e1 : ∀ W, EU w g #[.int .i64 255, .int .i64 0, .int .i64 K2, .int .i64 N0, .int .i64 N1, .int .i64 N2, .int .i64 N3, .int .i64 N4, .int .i64 N5, .int .i64 N6, .int .i64 N7, .int .u64 P] #[.int .i64 N0, .int .i64 N1, .int .i64 N6, .int .u64 P, .int .i64 N3, .int .i64 N4, .int .i64 N5, .int .i64 K2, .string B] W → W.cell? ⟨g + 1, 1, none⟩ = some (.int .i64 N1) := fun W h => h.2.2.2 1 _ rfl
    have e2 : ∀ W, EU w g #[.int .i64 255, .int .i64 0, .int .i64 K2, .int .i64 N0, .int .i64 N1, .int .i64 N2, .int .i64 N3, .int .i64 N4, .int .i64 N5, .int .i64 N6, .int .i64 N7, .int .u64 P] #[.int .i64 N0, .int .i64 N1, .int .i64 N6, .int .u64 P, .int .i64 N3, .int .i64 N4, .int .i64 N5, .int .i64 K2, .string B] W → W.cell? ⟨g + 1, 2, none⟩ = some (.int .i64 N6) := fun W h => h.2.2.2 2 _ rfl
    have e3 : ∀ W, EU w g #[.int .i64 255, .int .i64 0, .int .i64 K2, .int .i64 N0, .int .i64 N1, .int .i64 N2, .int .i64 N3, .int .i64 N4, .int .i64 N5, .int .i64 N6, .int .i64 N7, .int .u64 P] #[.int .i64 N0, .int .i64 N1, .int .i64 N6, .int .u64 P, .int .i64 N3, .int .i64 N4, .int .i64 N5, .int .i64 K2, .string B] W → W.cell? ⟨g + 1, 3, none⟩ = some (.int .u64 P) := fun W h => h.2.2.2 3 _ rfl
    have e4 : ∀ W, EU w g #[.int .i64 255, .int .i64 0, .int .i64 K2, .int .i64 N0, .int .i64 N1, .int .i64 N2, .int .i64 N3, .int .i64 N4, .int .i64 N5, .int .i64 N6, .int .i64 N7, .int .u64 P] #[.int .i64 N0, .int .i64 N1, .int .i64 N6, .int .u64 P, .int .i64 N3, .int .i64 N4, .int .i64 N5, .int .i64 K2, .string B] W → W.cell? ⟨g + 1, 4, none⟩ = some (.int .i64 N3) := fun W h => h.2.2.2 4 _ rfl
    have e5 : ∀ W, EU w g #[.int .i64 255, .int .i64 0, .int .i64 K2, .int .i64 N0, .int .i64 N1, .int .i64 N2, .int .i64 N3, .int .i64 N4, .int .i64 N5, .int .i64 N6, .int .i64 N7, .int .u64 P] #[.int .i64 N0, .int .i64 N1, .int .i64 N6, .int .u64 P, .int .i64 N3, .int .i64 N4, .int .i64 N5, .int .i64 K2, .string B] W → W.cell? ⟨g + 1, 5, none⟩ = some (.int .i64 N4) := fun W h => h.2.2.2 5 _ rfl
    have e6 : ∀ W, EU w g #[.int .i64 255, .int .i64 0, .int .i64 K2, .int .i64 N0, .int .i64 N1, .int .i64 N2, .int .i64 N3, .int .i64 N4, .int .i64 N5, .int .i64 N6, .int .i64 N7, .int .u64 P] #[.int .i64 N0, .int .i64 N1, .int .i64 N6, .int .u64 P, .int .i64 N3, .int .i64 N4, .int .i64 N5, .int .i64 K2, .string B] W → W.cell? ⟨g + 1, 6, none⟩ = some (.int .i64 N5) := fun W h => h.2.2.2 6 _ rfl
    have e7 : ∀ W, EU w g #[.int .i64 255, .int .i64 0, .int .i64 K2, .int .i64 N0, .int .i64 N1, .int .i64 N2, .int .i64 N3, .int .i64 N4, .int .i64 N5, .int .i64 N6, .int .i64 N7, .int .u64 P] #[.int .i64 N0, .int .i64 N1, .int .i64 N6, .int .u64 P, .int .i64 N3, .int .i64 N4, .int .i64 N5, .int .i64 K2, .string B] W → W.cell? ⟨g + 1, 7, none⟩ = some (.int .i64 K2) := fun W h => h.2.2.2 7 _ rfl
    have e8 : ∀ W, EU w g #[.int .i64 255, .int .i64 0, .int .i64 K2, .int .i64 N0, .int .i64 N1, .int .i64 N2, .int .i64 N3, .int .i64 N4, .int .i64 N5, .int .i64 N6, .int .i64 N7, .int .u64 P] #[.int .i64 N0, .int .i64 N1, .int .i64 N6, .int .u64 P, .int .i64 N3, .int .i64 N4, .int .i64 N5, .int .i64 K2, .string B] W → W.cell? ⟨g + 1, 8, none⟩ = some (.string B) := fun W h => h.2.2.2 8 _ rfl
    refine wp_region_noPanic ?_
    refine wp_region_held_drew (S := (EU w g #[.int .i64 255, .int .i64 0, .int .i64 K2, .int .i64 N0, .int .i64 N1, .int .i64 N2, .int .i64 N3, .int .i64 N4, .int .i64 N5, .int .i64 N6, .int .i64 N7, .int .u64 P] #[.int .i64 N0, .int .i64 N1, .int .i64 N6, .int .u64 P, .int .i64 N3, .int .i64 N4, .int .i64 N5, .int .i64 K2, .string B])) (by kernel_rfl) H2.out.drew (fun hHeld => ?_)
    refine wpAnyH_take (i := 0) (oi := { dst := some 32, op := _, type := _, pos := _, after := _, guard := _ }) (v := ?_) rfl (by kernel_rfl) (by kernel_rfl) (by kernel_rfl) (fun _ _ _ h => h) (Or.inl ⟨by rfl, ?_⟩) hHeld ?_
    rotate_left
    · intro W hSw
      go_simp
      first | done | rfl
    simp only [Act.put, List.setIfInBounds_toArray, List.set_cons_zero, List.set_cons_succ]
    refine wpAnyH_take (i := 1) (oi := { dst := some 33, op := _, type := _, pos := _, after := _, guard := _ }) (v := ?_) rfl (by kernel_rfl) (by kernel_rfl) (by kernel_rfl) (fun _ _ _ h => h) (Or.inl ⟨by rfl, ?_⟩) hHeld ?_
    rotate_left
    · intro W hSw
      go_simp
      first | done | rfl
    simp only [Act.put, List.setIfInBounds_toArray, List.set_cons_zero, List.set_cons_succ]
    refine wpAnyH_take (i := 2) (oi := { dst := some 34, op := _, type := _, pos := _, after := _, guard := _ }) (v := ?_) rfl (by kernel_rfl) (by kernel_rfl) (by kernel_rfl) (fun _ _ _ h => h) (Or.inl ⟨by rfl, ?_⟩) hHeld ?_
    rotate_left
    · intro W hSw
      go_simp
      first | done | rfl
    simp only [Act.put, List.setIfInBounds_toArray, List.set_cons_zero, List.set_cons_succ]
    refine wpAnyH_take (i := 3) (oi := { dst := some 35, op := _, type := _, pos := _, after := _, guard := _ }) (v := ?_) rfl (by kernel_rfl) (by kernel_rfl) (by kernel_rfl) (fun _ _ _ h => h) (Or.inl ⟨by rfl, ?_⟩) hHeld ?_
    rotate_left
    · intro W hSw
      go_simp
      first | done | rfl
    simp only [Act.put, List.setIfInBounds_toArray, List.set_cons_zero, List.set_cons_succ]
    refine wpAnyH_take (i := 5) (oi := { dst := some 37, op := _, type := _, pos := _, after := _, guard := _ }) (v := ?_) rfl (by kernel_rfl) (by kernel_rfl) (by kernel_rfl) (fun _ _ _ h => h) (Or.inl ⟨by rfl, ?_⟩) hHeld ?_
    rotate_left
    · intro W hSw
      go_simp
      first | done | rfl
    simp only [Act.put, List.setIfInBounds_toArray, List.set_cons_zero, List.set_cons_succ]
    refine wpAnyH_ready (rs := [4]) (by kernel_rfl) (by simp) ?_
    refine AllReadyH.cons (o := { dst := some 36, op := _, type := _, pos := _, after := _, guard := _ }) rfl (fun K hK => ?_) ?_
    rotate_left
    · exact AllReadyH.nil
    go_simp
    refine (HHE.out _).mono ?_
    rintro e wx ⟨rfl, hbx⟩
    refine hK.out _ _ (EU.next hHeld hbx) (fun hHeld2 => ?_)
    clear hK K
    clear hHeld
    have hHeld := hHeld2
    clear hHeld2
    refine wpAnyH_take (i := 6) (oi := { dst := some 38, op := _, type := _, pos := _, after := _, guard := _ }) (v := ?_) rfl (by kernel_rfl) (by kernel_rfl) (by kernel_rfl) (fun _ _ _ h => h) (Or.inl ⟨by rfl, ?_⟩) hHeld ?_
    rotate_left
    · intro W hSw
      go_simp
      first | done | rfl
    simp only [Act.put, List.setIfInBounds_toArray, List.set_cons_zero, List.set_cons_succ]
    refine wpAnyH_take (i := 7) (oi := { dst := some 39, op := _, type := _, pos := _, after := _, guard := _ }) (v := ?_) rfl (by kernel_rfl) (by kernel_rfl) (by kernel_rfl) (fun _ _ _ h => h) (Or.inl ⟨by rfl, ?_⟩) hHeld ?_
    rotate_left
    · intro W hSw
      go_simp
      first | done | rfl
    simp only [Act.put, List.setIfInBounds_toArray, List.set_cons_zero, List.set_cons_succ]
    refine wpAnyH_take (i := 8) (oi := { dst := some 40, op := _, type := _, pos := _, after := _, guard := _ }) (v := ?_) rfl (by kernel_rfl) (by kernel_rfl) (by kernel_rfl) (fun _ _ _ h => h) (Or.inl ⟨by rfl, ?_⟩) hHeld ?_
    rotate_left
    · intro W hSw
      go_simp
      first | done | rfl
    simp only [Act.put, List.setIfInBounds_toArray, List.set_cons_zero, List.set_cons_succ]
    refine wpAnyH_take (i := 9) (oi := { dst := some 41, op := _, type := _, pos := _, after := _, guard := _ }) (v := undef) rfl (by kernel_rfl) (by kernel_rfl) (by kernel_rfl) (fun _ _ _ h => h) (Or.inr ⟨by rfl, rfl⟩) hHeld ?_
    simp only [Act.put, List.setIfInBounds_toArray, List.set_cons_zero, List.set_cons_succ]
    refine wpAnyH_take (i := 10) (oi := { dst := some 42, op := _, type := _, pos := _, after := _, guard := _ }) (v := undef) rfl (by kernel_rfl) (by kernel_rfl) (by kernel_rfl) (fun _ _ _ h => h) (Or.inr ⟨by rfl, rfl⟩) hHeld ?_
    simp only [Act.put, List.setIfInBounds_toArray, List.set_cons_zero, List.set_cons_succ]
    refine wpAnyH_take (i := 11) (oi := { dst := some 43, op := _, type := _, pos := _, after := _, guard := _ }) (v := undef) rfl (by kernel_rfl) (by kernel_rfl) (by kernel_rfl) (fun _ _ _ h => h) (Or.inr ⟨by rfl, rfl⟩) hHeld ?_
    simp only [Act.put, List.setIfInBounds_toArray, List.set_cons_zero, List.set_cons_succ]
    refine wpAnyH_take (i := 12) (oi := { dst := some 44, op := _, type := _, pos := _, after := _, guard := _ }) (v := ?_) rfl (by kernel_rfl) (by kernel_rfl) (by kernel_rfl) (fun _ _ _ h => h) (Or.inl ⟨by rfl, ?_⟩) hHeld ?_
    rotate_left
    · intro W hSw
      go_simp
      first | done | rfl
    simp only [Act.put, List.setIfInBounds_toArray, List.set_cons_zero, List.set_cons_succ]
    refine wpAnyH_done (by kernel_rfl) ?_ _
    refine NoPanic.normal ?_
    all_goals
      have HX := Lib.hid hHeld
      have hne1 : g ≠ w.heap.size := by omega
      have hne2 : w.heap.size ≠ g := by omega
      have hne3 : g + 1 ≠ w.heap.size := by omega
      have hne4 : w.heap.size ≠ g + 1 := by omega
      have hX := HX.out
      obtain ⟨r0, f0⟩ := hX.1.1.2 0 _ rfl
      obtain ⟨r1, f1⟩ := hX.1.1.2 1 _ rfl
      obtain ⟨r2, f2⟩ := hX.1.1.2 2 _ rfl
      obtain ⟨r3, f3⟩ := hX.1.1.2 3 _ rfl
      obtain ⟨r4, f4⟩ := hX.1.1.2 4 _ rfl
      obtain ⟨r5, f5⟩ := hX.1.1.2 5 _ rfl
      obtain ⟨r6, f6⟩ := hX.1.1.2 6 _ rfl
      obtain ⟨r7, f7⟩ := hX.1.1.2 7 _ rfl
      obtain ⟨r8, f8⟩ := hX.1.1.2 8 _ rfl
      clear hX
      clear l0 l1 l2 l3 l4 l5 l6 l7 l8 l9 l10 l11 e0 e1 e2 e3 e4 e5 e6 e7 e8
      go_wp2_with fail
      exact bodyPost_ret (v := .tuple #[.agg #[.int .i64 0, .int .i64 0, .int .i64 0, .int .u64 0, .int .i64 0, .int .i64 0, .int .i64 0, .int .i64 0, .string ⟨#[]⟩], .int .i64 4]) (by simp [results, Try.results26, go_sem, r0, r1, r2, r3, r4, r5, r6, r7, r8]) rfl (UePost.no HY.out (((((((((HX.out.1.2.setCell (p := ⟨w.heap.size, 0, none⟩) (Nat.le_refl _) _).setCell (p := ⟨w.heap.size, 1, none⟩) (Nat.le_refl _) _).setCell (p := ⟨w.heap.size, 2, none⟩) (Nat.le_refl _) _).setCell (p := ⟨w.heap.size, 3, none⟩) (Nat.le_refl _) _).setCell (p := ⟨w.heap.size, 4, none⟩) (Nat.le_refl _) _).setCell (p := ⟨w.heap.size, 5, none⟩) (Nat.le_refl _) _).setCell (p := ⟨w.heap.size, 6, none⟩) (Nat.le_refl _) _).setCell (p := ⟨w.heap.size, 7, none⟩) (Nat.le_refl _) _).setCell (p := ⟨w.heap.size, 8, none⟩) (Nat.le_refl _) _))
  subst mN2
  by_cases mN7 : N7 = 0
  rotate_left
  · have HY : Hid (ueOk s = false) := Lib.hid (by rw [HUE.out]; exact decide_eq_false (fun h => mN7 (by have := h.2.1; omega)))
    have q1 : ((0 : Int) == N7) = false := by simp; omega
    have q2 : (N7 == (0 : Int)) = false := by simp; omega
    have q3 : ¬ (0 : Int) = N7 := by omega
    have q4 : ¬ N7 = (0 : Int) := mN7
    clear mN7
    go_enter Try.func26, Try.ntmps26
    go_wp2_with fail
    refine (HU.out _).mono ?_
    rintro e w1 ⟨rfl, hb1⟩
    have H1 := Lib.hid (H0.out.next hb1)
    clear hb1 H0
    have hlt := H1.out.1.1
    go_wp2_with fail
    have H2 := Lib.hid (EU.new H1.out #[.int .i64 255, .int .i64 0, .int .i64 K2, .int .i64 N0, .int .i64 N1, .int .i64 0, .int .i64 N3, .int .i64 N4, .int .i64 N5, .int .i64 N6, .int .i64 N7, .int .u64 P] #[.int .i64 N0, .int .i64 N1, .int .i64 N6, .int .u64 P, .int .i64 N3, .int .i64 N4, .int .i64 N5, .int .i64 K2, .string B] 34 26)
    generalize ((w1.alloc (.cells #[.int .i64 255, .int .i64 0, .int .i64 K2, .int .i64 N0, .int .i64 N1, .int .i64 0, .int .i64 N3, .int .i64 N4, .int .i64 N5, .int .i64 N6, .int .i64 N7, .int .u64 P] 34)).alloc (.cells #[.int .i64 N0, .int .i64 N1, .int .i64 N6, .int .u64 P, .int .i64 N3, .int .i64 N4, .int .i64 N5, .int .i64 K2, .string B] 26)) = w2 at *
    obtain ⟨g, hg⟩ : ∃ g, g = w1.heap.size := ⟨_, rfl⟩
    rw [← hg] at hlt H2 ⊢
    clear hg H1
    have l0 : ∀ W, EU w g #[.int .i64 255, .int .i64 0, .int .i64 K2, .int .i64 N0, .int .i64 N1, .int .i64 0, .int .i64 N3, .int .i64 N4, .int .i64 N5, .int .i64 N6, .int .i64 N7, .int .u64 P] #[.int .i64 N0, .int .i64 N1, .int .i64 N6, .int .u64 P, .int .i64 N3, .int .i64 N4, .int .i64 N5, .int .i64 K2, .string B] W → W.cell? ⟨g, 0, none⟩ = some (.int .i64 255) := fun W h => h.2.1.2 0 _ rfl
    have l1 : ∀ W, EU w g #[.int .i64 255, .int .i64 0, .int .i64 K2, .int .i64 N0, .int .i64 N1, .int .i64 0, .int .i64 N3, .int .i64 N4, .int .i64 N5, .int .i64 N6, .int .i64 N7, .int .u64 P] #[.int .i64 N0, .int .i64 N1, .int .i64 N6, .int .u64 P, .int .i64 N3, .int .i64 N4, .int .i64 N5, .int .i64 K2, .string B] W → W.cell? ⟨g, 1, none⟩ = some (.int .i64 0) := fun W h => h.2.1.2 1 _ rfl
    have l2 : ∀ W, EU w g #[.int .i64 255, .int .i64 0, .int .i64 K2, .int .i64 N0, .int .i64 N1, .int .i64 0, .int .i64 N3, .int .i64 N4, .int .i64 N5, .int .i64 N6, .int .i64 N7, .int .u64 P] #[.int .i64 N0, .int .i64 N1, .int .i64 N6, .int .u64 P, .int .i64 N3, .int .i64 N4, .int .i64 N5, .int .i64 K2, .string B] W → W.cell? ⟨g, 2, none⟩ = some (.int .i64 K2) := fun W h => h.2.1.2 2 _ rfl
    have l3 : ∀ W, EU w g #[.int .i64 255, .int .i64 0, .int .i64 K2, .int .i64 N0, .int .i64 N1, .int .i64 0, .int .i64 N3, .int .i64 N4, .int .i64 N5, .int .i64 N6, .int .i64 N7, .int .u64 P] #[.int .i64 N0, .int .i64 N1, .int .i64 N6, .int .u64 P, .int .i64 N3, .int .i64 N4, .int .i64 N5, .int .i64 K2, .string B] W → W.cell? ⟨g, 3, none⟩ = some (.int .i64 N0) := fun W h => h.2.1.2 3 _ rfl
    have l4 : ∀ W, EU w g #[.int .i64 255, .int .i64 0, .int .i64 K2, .int .i64 N0, .int .i64 N1, .int .i64 0, .int .i64 N3, .int .i64 N4, .int .i64 N5, .int .i64 N6, .int .i64 N7, .int .u64 P] #[.int .i64 N0, .int .i64 N1, .int .i64 N6, .int .u64 P, .int .i64 N3, .int .i64 N4, .int .i64 N5, .int .i64 K2, .string B] W → W.cell? ⟨g, 4, none⟩ = some (.int .i64 N1) := fun W h => h.2.1.2 4 _ rfl
    have l5 : ∀ W, EU w g #[.int .i64 255, .int .i64 0, .int .i64 K2, .int .i64 N0, .int .i64 N1, .int .i64 0, .int .i64 N3, .int .i64 N4, .int .i64 N5, .int .i64 N6, .int .i64 N7, .int .u64 P] #[.int .i64 N0, .int .i64 N1, .int .i64 N6, .int .u64 P, .int .i64 N3, .int .i64 N4, .int .i64 N5, .int .i64 K2, .string B] W → W.cell? ⟨g, 5, none⟩ = some (.int .i64 0) := fun W h => h.2.1.2 5 _ rfl
    have l6 : ∀ W, EU w g #[.int .i64 255, .int .i64 0, .int .i64 K2, .int .i64 N0, .int .i64 N1, .int .i64 0, .int .i64 N3, .int .i64 N4, .int .i64 N5, .int .i64 N6, .int .i64 N7, .int .u64 P] #[.int .i64 N0, .int .i64 N1, .int .i64 N6, .int .u64 P, .int .i64 N3, .int .i64 N4, .int .i64 N5, .int .i64 K2, .string B] W → W.cell? ⟨g, 6, none⟩ = some (.int .i64 N3) := fun W h => h.2.1.2 6 _ rfl
    have l7 : ∀ W, EU w g #[.int .i64 255, .int .i64 0, .int .i64 K2, .int .i64 N0, .int .i64 N1, .int .i64 0, .int .i64 N3, .int .i64 N4, .int .i64 N5, .int .i64 N6, .int .i64 N7, .int .u64 P] #[.int .i64 N0, .int .i64 N1, .int .i64 N6, .int .u64 P, .int .i64 N3, .int .i64 N4, .int .i64 N5, .int .i64 K2, .string B] W → W.cell? ⟨g, 7, none⟩ = some (.int .i64 N4) := fun W h => h.2.1.2 7 _ rfl
    have l8 : ∀ W, EU w g #[.int .i64 255, .int .i64 0, .int .i64 K2, .int .i64 N0, .int .i64 N1, .int .i64 0, .int .i64 N3, .int .i64 N4, .int .i64 N5, .int .i64 N6, .int .i64 N7, .int .u64 P] #[.int .i64 N0, .int .i64 N1, .int .i64 N6, .int .u64 P, .int .i64 N3, .int .i64 N4, .int .i64 N5, .int .i64 K2, .string B] W → W.cell? ⟨g, 8, none⟩ = some (.int .i64 N5) := fun W h => h.2.1.2 8 _ rfl
    have l9 : ∀ W, EU w g #[.int .i64 255, .int .i64 0, .int .i64 K2, .int .i64 N0, .int .i64 N1, .int .i64 0, .int .i64 N3, .int .i64 N4, .int .i64 N5, .int .i64 N6, .int .i64 N7, .int .u64 P] #[.int .i64 N0, .int .i64 N1, .int .i64 N6, .int .u64 P, .int .i64 N3, .int .i64 N4, .int .i64 N5, .int .i64 K2, .string B] W → W.cell? ⟨g, 9, none⟩ = some (.int .i64 N6) := fun W h => h.2.1.2 9 _ rfl
    have l10 : ∀ W, EU w g #[.int .i64 255, .int .i64 0, .int .i64 K2, .int .i64 N0, .int .i64 N1, .int .i64 0, .int .i64 N3, .int .i64 N4, .int .i64 N5, .int .i64 N6, .int .i64 N7, .int .u64 P] #[.int .i64 N0, .int .i64 N1, .int .i64 N6, .int .u64 P, .int .i64 N3, .int .i64 N4, .int .i64 N5, .int .i64 K2, .string B] W → W.cell? ⟨g, 10, none⟩ = some (.int .i64 N7) := fun W h => h.2.1.2 10 _ rfl
    have l11 : ∀ W, EU w g #[.int .i64 255, .int .i64 0, .int .i64 K2, .int .i64 N0, .int .i64 N1, .int .i64 0, .int .i64 N3, .int .i64 N4, .int .i64 N5, .int .i64 N6, .int .i64 N7, .int .u64 P] #[.int .i64 N0, .int .i64 N1, .int .i64 N6, .int .u64 P, .int .i64 N3, .int .i64 N4, .int .i64 N5, .int .i64 K2, .string B] W → W.cell? ⟨g, 11, none⟩ = some (.int .u64 P) := fun W h => h.2.1.2 11 _ rfl
    have e0 : ∀ W, EU w g #[.int .i64 255, .int .i64 0, .int .i64 K2, .int .i64 N0, .int .i64 N1, .int .i64 0, .int .i64 N3, .int .i64 N4, .int .i64 N5, .int .i64 N6, .int .i64 N7, .int .u64 P] #[.int .i64 N0, .int .i64 N1, .int .i64 N6, .int .u64 P, .int .i64 N3, .int .i64 N4, .int .i64 N5, .int .i64 K2, .string B] W → W.cell? ⟨g + 1, 0, none⟩ = some (.int .i64 N0) := fun W h => h.2.2.2 0 _ rfl
    have e1 : ∀ W, EU w g #[.int .i64 255, .int .i64 0, .int .i64 K2, .int .i64 N0, .int .i64 N1, .int .i64 0, .int .i64 N3, .int .i64 N4, .int .i64 N5, .int .i64 N6, .int .i64 N7, .int .u64 P] #[.int .i64 N0, .int .i64 N1, .int .i64 N6, .int .u64 P, .int .i64 N3, .int .i64 N4, .int .i64 N5, .int .i64 K2, .string B] W → W.cell? ⟨g + 1, 1, none⟩ = some (.int .i64 N1) := fun W h => h.2.2.2 1 _ rfl
    have e2 : ∀ W, EU w g #[.int .i64 255, .int .i64 0, .int .i64 K2, .int .i64 N0, .int .i64 N1, .int .i64 0, .int .i64 N3, .int .i64 N4, .int .i64 N5, .int .i64 N6, .int .i64 N7, .int .u64 P] #[.int .i64 N0, .int .i64 N1, .int .i64 N6, .int .u64 P, .int .i64 N3, .int .i64 N4, .int .i64 N5, .int .i64 K2, .string B] W → W.cell? ⟨g + 1, 2, none⟩ = some (.int .i64 N6) := fun W h => h.2.2.2 2 _ rfl
    have e3 : ∀ W, EU w g #[.int .i64 255, .int .i64 0, .int .i64 K2, .int .i64 N0, .int .i64 N1, .int .i64 0, .int .i64 N3, .int .i64 N4, .int .i64 N5, .int .i64 N6, .int .i64 N7, .int .u64 P] #[.int .i64 N0, .int .i64 N1, .int .i64 N6, .int .u64 P, .int .i64 N3, .int .i64 N4, .int .i64 N5, .int .i64 K2, .string B] W → W.cell? ⟨g + 1, 3, none⟩ = some (.int .u64 P) := fun W h => h.2.2.2 3 _ rfl
    have e4 : ∀ W, EU w g #[.int .i64 255, .int .i64 0, .int .i64 K2, .int .i64 N0, .int .i64 N1, .int .i64 0, .int .i64 N3, .int .i64 N4, .int .i64 N5, .int .i64 N6, .int .i64 N7, .int .u64 P] #[.int .i64 N0, .int .i64 N1, .int .i64 N6, .int .u64 P, .int .i64 N3, .int .i64 N4, .int .i64 N5, .int .i64 K2, .string B] W → W.cell? ⟨g + 1, 4, none⟩ = some (.int .i64 N3) := fun W h => h.2.2.2 4 _ rfl
    have e5 : ∀ W, EU w g #[.int .i64 255, .int .i64 0, .int .i64 K2, .int .i64 N0, .int .i64 N1, .int .i64 0, .int .i64 N3, .int .i64 N4, .int .i64 N5, .int .i64 N6, .int .i64 N7, .int .u64 P] #[.int .i64 N0, .int .i64 N1, .int .i64 N6, .int .u64 P, .int .i64 N3, .int .i64 N4, .int .i64 N5, .int .i64 K2, .string B] W → W.cell? ⟨g + 1, 5, none⟩ = some (.int .i64 N4) := fun W h => h.2.2.2 5 _ rfl
    have e6 : ∀ W, EU w g #[.int .i64 255, .int .i64 0, .int .i64 K2, .int .i64 N0, .int .i64 N1, .int .i64 0, .int .i64 N3, .int .i64 N4, .int .i64 N5, .int .i64 N6, .int .i64 N7, .int .u64 P] #[.int .i64 N0, .int .i64 N1, .int .i64 N6, .int .u64 P, .int .i64 N3, .int .i64 N4, .int .i64 N5, .int .i64 K2, .string B] W → W.cell? ⟨g + 1, 6, none⟩ = some (.int .i64 N5) := fun W h => h.2.2.2 6 _ rfl
    have e7 : ∀ W, EU w g #[.int .i64 255, .int .i64 0, .int .i64 K2, .int .i64 N0, .int .i64 N1, .int .i64 0, .int .i64 N3, .int .i64 N4, .int .i64 N5, .int .i64 N6, .int .i64 N7, .int .u64 P] #[.int .i64 N0, .int .i64 N1, .int .i64 N6, .int .u64 P, .int .i64 N3, .int .i64 N4, .int .i64 N5, .int .i64 K2, .string B] W → W.cell? ⟨g + 1, 7, none⟩ = some (.int .i64 K2) := fun W h => h.2.2.2 7 _ rfl
    have e8 : ∀ W, EU w g #[.int .i64 255, .int .i64 0, .int .i64 K2, .int .i64 N0, .int .i64 N1, .int .i64 0, .int .i64 N3, .int .i64 N4, .int .i64 N5, .int .i64 N6, .int .i64 N7, .int .u64 P] #[.int .i64 N0, .int .i64 N1, .int .i64 N6, .int .u64 P, .int .i64 N3, .int .i64 N4, .int .i64 N5, .int .i64 K2, .string B] W → W.cell? ⟨g + 1, 8, none⟩ = some (.string B) := fun W h => h.2.2.2 8 _ rfl
    refine wp_region_noPanic ?_
    refine wp_region_held_drew (S := (EU w g #[.int .i64 255, .int .i64 0, .int .i64 K2, .int .i64 N0, .int .i64 N1, .int .i64 0, .int .i64 N3, .int .i64 N4, .int .i64 N5, .int .i64 N6, .int .i64 N7, .int .u64 P] #[.int .i64 N0, .int .i64 N1, .int .i64 N6, .int .u64 P, .int .i64 N3, .int .i64 N4, .int .i64 N5, .int .i64 K2, .string B])) (by kernel_rfl) H2.out.drew (fun hHeld => ?_)
    refine wpAnyH_take (i := 0) (oi := { dst := some 32, op := _, type := _, pos := _, after := _, guard := _ }) (v := ?_) rfl (by kernel_rfl) (by kernel_rfl) (by kernel_rfl) (fun _ _ _ h => h) (Or.inl ⟨by rfl, ?_⟩) hHeld ?_
    rotate_left
    · intro W hSw
      go_simp
      first | done | rfl
    simp only [Act.put, List.setIfInBounds_toArray, List.set_cons_zero, List.set_cons_succ]
    refine wpAnyH_take (i := 1) (oi := { dst := some 33, op := _, type := _, pos := _, after := _, guard := _ }) (v := ?_) rfl (by kernel_rfl) (by kernel_rfl) (by kernel_rfl) (fun _ _ _ h => h) (Or.inl ⟨by rfl, ?_⟩) hHeld ?_
    rotate_left
    · intro W hSw
      go_simp
      first | done | rfl
    simp only [Act.put, List.setIfInBounds_toArray, List.set_cons_zero, List.set_cons_succ]
    refine wpAnyH_take (i := 2) (oi := { dst := some 34, op := _, type := _, pos := _, after := _, guard := _ }) (v := ?_) rfl (by kernel_rfl) (by kernel_rfl) (by kernel_rfl) (fun _ _ _ h => h) (Or.inl ⟨by rfl, ?_⟩) hHeld ?_
    rotate_left
    · intro W hSw
      go_simp
      first | done | rfl
    simp only [Act.put, List.setIfInBounds_toArray, List.set_cons_zero, List.set_cons_succ]
    refine wpAnyH_take (i := 3) (oi := { dst := some 35, op := _, type := _, pos := _, after := _, guard := _ }) (v := ?_) rfl (by kernel_rfl) (by kernel_rfl) (by kernel_rfl) (fun _ _ _ h => h) (Or.inl ⟨by rfl, ?_⟩) hHeld ?_
    rotate_left
    · intro W hSw
      go_simp
      first | done | rfl
    simp only [Act.put, List.setIfInBounds_toArray, List.set_cons_zero, List.set_cons_succ]
    refine wpAnyH_take (i := 5) (oi := { dst := some 37, op := _, type := _, pos := _, after := _, guard := _ }) (v := ?_) rfl (by kernel_rfl) (by kernel_rfl) (by kernel_rfl) (fun _ _ _ h => h) (Or.inl ⟨by rfl, ?_⟩) hHeld ?_
    rotate_left
    · intro W hSw
      go_simp
      first | done | rfl
    simp only [Act.put, List.setIfInBounds_toArray, List.set_cons_zero, List.set_cons_succ]
    refine wpAnyH_ready (rs := [4]) (by kernel_rfl) (by simp) ?_
    refine AllReadyH.cons (o := { dst := some 36, op := _, type := _, pos := _, after := _, guard := _ }) rfl (fun K hK => ?_) ?_
    rotate_left
    · exact AllReadyH.nil
    go_simp
    refine (HHE.out _).mono ?_
    rintro e wx ⟨rfl, hbx⟩
    refine hK.out _ _ (EU.next hHeld hbx) (fun hHeld2 => ?_)
    clear hK K
    clear hHeld
    have hHeld := hHeld2
    clear hHeld2
    refine wpAnyH_take (i := 6) (oi := { dst := some 38, op := _, type := _, pos := _, after := _, guard := _ }) (v := ?_) rfl (by kernel_rfl) (by kernel_rfl) (by kernel_rfl) (fun _ _ _ h => h) (Or.inl ⟨by rfl, ?_⟩) hHeld ?_
    rotate_left
    · intro W hSw
      go_simp
      first | done | rfl
    simp only [Act.put, List.setIfInBounds_toArray, List.set_cons_zero, List.set_cons_succ]
    refine wpAnyH_take (i := 7) (oi := { dst := some 39, op := _, type := _, pos := _, after := _, guard := _ }) (v := ?_) rfl (by kernel_rfl) (by kernel_rfl) (by kernel_rfl) (fun _ _ _ h => h) (Or.inl ⟨by rfl, ?_⟩) hHeld ?_
    rotate_left
    · intro W hSw
      go_simp
      first | done | rfl
    simp only [Act.put, List.setIfInBounds_toArray, List.set_cons_zero, List.set_cons_succ]
    refine wpAnyH_take (i := 8) (oi := { dst := some 40, op := _, type := _, pos := _, after := _, guard := _ }) (v := ?_) rfl (by kernel_rfl) (by kernel_rfl) (by kernel_rfl) (fun _ _ _ h => h) (Or.inl ⟨by rfl, ?_⟩) hHeld ?_
    rotate_left
    · intro W hSw
      go_simp
      first | done | rfl
    simp only [Act.put, List.setIfInBounds_toArray, List.set_cons_zero, List.set_cons_succ]
    refine wpAnyH_take (i := 9) (oi := { dst := some 41, op := _, type := _, pos := _, after := _, guard := _ }) (v := undef) rfl (by kernel_rfl) (by kernel_rfl) (by kernel_rfl) (fun _ _ _ h => h) (Or.inr ⟨by rfl, rfl⟩) hHeld ?_
    simp only [Act.put, List.setIfInBounds_toArray, List.set_cons_zero, List.set_cons_succ]
    refine wpAnyH_take (i := 10) (oi := { dst := some 42, op := _, type := _, pos := _, after := _, guard := _ }) (v := undef) rfl (by kernel_rfl) (by kernel_rfl) (by kernel_rfl) (fun _ _ _ h => h) (Or.inr ⟨by rfl, rfl⟩) hHeld ?_
    simp only [Act.put, List.setIfInBounds_toArray, List.set_cons_zero, List.set_cons_succ]
    refine wpAnyH_take (i := 11) (oi := { dst := some 43, op := _, type := _, pos := _, after := _, guard := _ }) (v := undef) rfl (by kernel_rfl) (by kernel_rfl) (by kernel_rfl) (fun _ _ _ h => h) (Or.inr ⟨by rfl, rfl⟩) hHeld ?_
    simp only [Act.put, List.setIfInBounds_toArray, List.set_cons_zero, List.set_cons_succ]
    refine wpAnyH_take (i := 12) (oi := { dst := some 44, op := _, type := _, pos := _, after := _, guard := _ }) (v := ?_) rfl (by kernel_rfl) (by kernel_rfl) (by kernel_rfl) (fun _ _ _ h => h) (Or.inl ⟨by rfl, ?_⟩) hHeld ?_
    rotate_left
    · intro W hSw
      go_simp
      first | done | rfl
    simp only [Act.put, List.setIfInBounds_toArray, List.set_cons_zero, List.set_cons_succ]
    refine wpAnyH_done (by kernel_rfl) ?_ _
    refine NoPanic.normal ?_
    all_goals
      have HX := Lib.hid hHeld
      have hne1 : g ≠ w.heap.size := by omega
      have hne2 : w.heap.size ≠ g := by omega
      have hne3 : g + 1 ≠ w.heap.size := by omega
      have hne4 : w.heap.size ≠ g + 1 := by omega
      have hX := HX.out
      obtain ⟨r0, f0⟩ := hX.1.1.2 0 _ rfl
      obtain ⟨r1, f1⟩ := hX.1.1.2 1 _ rfl
      obtain ⟨r2, f2⟩ := hX.1.1.2 2 _ rfl
      obtain ⟨r3, f3⟩ := hX.1.1.2 3 _ rfl
      obtain ⟨r4, f4⟩ := hX.1.1.2 4 _ rfl
      obtain ⟨r5, f5⟩ := hX.1.1.2 5 _ rfl
      obtain ⟨r6, f6⟩ := hX.1.1.2 6 _ rfl
      obtain ⟨r7, f7⟩ := hX.1.1.2 7 _ rfl
      obtain ⟨r8, f8⟩ := hX.1.1.2 8 _ rfl
      clear hX
      clear l0 l1 l2 l3 l4 l5 l6 l7 l8 l9 l10 l11 e0 e1 e2 e3 e4 e5 e6 e7 e8
      go_wp2_with fail
      exact bodyPost_ret (v := .tuple #[.agg #[.int .i64 0, .int .i64 0, .int .i64 0, .int .u64 0, .int .i64 0, .int .i64 0, .int .i64 0, .int .i64 0, .string ⟨#[]⟩], .int .i64 4]) (by simp [results, Try.results26, go_sem, r0, r1, r2, r3, r4, r5, r6, r7, r8]) rfl (UePost.no HY.out (((((((((HX.out.1.2.setCell (p := ⟨w.heap.size, 0, none⟩) (Nat.le_refl _) _).setCell (p := ⟨w.heap.size, 1, none⟩) (Nat.le_refl _) _).setCell (p := ⟨w.heap.size, 2, none⟩) (Nat.le_refl _) _).setCell (p := ⟨w.heap.size, 3, none⟩) (Nat.le_refl _) _).setCell (p := ⟨w.heap.size, 4, none⟩) (Nat.le_refl _) _).setCell (p := ⟨w.heap.size, 5, none⟩) (Nat.le_refl _) _).setCell (p := ⟨w.heap.size, 6, none⟩) (Nat.le_refl _) _).setCell (p := ⟨w.heap.size, 7, none⟩) (Nat.le_refl _) _).setCell (p := ⟨w.heap.size, 8, none⟩) (Nat.le_refl _) _))
  subst mN7
  cases hx : entB N0 N1 N6 N3 N4 N5 K2 B
  · have HY : Hid (ueOk s = false) := Lib.hid (by rw [HUE.out]; exact decide_eq_false (fun h => by rw [hx] at h; exact absurd h.2.2 (by simp)))
    rw [hx] at HRI
    clear hx
    go_enter Try.func26, Try.ntmps26
    go_wp2_with fail
    refine (HU.out _).mono ?_
    rintro e w1 ⟨rfl, hb1⟩
    have H1 := Lib.hid (H0.out.next hb1)
    clear hb1 H0
    have hlt := H1.out.1.1
    go_wp2_with fail
    have H2 := Lib.hid (EU.new H1.out #[.int .i64 255, .int .i64 0, .int .i64 K2, .int .i64 N0, .int .i64 N1, .int .i64 0, .int .i64 N3, .int .i64 N4, .int .i64 N5, .int .i64 N6, .int .i64 0, .int .u64 P] #[.int .i64 N0, .int .i64 N1, .int .i64 N6, .int .u64 P, .int .i64 N3, .int .i64 N4, .int .i64 N5, .int .i64 K2, .string B] 34 26)
    generalize ((w1.alloc (.cells #[.int .i64 255, .int .i64 0, .int .i64 K2, .int .i64 N0, .int .i64 N1, .int .i64 0, .int .i64 N3, .int .i64 N4, .int .i64 N5, .int .i64 N6, .int .i64 0, .int .u64 P] 34)).alloc (.cells #[.int .i64 N0, .int .i64 N1, .int .i64 N6, .int .u64 P, .int .i64 N3, .int .i64 N4, .int .i64 N5, .int .i64 K2, .string B] 26)) = w2 at *
    obtain ⟨g, hg⟩ : ∃ g, g = w1.heap.size := ⟨_, rfl⟩
    rw [← hg] at hlt H2 ⊢
    clear hg H1
    have l0 : ∀ W, EU w g #[.int .i64 255, .int .i64 0, .int .i64 K2, .int .i64 N0, .int .i64 N1, .int .i64 0, .int .i64 N3, .int .i64 N4, .int .i64 N5, .int .i64 N6, .int .i64 0, .int .u64 P] #[.int .i64 N0, .int .i64 N1, .int .i64 N6, .int .u64 P, .int .i64 N3, .int .i64 N4, .int .i64 N5, .int .i64 K2, .string B] W → W.cell? ⟨g, 0, none⟩ = some (.int .i64 255) := fun W h => h.2.1.2 0 _ rfl
    have l1 : ∀ W, EU w g #[.int .i64 255, .int .i64 0, .int .i64 K2, .int .i64 N0, .int .i64 N1, .int .i64 0, .int .i64 N3, .int .i64 N4, .int .i64 N5, .int .i64 N6, .int .i64 0, .int .u64 P] #[.int .i64 N0, .int .i64 N1, .int .i64 N6, .int .u64 P, .int .i64 N3, .int .i64 N4, .int .i64 N5, .int .i64 K2, .string B] W → W.cell? ⟨g, 1, none⟩ = some (.int .i64 0) := fun W h => h.2.1.2 1 _ rfl
    have l2 : ∀ W, EU w g #[.int .i64 255, .int .i64 0, .int .i64 K2, .int .i64 N0, .int .i64 N1, .int .i64 0, .int .i64 N3, .int .i64 N4, .int .i64 N5, .int .i64 N6, .int .i64 0, .int .u64 P] #[.int .i64 N0, .int .i64 N1, .int .i64 N6, .int .u64 P, .int .i64 N3, .int .i64 N4, .int .i64 N5, .int .i64 K2, .string B] W → W.cell? ⟨g, 2, none⟩ = some (.int .i64 K2) := fun W h => h.2.1.2 2 _ rfl
    have l3 : ∀ W, EU w g #[.int .i64 255, .int .i64 0, .int .i64 K2, .int .i64 N0, .int .i64 N1, .int .i64 0, .int .i64 N3, .int .i64 N4, .int .i64 N5, .int .i64 N6, .int .i64 0, .int .u64 P] #[.int .i64 N0, .int .i64 N1, .int .i64 N6, .int .u64 P, .int .i64 N3, .int .i64 N4, .int .i64 N5, .int .i64 K2, .string B] W → W.cell? ⟨g, 3, none⟩ = some (.int .i64 N0) := fun W h => h.2.1.2 3 _ rfl
    have l4 : ∀ W, EU w g #[.int .i64 255, .int .i64 0, .int .i64 K2, .int .i64 N0, .int .i64 N1, .int .i64 0, .int .i64 N3, .int .i64 N4, .int .i64 N5, .int .i64 N6, .int .i64 0, .int .u64 P] #[.int .i64 N0, .int .i64 N1, .int .i64 N6, .int .u64 P, .int .i64 N3, .int .i64 N4, .int .i64 N5, .int .i64 K2, .string B] W → W.cell? ⟨g, 4, none⟩ = some (.int .i64 N1) := fun W h => h.2.1.2 4 _ rfl
    have l5 : ∀ W, EU w g #[.int .i64 255, .int .i64 0, .int .i64 K2, .int .i64 N0, .int .i64 N1, .int .i64 0, .int .i64 N3, .int .i64 N4, .int .i64 N5, .int .i64 N6, .int .i64 0, .int .u64 P] #[.int .i64 N0, .int .i64 N1, .int .i64 N6, .int .u64 P, .int .i64 N3, .int .i64 N4, .int .i64 N5, .int .i64 K2, .string B] W → W.cell? ⟨g, 5, none⟩ = some (.int .i64 0) := fun W h => h.2.1.2 5 _ rfl
    have l6 : ∀ W, EU w g #[.int .i64 255, .int .i64 0, .int .i64 K2, .int .i64 N0, .int .i64 N1, .int .i64 0, .int .i64 N3, .int .i64 N4, .int .i64 N5, .int .i64 N6, .int .i64 0, .int .u64 P] #[.int .i64 N0, .int .i64 N1, .int .i64 N6, .int .u64 P, .int .i64 N3, .int .i64 N4, .int .i64 N5, .int .i64 K2, .string B] W → W.cell? ⟨g, 6, none⟩ = some (.int .i64 N3) := fun W h => h.2.1.2 6 _ rfl
    have l7 : ∀ W, EU w g #[.int .i64 255, .int .i64 0, .int .i64 K2, .int .i64 N0, .int .i64 N1, .int .i64 0, .int .i64 N3, .int .i64 N4, .int .i64 N5, .int .i64 N6, .int .i64 0, .int .u64 P] #[.int .i64 N0, .int .i64 N1, .int .i64 N6, .int .u64 P, .int .i64 N3, .int .i64 N4, .int .i64 N5, .int .i64 K2, .string B] W → W.cell? ⟨g, 7, none⟩ = some (.int .i64 N4) := fun W h => h.2.1.2 7 _ rfl
    have l8 : ∀ W, EU w g #[.int .i64 255, .int .i64 0, .int .i64 K2, .int .i64 N0, .int .i64 N1, .int .i64 0, .int .i64 N3, .int .i64 N4, .int .i64 N5, .int .i64 N6, .int .i64 0, .int .u64 P] #[.int .i64 N0, .int .i64 N1, .int .i64 N6, .int .u64 P, .int .i64 N3, .int .i64 N4, .int .i64 N5, .int .i64 K2, .string B] W → W.cell? ⟨g, 8, none⟩ = some (.int .i64 N5) := fun W h => h.2.1.2 8 _ rfl
    have l9 : ∀ W, EU w g #[.int .i64 255, .int .i64 0, .int .i64 K2, .int .i64 N0, .int .i64 N1, .int .i64 0, .int .i64 N3, .int .i64 N4, .int .i64 N5, .int .i64 N6, .int .i64 0, .int .u64 P] #[.int .i64 N0, .int .i64 N1, .int .i64 N6, .int .u64 P, .int .i64 N3, .int .i64 N4, .int .i64 N5, .int .i64 K2, .string B] W → W.cell? ⟨g, 9, none⟩ = some (.int .i64 N6) := fun W h => h.2.1.2 9 _ rfl
    have l10 : ∀ W, EU w g #[.int .i64 255, .int .i64 0, .int .i64 K2, .int .i64 N0, .int .i64 N1, .int .i64 0, .int .i64 N3, .int .i64 N4, .int .i64 N5, .int .i64 N6, .int .i64 0, .int .u64 P] #[.int .i64 N0, .int .i64 N1, .int .i64 N6, .int .u64 P, .int .i64 N3, .int .i64 N4, .int .i64 N5, .int .i64 K2, .string B] W → W.cell? ⟨g, 10, none⟩ = some (.int .i64 0) := fun W h => h.2.1.2 10 _ rfl
    have l11 : ∀ W, EU w g #[.int .i64 255, .int .i64 0, .int .i64 K2, .int .i64 N0, .int .i64 N1, .int .i64 0, .int .i64 N3, .int .i64 N4, .int .i64 N5, .int .i64 N6, .int .i64 0, .int .u64 P] #[.int .i64 N0, .int .i64 N1, .int .i64 N6, .int .u64 P, .int .i64 N3, .int .i64 N4, .int .i64 N5, .int .i64 K2, .string B] W → W.cell? ⟨g, 11, none⟩ = some (.int .u64 P) := fun W h => h.2.1.2 11 _ rfl
    have e0 : ∀ W, EU w g #[.int .i64 255, .int .i64 0, .int .i64 K2, .int .i64 N0, .int .i64 N1, .int .i64 0, .int .i64 N3, .int .i64 N4, .int .i64 N5, .int .i64 N6, .int .i64 0, .int .u64 P] #[.int .i64 N0, .int .i64 N1, .int .i64 N6, .int .u64 P, .int .i64 N3, .int .i64 N4, .int .i64 N5, .int .i64 K2, .string B] W → W.cell? ⟨g + 1, 0, none⟩ = some (.int .i64 N0) := fun W h => h.2.2.2 0 _ rfl
    have e1 : ∀ W, EU w g #[.int .i64 255, .int .i64 0, .int .i64 K2, .int .i64 N0, .int .i64 N1, .int .i64 0, .int .i64 N3, .int .i64 N4, .int .i64 N5, .int .i64 N6, .int .i64 0, .int .u64 P] #[.int .i64 N0, .int .i64 N1, .int .i64 N6, .int .u64 P, .int .i64 N3, .int .i64 N4, .int .i64 N5, .int .i64 K2, .string B] W → W.cell? ⟨g + 1, 1, none⟩ = some (.int .i64 N1) := fun W h => h.2.2.2 1 _ rfl
    have e2 : ∀ W, EU w g #[.int .i64 255, .int .i64 0, .int .i64 K2, .int .i64 N0, .int .i64 N1, .int .i64 0, .int .i64 N3, .int .i64 N4, .int .i64 N5, .int .i64 N6, .int .i64 0, .int .u64 P] #[.int .i64 N0, .int .i64 N1, .int .i64 N6, .int .u64 P, .int .i64 N3, .int .i64 N4, .int .i64 N5, .int .i64 K2, .string B] W → W.cell? ⟨g + 1, 2, none⟩ = some (.int .i64 N6) := fun W h => h.2.2.2 2 _ rfl
    have e3 : ∀ W, EU w g #[.int .i64 255, .int .i64 0, .int .i64 K2, .int .i64 N0, .int .i64 N1, .int .i64 0, .int .i64 N3, .int .i64 N4, .int .i64 N5, .int .i64 N6, .int .i64 0, .int .u64 P] #[.int .i64 N0, .int .i64 N1, .int .i64 N6, .int .u64 P, .int .i64 N3, .int .i64 N4, .int .i64 N5, .int .i64 K2, .string B] W → W.cell? ⟨g + 1, 3, none⟩ = some (.int .u64 P) := fun W h => h.2.2.2 3 _ rfl
    have e4 : ∀ W, EU w g #[.int .i64 255, .int .i64 0, .int .i64 K2, .int .i64 N0, .int .i64 N1, .int .i64 0, .int .i64 N3, .int .i64 N4, .int .i64 N5, .int .i64 N6, .int .i64 0, .int .u64 P] #[.int .i64 N0, .int .i64 N1, .int .i64 N6, .int .u64 P, .int .i64 N3, .int .i64 N4, .int .i64 N5, .int .i64 K2, .string B] W → W.cell? ⟨g + 1, 4, none⟩ = some (.int .i64 N3) := fun W h => h.2.2.2 4 _ rfl
    have e5 : ∀ W, EU w g #[.int .i64 255, .int .i64 0, .int .i64 K2, .int .i64 N0, .int .i64 N1, .int .i64 0, .int .i64 N3, .int .i64 N4, .int .i64 N5, .int .i64 N6, .int .i64 0, .int .u64 P] #[.int .i64 N0, .int .i64 N1, .int .i64 N6, .int .u64 P, .int .i64 N3, .int .i64 N4, .int .i64 N5, .int .i64 K2, .string B] W → W.cell? ⟨g + 1, 5, none⟩ = some (.int .i64 N4) := fun W h => h.2.2.2 5 _ rfl
    have e6 : ∀ W, EU w g #[.int .i64 255, .int .i64 0, .int .i64 K2, .int .i64 N0, .int .i64 N1, .int .i64 0, .int .i64 N3, .int .i64 N4, .int .i64 N5, .int .i64 N6, .int .i64 0, .int .u64 P] #[.int .i64 N0, .int .i64 N1, .int .i64 N6, .int .u64 P, .int .i64 N3, .int .i64 N4, .int .i64 N5, .int .i64 K2, .string B] W → W.cell? ⟨g + 1, 6, none⟩ = some (.int .i64 N5) := fun W h => h.2.2.2 6 _ rfl
    have e7 : ∀ W, EU w g #[.int .i64 255, .int .i64 0, .int .i64 K2, .int .i64 N0, .int .i64 N1, .int .i64 0, .int .i64 N3, .int .i64 N4, .int .i64 N5, .int .i64 N6, .int .i64 0, .int .u64 P] #[.int .i64 N0, .int .i64 N1, .int .i64 N6, .int .u64 P, .int .i64 N3, .int .i64 N4, .int .i64 N5, .int .i64 K2, .string B] W → W.cell? ⟨g + 1, 7, none⟩ = some (.int .i64 K2) := fun W h => h.2.2.2 7 _ rfl
    have e8 : ∀ W, EU w g #[.int .i64 255, .int .i64 0, .int .i64 K2, .int .i64 N0, .int .i64 N1, .int .i64 0, .int .i64 N3, .int .i64 N4, .int .i64 N5, .int .i64 N6, .int .i64 0, .int .u64 P] #[.int .i64 N0, .int .i64 N1, .int .i64 N6, .int .u64 P, .int .i64 N3, .int .i64 N4, .int .i64 N5, .int .i64 K2, .string B] W → W.cell? ⟨g + 1, 8, none⟩ = some (.string B) := fun W h => h.2.2.2 8 _ rfl
    refine wp_region_noPanic ?_
    refine wp_region_held_drew (S := (EU w g #[.int .i64 255, .int .i64 0, .int .i64 K2, .int .i64 N0, .int .i64 N1, .int .i64 0, .int .i64 N3, .int .i64 N4, .int .i64 N5, .int .i64 N6, .int .i64 0, .int .u64 P] #[.int .i64 N0, .int .i64 N1, .int .i64 N6, .int .u64 P, .int .i64 N3, .int .i64 N4, .int .i64 N5, .int .i64 K2, .string B])) (by kernel_rfl) H2.out.drew (fun hHeld => ?_)
    refine wpAnyH_take (i := 0) (oi := { dst := some 32, op := _, type := _, pos := _, after := _, guard := _ }) (v := ?_) rfl (by kernel_rfl) (by kernel_rfl) (by kernel_rfl) (fun _ _ _ h => h) (Or.inl ⟨by rfl, ?_⟩) hHeld ?_
    rotate_left
    · intro W hSw
      go_simp
      first | done | rfl
    simp only [Act.put, List.setIfInBounds_toArray, List.set_cons_zero, List.set_cons_succ]
    refine wpAnyH_take (i := 1) (oi := { dst := some 33, op := _, type := _, pos := _, after := _, guard := _ }) (v := ?_) rfl (by kernel_rfl) (by kernel_rfl) (by kernel_rfl) (fun _ _ _ h => h) (Or.inl ⟨by rfl, ?_⟩) hHeld ?_
    rotate_left
    · intro W hSw
      go_simp
      first | done | rfl
    simp only [Act.put, List.setIfInBounds_toArray, List.set_cons_zero, List.set_cons_succ]
    refine wpAnyH_take (i := 2) (oi := { dst := some 34, op := _, type := _, pos := _, after := _, guard := _ }) (v := ?_) rfl (by kernel_rfl) (by kernel_rfl) (by kernel_rfl) (fun _ _ _ h => h) (Or.inl ⟨by rfl, ?_⟩) hHeld ?_
    rotate_left
    · intro W hSw
      go_simp
      first | done | rfl
    simp only [Act.put, List.setIfInBounds_toArray, List.set_cons_zero, List.set_cons_succ]
    refine wpAnyH_take (i := 3) (oi := { dst := some 35, op := _, type := _, pos := _, after := _, guard := _ }) (v := ?_) rfl (by kernel_rfl) (by kernel_rfl) (by kernel_rfl) (fun _ _ _ h => h) (Or.inl ⟨by rfl, ?_⟩) hHeld ?_
    rotate_left
    · intro W hSw
      go_simp
      first | done | rfl
    simp only [Act.put, List.setIfInBounds_toArray, List.set_cons_zero, List.set_cons_succ]
    refine wpAnyH_take (i := 5) (oi := { dst := some 37, op := _, type := _, pos := _, after := _, guard := _ }) (v := ?_) rfl (by kernel_rfl) (by kernel_rfl) (by kernel_rfl) (fun _ _ _ h => h) (Or.inl ⟨by rfl, ?_⟩) hHeld ?_
    rotate_left
    · intro W hSw
      go_simp
      first | done | rfl
    simp only [Act.put, List.setIfInBounds_toArray, List.set_cons_zero, List.set_cons_succ]
    refine wpAnyH_ready (rs := [4]) (by kernel_rfl) (by simp) ?_
    refine AllReadyH.cons (o := { dst := some 36, op := _, type := _, pos := _, after := _, guard := _ }) rfl (fun K hK => ?_) ?_
    rotate_left
    · exact AllReadyH.nil
    go_simp
    refine (HHE.out _).mono ?_
    rintro e wx ⟨rfl, hbx⟩
    refine hK.out _ _ (EU.next hHeld hbx) (fun hHeld2 => ?_)
    clear hK K
    clear hHeld
    have hHeld := hHeld2
    clear hHeld2
    refine wpAnyH_take (i := 6) (oi := { dst := some 38, op := _, type := _, pos := _, after := _, guard := _ }) (v := ?_) rfl (by kernel_rfl) (by kernel_rfl) (by kernel_rfl) (fun _ _ _ h => h) (Or.inl ⟨by rfl, ?_⟩) hHeld ?_
    rotate_left
    · intro W hSw
      go_simp
      first | done | rfl
    simp only [Act.put, List.setIfInBounds_toArray, List.set_cons_zero, List.set_cons_succ]
    refine wpAnyH_take (i := 7) (oi := { dst := some 39, op := _, type := _, pos := _, after := _, guard := _ }) (v := ?_) rfl (by kernel_rfl) (by kernel_rfl) (by kernel_rfl) (fun _ _ _ h => h) (Or.inl ⟨by rfl, ?_⟩) hHeld ?_
    rotate_left
    · intro W hSw
      go_simp
      first | done | rfl
    simp only [Act.put, List.setIfInBounds_toArray, List.set_cons_zero, List.set_cons_succ]
    refine wpAnyH_take (i := 8) (oi := { dst := some 40, op := _, type := _, pos := _, after := _, guard := _ }) (v := ?_) rfl (by kernel_rfl) (by kernel_rfl) (by kernel_rfl) (fun _ _ _ h => h) (Or.inl ⟨by rfl, ?_⟩) hHeld ?_
    rotate_left
    · intro W hSw
      go_simp
      first | done | rfl
    simp only [Act.put, List.setIfInBounds_toArray, List.set_cons_zero, List.set_cons_succ]
    refine wpAnyH_take (i := 9) (oi := { dst := some 41, op := _, type := _, pos := _, after := _, guard := _ }) (v := ?_) rfl (by kernel_rfl) (by kernel_rfl) (by kernel_rfl) (fun _ _ _ h => h) (Or.inl ⟨by rfl, ?_⟩) hHeld ?_
    rotate_left
    · intro W hSw
      go_simp
      first | done | rfl
    simp only [Act.put, List.setIfInBounds_toArray, List.set_cons_zero, List.set_cons_succ]
    refine wpAnyH_ready (rs := [10]) (by kernel_rfl) (by simp) ?_
    refine AllReadyH.cons (o := { dst := some 42, op := _, type := _, pos := _, after := _, guard := _ }) rfl (fun K hK => ?_) ?_
    rotate_left
    · exact AllReadyH.nil
    go_simp
    refine (HRI.out _).mono ?_
    rintro e wx ⟨rfl, hbx⟩
    refine hK.out _ _ (EU.next hHeld hbx) (fun hHeld2 => ?_)
    clear hK K
    clear hHeld
    have hHeld := hHeld2
    clear hHeld2
    refine wpAnyH_take (i := 11) (oi := { dst := some 43, op := _, type := _, pos := _, after := _, guard := _ }) (v := ?_) rfl (by kernel_rfl) (by kernel_rfl) (by kernel_rfl) (fun _ _ _ h => h) (Or.inl ⟨by rfl, ?_⟩) hHeld ?_
    rotate_left
    · intro W hSw
      go_simp
      first | done | rfl
    simp only [Act.put, List.setIfInBounds_toArray, List.set_cons_zero, List.set_cons_succ]
    refine wpAnyH_take (i := 12) (oi := { dst := some 44, op := _, type := _, pos := _, after := _, guard := _ }) (v := ?_) rfl (by kernel_rfl) (by kernel_rfl) (by kernel_rfl) (fun _ _ _ h => h) (Or.inl ⟨by rfl, ?_⟩) hHeld ?_
    rotate_left
    · intro W hSw
      go_simp
      first | done | rfl
    simp only [Act.put, List.setIfInBounds_toArray, List.set_cons_zero, List.set_cons_succ]
    refine wpAnyH_done (by kernel_rfl) ?_ _
    refine NoPanic.normal ?_
    all_goals
      have HX := Lib.hid hHeld
      have hne1 : g ≠ w.heap.size := by omega
      have hne2 : w.heap.size ≠ g := by omega
      have hne3 : g + 1 ≠ w.heap.size := by omega
      have hne4 : w.heap.size ≠ g + 1 := by omega
      have hX := HX.out
      obtain ⟨r0, f0⟩ := hX.1.1.2 0 _ rfl
      obtain ⟨r1, f1⟩ := hX.1.1.2 1 _ rfl
      obtain ⟨r2, f2⟩ := hX.1.1.2 2 _ rfl
      obtain ⟨r3, f3⟩ := hX.1.1.2 3 _ rfl
      obtain ⟨r4, f4⟩ := hX.1.1.2 4 _ rfl
      obtain ⟨r5, f5⟩ := hX.1.1.2 5 _ rfl
      obtain ⟨r6, f6⟩ := hX.1.1.2 6 _ rfl
      obtain ⟨r7, f7⟩ := hX.1.1.2 7 _ rfl
      obtain ⟨r8, f8⟩ := hX.1.1.2 8 _ rfl
      clear hX
      clear l0 l1 l2 l3 l4 l5 l6 l7 l8 l9 l10 l11 e0 e1 e2 e3 e4 e5 e6 e7 e8
      go_wp2_with fail
      exact bodyPost_ret (v := .tuple #[.agg #[.int .i64 0, .int .i64 0, .int .i64 0, .int .u64 0, .int .i64 0, .int .i64 0, .int .i64 0, .int .i64 0, .string ⟨#[]⟩], .int .i64 4]) (by simp [results, Try.results26, go_sem, r0, r1, r2, r3, r4, r5, r6, r7, r8]) rfl (UePost.no HY.out (((((((((HX.out.1.2.setCell (p := ⟨w.heap.size, 0, none⟩) (Nat.le_refl _) _).setCell (p := ⟨w.heap.size, 1, none⟩) (Nat.le_refl _) _).setCell (p := ⟨w.heap.size, 2, none⟩) (Nat.le_refl _) _).setCell (p := ⟨w.heap.size, 3, none⟩) (Nat.le_refl _) _).setCell (p := ⟨w.heap.size, 4, none⟩) (Nat.le_refl _) _).setCell (p := ⟨w.heap.size, 5, none⟩) (Nat.le_refl _) _).setCell (p := ⟨w.heap.size, 6, none⟩) (Nat.le_refl _) _).setCell (p := ⟨w.heap.size, 7, none⟩) (Nat.le_refl _) _).setCell (p := ⟨w.heap.size, 8, none⟩) (Nat.le_refl _) _))
  · have HY : Hid (ueOk s = true) := Lib.hid (by rw [HUE.out]; exact decide_eq_true ⟨HOK.out, ⟨rfl, rfl, rfl, rfl⟩, hx⟩)
    rw [hx] at HRI
    clear hx
    go_enter Try.func26, Try.ntmps26
    go_wp2_with fail
    refine (HU.out _).mono ?_
    rintro e w1 ⟨rfl, hb1⟩
    have H1 := Lib.hid (H0.out.next hb1)
    clear hb1 H0
    have hlt := H1.out.1.1
    go_wp2_with fail
    have H2 := Lib.hid (EU.new H1.out #[.int .i64 255, .int .i64 0, .int .i64 K2, .int .i64 N0, .int .i64 N1, .int .i64 0, .int .i64 N3, .int .i64 N4, .int .i64 N5, .int .i64 N6, .int .i64 0, .int .u64 P] #[.int .i64 N0, .int .i64 N1, .int .i64 N6, .int .u64 P, .int .i64 N3, .int .i64 N4, .int .i64 N5, .int .i64 K2, .string B] 34 26)
    generalize ((w1.alloc (.cells #[.int .i64 255, .int .i64 0, .int .i64 K2, .int .i64 N0, .int .i64 N1, .int .i64 0, .int .i64 N3, .int .i64 N4, .int .i64 N5, .int .i64 N6, .int .i64 0, .int .u64 P] 34)).alloc (.cells #[.int .i64 N0, .int .i64 N1, .int .i64 N6, .int .u64 P, .int .i64 N3, .int .i64 N4, .int .i64 N5, .int .i64 K2, .string B] 26)) = w2 at *
    obtain ⟨g, hg⟩ : ∃ g, g = w1.heap.size := ⟨_, rfl⟩
    rw [← hg] at hlt H2 ⊢
    clear hg H1
    have l0 : ∀ W, EU w g #[.int .i64 255, .int .i64 0, .int .i64 K2, .int .i64 N0, .int .i64 N1, .int .i64 0, .int .i64 N3, .int .i64 N4, .int .i64 N5, .int .i64 N6, .int .i64 0, .int .u64 P] #[.int .i64 N0, .int .i64 N1, .int .i64 N6, .int .u64 P, .int .i64 N3, .int .i64 N4, .int .i64 N5, .int .i64 K2, .string B] W → W.cell? ⟨g, 0, none⟩ = some (.int .i64 255) := fun W h => h.2.1.2 0 _ rfl
    have l1 : ∀ W, EU w g #[.int .i64 255, .int .i64 0, .int .i64 K2, .int .i64 N0, .int .i64 N1, .int .i64 0, .int .i64 N3, .int .i64 N4, .int .i64 N5, .int .i64 N6, .int .i64 0, .int .u64 P] #[.int .i64 N0, .int .i64 N1, .int .i64 N6, .int .u64 P, .int .i64 N3, .int .i64 N4, .int .i64 N5, .int .i64 K2, .string B] W → W.cell? ⟨g, 1, none⟩ = some (.int .i64 0) := fun W h => h.2.1.2 1 _ rfl
    have l2 : ∀ W, EU w g #[.int .i64 255, .int .i64 0, .int .i64 K2, .int .i64 N0, .int .i64 N1, .int .i64 0, .int .i64 N3, .int .i64 N4, .int .i64 N5, .int .i64 N6, .int .i64 0, .int .u64 P] #[.int .i64 N0, .int .i64 N1, .int .i64 N6, .int .u64 P, .int .i64 N3, .int .i64 N4, .int .i64 N5, .int .i64 K2, .string B] W → W.cell? ⟨g, 2, none⟩ = some (.int .i64 K2) := fun W h => h.2.1.2 2 _ rfl
    have l3 : ∀ W, EU w g #[.int .i64 255, .int .i64 0, .int .i64 K2, .int .i64 N0, .int .i64 N1, .int .i64 0, .int .i64 N3, .int .i64 N4, .int .i64 N5, .int .i64 N6, .int .i64 0, .int .u64 P] #[.int .i64 N0, .int .i64 N1, .int .i64 N6, .int .u64 P, .int .i64 N3, .int .i64 N4, .int .i64 N5, .int .i64 K2, .string B] W → W.cell? ⟨g, 3, none⟩ = some (.int .i64 N0) := fun W h => h.2.1.2 3 _ rfl
    have l4 : ∀ W, EU w g #[.int .i64 255, .int .i64 0, .int .i64 K2, .int .i64 N0, .int .i64 N1, .int .i64 0, .int .i64 N3, .int .i64 N4, .int .i64 N5, .int .i64 N6, .int .i64 0, .int .u64 P] #[.int .i64 N0, .int .i64 N1, .int .i64 N6, .int .u64 P, .int .i64 N3, .int .i64 N4, .int .i64 N5, .int .i64 K2, .string B] W → W.cell? ⟨g, 4, none⟩ = some (.int .i64 N1) := fun W h => h.2.1.2 4 _ rfl
    have l5 : ∀ W, EU w g #[.int .i64 255, .int .i64 0, .int .i64 K2, .int .i64 N0, .int .i64 N1, .int .i64 0, .int .i64 N3, .int .i64 N4, .int .i64 N5, .int .i64 N6, .int .i64 0, .int .u64 P] #[.int .i64 N0, .int .i64 N1, .int .i64 N6, .int .u64 P, .int .i64 N3, .int .i64 N4, .int .i64 N5, .int .i64 K2, .string B] W → W.cell? ⟨g, 5, none⟩ = some (.int .i64 0) := fun W h => h.2.1.2 5 _ rfl
    have l6 : ∀ W, EU w g #[.int .i64 255, .int .i64 0, .int .i64 K2, .int .i64 N0, .int .i64 N1, .int .i64 0, .int .i64 N3, .int .i64 N4, .int .i64 N5, .int .i64 N6, .int .i64 0, .int .u64 P] #[.int .i64 N0, .int .i64 N1, .int .i64 N6, .int .u64 P, .int .i64 N3, .int .i64 N4, .int .i64 N5, .int .i64 K2, .string B] W → W.cell? ⟨g, 6, none⟩ = some (.int .i64 N3) := fun W h => h.2.1.2 6 _ rfl
    have l7 : ∀ W, EU w g #[.int .i64 255, .int .i64 0, .int .i64 K2, .int .i64 N0, .int .i64 N1, .int .i64 0, .int .i64 N3, .int .i64 N4, .int .i64 N5, .int .i64 N6, .int .i64 0, .int .u64 P] #[.int .i64 N0, .int .i64 N1, .int .i64 N6, .int .u64 P, .int .i64 N3, .int .i64 N4, .int .i64 N5, .int .i64 K2, .string B] W → W.cell? ⟨g, 7, none⟩ = some (.int .i64 N4) := fun W h => h.2.1.2 7 _ rfl
    have l8 : ∀ W, EU w g #[.int .i64 255, .int .i64 0, .int .i64 K2, .int .i64 N0, .int .i64 N1, .int .i64 0, .int .i64 N3, .int .i64 N4, .int .i64 N5, .int .i64 N6, .int .i64 0, .int .u64 P] #[.int .i64 N0, .int .i64 N1, .int .i64 N6, .int .u64 P, .int .i64 N3, .int .i64 N4, .int .i64 N5, .int .i64 K2, .string B] W → W.cell? ⟨g, 8, none⟩ = some (.int .i64 N5) := fun W h => h.2.1.2 8 _ rfl
    have l9 : ∀ W, EU w g #[.int .i64 255, .int .i64 0, .int .i64 K2, .int .i64 N0, .int .i64 N1, .int .i64 0, .int .i64 N3, .int .i64 N4, .int .i64 N5, .int .i64 N6, .int .i64 0, .int .u64 P] #[.int .i64 N0, .int .i64 N1, .int .i64 N6, .int .u64 P, .int .i64 N3, .int .i64 N4, .int .i64 N5, .int .i64 K2, .string B] W → W.cell? ⟨g, 9, none⟩ = some (.int .i64 N6) := fun W h => h.2.1.2 9 _ rfl
    have l10 : ∀ W, EU w g #[.int .i64 255, .int .i64 0, .int .i64 K2, .int .i64 N0, .int .i64 N1, .int .i64 0, .int .i64 N3, .int .i64 N4, .int .i64 N5, .int .i64 N6, .int .i64 0, .int .u64 P] #[.int .i64 N0, .int .i64 N1, .int .i64 N6, .int .u64 P, .int .i64 N3, .int .i64 N4, .int .i64 N5, .int .i64 K2, .string B] W → W.cell? ⟨g, 10, none⟩ = some (.int .i64 0) := fun W h => h.2.1.2 10 _ rfl
    have l11 : ∀ W, EU w g #[.int .i64 255, .int .i64 0, .int .i64 K2, .int .i64 N0, .int .i64 N1, .int .i64 0, .int .i64 N3, .int .i64 N4, .int .i64 N5, .int .i64 N6, .int .i64 0, .int .u64 P] #[.int .i64 N0, .int .i64 N1, .int .i64 N6, .int .u64 P, .int .i64 N3, .int .i64 N4, .int .i64 N5, .int .i64 K2, .string B] W → W.cell? ⟨g, 11, none⟩ = some (.int .u64 P) := fun W h => h.2.1.2 11 _ rfl
    have e0 : ∀ W, EU w g #[.int .i64 255, .int .i64 0, .int .i64 K2, .int .i64 N0, .int .i64 N1, .int .i64 0, .int .i64 N3, .int .i64 N4, .int .i64 N5, .int .i64 N6, .int .i64 0, .int .u64 P] #[.int .i64 N0, .int .i64 N1, .int .i64 N6, .int .u64 P, .int .i64 N3, .int .i64 N4, .int .i64 N5, .int .i64 K2, .string B] W → W.cell? ⟨g + 1, 0, none⟩ = some (.int .i64 N0) := fun W h => h.2.2.2 0 _ rfl
    have e1 : ∀ W, EU w g #[.int .i64 255, .int .i64 0, .int .i64 K2, .int .i64 N0, .int .i64 N1, .int .i64 0, .int .i64 N3, .int .i64 N4, .int .i64 N5, .int .i64 N6, .int .i64 0, .int .u64 P] #[.int .i64 N0, .int .i64 N1, .int .i64 N6, .int .u64 P, .int .i64 N3, .int .i64 N4, .int .i64 N5, .int .i64 K2, .string B] W → W.cell? ⟨g + 1, 1, none⟩ = some (.int .i64 N1) := fun W h => h.2.2.2 1 _ rfl
    have e2 : ∀ W, EU w g #[.int .i64 255, .int .i64 0, .int .i64 K2, .int .i64 N0, .int .i64 N1, .int .i64 0, .int .i64 N3, .int .i64 N4, .int .i64 N5, .int .i64 N6, .int .i64 0, .int .u64 P] #[.int .i64 N0, .int .i64 N1, .int .i64 N6, .int .u64 P, .int .i64 N3, .int .i64 N4, .int .i64 N5, .int .i64 K2, .string B] W → W.cell? ⟨g + 1, 2, none⟩ = some (.int .i64 N6) := fun W h => h.2.2.2 2 _ rfl
    have e3 : ∀ W, EU w g #[.int .i64 255, .int .i64 0, .int .i64 K2, .int .i64 N0, .int .i64 N1, .int .i64 0, .int .i64 N3, .int .i64 N4, .int .i64 N5, .int .i64 N6, .int .i64 0, .int .u64 P] #[.int .i64 N0, .int .i64 N1, .int .i64 N6, .int .u64 P, .int .i64 N3, .int .i64 N4, .int .i64 N5, .int .i64 K2, .string B] W → W.cell? ⟨g + 1, 3, none⟩ = some (.int .u64 P) := fun W h => h.2.2.2 3 _ rfl
    have e4 : ∀ W, EU w g #[.int .i64 255, .int .i64 0, .int .i64 K2, .int .i64 N0, .int .i64 N1, .int .i64 0, .int .i64 N3, .int .i64 N4, .int .i64 N5, .int .i64 N6, .int .i64 0, .int .u64 P] #[.int .i64 N0, .int .i64 N1, .int .i64 N6, .int .u64 P, .int .i64 N3, .int .i64 N4, .int .i64 N5, .int .i64 K2, .string B] W → W.cell? ⟨g + 1, 4, none⟩ = some (.int .i64 N3) := fun W h => h.2.2.2 4 _ rfl
    have e5 : ∀ W, EU w g #[.int .i64 255, .int .i64 0, .int .i64 K2, .int .i64 N0, .int .i64 N1, .int .i64 0, .int .i64 N3, .int .i64 N4, .int .i64 N5, .int .i64 N6, .int .i64 0, .int .u64 P] #[.int .i64 N0, .int .i64 N1, .int .i64 N6, .int .u64 P, .int .i64 N3, .int .i64 N4, .int .i64 N5, .int .i64 K2, .string B] W → W.cell? ⟨g + 1, 5, none⟩ = some (.int .i64 N4) := fun W h => h.2.2.2 5 _ rfl
    have e6 : ∀ W, EU w g #[.int .i64 255, .int .i64 0, .int .i64 K2, .int .i64 N0, .int .i64 N1, .int .i64 0, .int .i64 N3, .int .i64 N4, .int .i64 N5, .int .i64 N6, .int .i64 0, .int .u64 P] #[.int .i64 N0, .int .i64 N1, .int .i64 N6, .int .u64 P, .int .i64 N3, .int .i64 N4, .int .i64 N5, .int .i64 K2, .string B] W → W.cell? ⟨g + 1, 6, none⟩ = some (.int .i64 N5) := fun W h => h.2.2.2 6 _ rfl
    have e7 : ∀ W, EU w g #[.int .i64 255, .int .i64 0, .int .i64 K2, .int .i64 N0, .int .i64 N1, .int .i64 0, .int .i64 N3, .int .i64 N4, .int .i64 N5, .int .i64 N6, .int .i64 0, .int .u64 P] #[.int .i64 N0, .int .i64 N1, .int .i64 N6, .int .u64 P, .int .i64 N3, .int .i64 N4, .int .i64 N5, .int .i64 K2, .string B] W → W.cell? ⟨g + 1, 7, none⟩ = some (.int .i64 K2) := fun W h => h.2.2.2 7 _ rfl
    have e8 : ∀ W, EU w g #[.int .i64 255, .int .i64 0, .int .i64 K2, .int .i64 N0, .int .i64 N1, .int .i64 0, .int .i64 N3, .int .i64 N4, .int .i64 N5, .int .i64 N6, .int .i64 0, .int .u64 P] #[.int .i64 N0, .int .i64 N1, .int .i64 N6, .int .u64 P, .int .i64 N3, .int .i64 N4, .int .i64 N5, .int .i64 K2, .string B] W → W.cell? ⟨g + 1, 8, none⟩ = some (.string B) := fun W h => h.2.2.2 8 _ rfl
    refine wp_region_noPanic ?_
    refine wp_region_held_drew (S := (EU w g #[.int .i64 255, .int .i64 0, .int .i64 K2, .int .i64 N0, .int .i64 N1, .int .i64 0, .int .i64 N3, .int .i64 N4, .int .i64 N5, .int .i64 N6, .int .i64 0, .int .u64 P] #[.int .i64 N0, .int .i64 N1, .int .i64 N6, .int .u64 P, .int .i64 N3, .int .i64 N4, .int .i64 N5, .int .i64 K2, .string B])) (by kernel_rfl) H2.out.drew (fun hHeld => ?_)
    refine wpAnyH_take (i := 0) (oi := { dst := some 32, op := _, type := _, pos := _, after := _, guard := _ }) (v := ?_) rfl (by kernel_rfl) (by kernel_rfl) (by kernel_rfl) (fun _ _ _ h => h) (Or.inl ⟨by rfl, ?_⟩) hHeld ?_
    rotate_left
    · intro W hSw
      go_simp
      first | done | rfl
    simp only [Act.put, List.setIfInBounds_toArray, List.set_cons_zero, List.set_cons_succ]
    refine wpAnyH_take (i := 1) (oi := { dst := some 33, op := _, type := _, pos := _, after := _, guard := _ }) (v := ?_) rfl (by kernel_rfl) (by kernel_rfl) (by kernel_rfl) (fun _ _ _ h => h) (Or.inl ⟨by rfl, ?_⟩) hHeld ?_
    rotate_left
    · intro W hSw
      go_simp
      first | done | rfl
    simp only [Act.put, List.setIfInBounds_toArray, List.set_cons_zero, List.set_cons_succ]
    refine wpAnyH_take (i := 2) (oi := { dst := some 34, op := _, type := _, pos := _, after := _, guard := _ }) (v := ?_) rfl (by kernel_rfl) (by kernel_rfl) (by kernel_rfl) (fun _ _ _ h => h) (Or.inl ⟨by rfl, ?_⟩) hHeld ?_
    rotate_left
    · intro W hSw
      go_simp
      first | done | rfl
    simp only [Act.put, List.setIfInBounds_toArray, List.set_cons_zero, List.set_cons_succ]
    refine wpAnyH_take (i := 3) (oi := { dst := some 35, op := _, type := _, pos := _, after := _, guard := _ }) (v := ?_) rfl (by kernel_rfl) (by kernel_rfl) (by kernel_rfl) (fun _ _ _ h => h) (Or.inl ⟨by rfl, ?_⟩) hHeld ?_
    rotate_left
    · intro W hSw
      go_simp
      first | done | rfl
    simp only [Act.put, List.setIfInBounds_toArray, List.set_cons_zero, List.set_cons_succ]
    refine wpAnyH_take (i := 5) (oi := { dst := some 37, op := _, type := _, pos := _, after := _, guard := _ }) (v := ?_) rfl (by kernel_rfl) (by kernel_rfl) (by kernel_rfl) (fun _ _ _ h => h) (Or.inl ⟨by rfl, ?_⟩) hHeld ?_
    rotate_left
    · intro W hSw
      go_simp
      first | done | rfl
    simp only [Act.put, List.setIfInBounds_toArray, List.set_cons_zero, List.set_cons_succ]
    refine wpAnyH_ready (rs := [4]) (by kernel_rfl) (by simp) ?_
    refine AllReadyH.cons (o := { dst := some 36, op := _, type := _, pos := _, after := _, guard := _ }) rfl (fun K hK => ?_) ?_
    rotate_left
    · exact AllReadyH.nil
    go_simp
    refine (HHE.out _).mono ?_
    rintro e wx ⟨rfl, hbx⟩
    refine hK.out _ _ (EU.next hHeld hbx) (fun hHeld2 => ?_)
    clear hK K
    clear hHeld
    have hHeld := hHeld2
    clear hHeld2
    refine wpAnyH_take (i := 6) (oi := { dst := some 38, op := _, type := _, pos := _, after := _, guard := _ }) (v := ?_) rfl (by kernel_rfl) (by kernel_rfl) (by kernel_rfl) (fun _ _ _ h => h) (Or.inl ⟨by rfl, ?_⟩) hHeld ?_
    rotate_left
    · intro W hSw
      go_simp
      first | done | rfl
    simp only [Act.put, List.setIfInBounds_toArray, List.set_cons_zero, List.set_cons_succ]
    refine wpAnyH_take (i := 7) (oi := { dst := some 39, op := _, type := _, pos := _, after := _, guard := _ }) (v := ?_) rfl (by kernel_rfl) (by kernel_rfl) (by kernel_rfl) (fun _ _ _ h => h) (Or.inl ⟨by rfl, ?_⟩) hHeld ?_
    rotate_left
    · intro W hSw
      go_simp
      first | done | rfl
    simp only [Act.put, List.setIfInBounds_toArray, List.set_cons_zero, List.set_cons_succ]
    refine wpAnyH_take (i := 8) (oi := { dst := some 40, op := _, type := _, pos := _, after := _, guard := _ }) (v := ?_) rfl (by kernel_rfl) (by kernel_rfl) (by kernel_rfl) (fun _ _ _ h => h) (Or.inl ⟨by rfl, ?_⟩) hHeld ?_
    rotate_left
    · intro W hSw
      go_simp
      first | done | rfl
    simp only [Act.put, List.setIfInBounds_toArray, List.set_cons_zero, List.set_cons_succ]
    refine wpAnyH_take (i := 9) (oi := { dst := some 41, op := _, type := _, pos := _, after := _, guard := _ }) (v := ?_) rfl (by kernel_rfl) (by kernel_rfl) (by kernel_rfl) (fun _ _ _ h => h) (Or.inl ⟨by rfl, ?_⟩) hHeld ?_
    rotate_left
    · intro W hSw
      go_simp
      first | done | rfl
    simp only [Act.put, List.setIfInBounds_toArray, List.set_cons_zero, List.set_cons_succ]
    refine wpAnyH_ready (rs := [10]) (by kernel_rfl) (by simp) ?_
    refine AllReadyH.cons (o := { dst := some 42, op := _, type := _, pos := _, after := _, guard := _ }) rfl (fun K hK => ?_) ?_
    rotate_left
    · exact AllReadyH.nil
    go_simp
    refine (HRI.out _).mono ?_
    rintro e wx ⟨rfl, hbx⟩
    refine hK.out _ _ (EU.next hHeld hbx) (fun hHeld2 => ?_)
    clear hK K
    clear hHeld
    have hHeld := hHeld2
    clear hHeld2
    refine wpAnyH_take (i := 11) (oi := { dst := some 43, op := _, type := _, pos := _, after := _, guard := _ }) (v := ?_) rfl (by kernel_rfl) (by kernel_rfl) (by kernel_rfl) (fun _ _ _ h => h) (Or.inl ⟨by rfl, ?_⟩) hHeld ?_
    rotate_left
    · intro W hSw
      go_simp
      first | done | rfl
    simp only [Act.put, List.setIfInBounds_toArray, List.set_cons_zero, List.set_cons_succ]
    refine wpAnyH_take (i := 12) (oi := { dst := some 44, op := _, type := _, pos := _, after := _, guard := _ }) (v := ?_) rfl (by kernel_rfl) (by kernel_rfl) (by kernel_rfl) (fun _ _ _ h => h) (Or.inl ⟨by rfl, ?_⟩) hHeld ?_
    rotate_left
    · intro W hSw
      go_simp
      first | done | rfl
    simp only [Act.put, List.setIfInBounds_toArray, List.set_cons_zero, List.set_cons_succ]
    refine wpAnyH_done (by kernel_rfl) ?_ _
    refine NoPanic.normal ?_
    all_goals
      have HX := Lib.hid hHeld
      have hne1 : g ≠ w.heap.size := by omega
      have hne2 : w.heap.size ≠ g := by omega
      have hne3 : g + 1 ≠ w.heap.size := by omega
      have hne4 : w.heap.size ≠ g + 1 := by omega
      have hX := HX.out
      obtain ⟨r0, f0⟩ := hX.1.1.2 0 _ rfl
      obtain ⟨r1, f1⟩ := hX.1.1.2 1 _ rfl
      obtain ⟨r2, f2⟩ := hX.1.1.2 2 _ rfl
      obtain ⟨r3, f3⟩ := hX.1.1.2 3 _ rfl
      obtain ⟨r4, f4⟩ := hX.1.1.2 4 _ rfl
      obtain ⟨r5, f5⟩ := hX.1.1.2 5 _ rfl
      obtain ⟨r6, f6⟩ := hX.1.1.2 6 _ rfl
      obtain ⟨r7, f7⟩ := hX.1.1.2 7 _ rfl
      obtain ⟨r8, f8⟩ := hX.1.1.2 8 _ rfl
      have c0 := hX.2.2.2 0 _ rfl
      have c1 := hX.2.2.2 1 _ rfl
      have c2 := hX.2.2.2 2 _ rfl
      have c3 := hX.2.2.2 3 _ rfl
      have c4 := hX.2.2.2 4 _ rfl
      have c5 := hX.2.2.2 5 _ rfl
      have c6 := hX.2.2.2 6 _ rfl
      have c7 := hX.2.2.2 7 _ rfl
      have c8 := hX.2.2.2 8 _ rfl
      clear hX
      clear l0 l1 l2 l3 l4 l5 l6 l7 l8 l9 l10 l11 e0 e1 e2 e3 e4 e5 e6 e7 e8
      go_wp2_with fail
      exact bodyPost_ret (v := .tuple #[.agg #[.int .i64 N0, .int .i64 N1, .int .i64 N6, .int .u64 P, .int .i64 N3, .int .i64 N4, .int .i64 N5, .int .i64 K2, .string B], .int .i64 0]) (by simp [results, Try.results26, go_sem, r0, r1, r2, r3, r4, r5, r6, r7, r8]) rfl (UePost.yes HY.out HHD.out (((((((((HX.out.1.2.setCell (p := ⟨w.heap.size, 0, none⟩) (Nat.le_refl _) _).setCell (p := ⟨w.heap.size, 1, none⟩) (Nat.le_refl _) _).setCell (p := ⟨w.heap.size, 2, none⟩) (Nat.le_refl _) _).setCell (p := ⟨w.heap.size, 3, none⟩) (Nat.le_refl _) _).setCell (p := ⟨w.heap.size, 4, none⟩) (Nat.le_refl _) _).setCell (p := ⟨w.heap.size, 5, none⟩) (Nat.le_refl _) _).setCell (p := ⟨w.heap.size, 6, none⟩) (Nat.le_refl _) _).setCell (p := ⟨w.heap.size, 7, none⟩) (Nat.le_refl _) _).setCell (p := ⟨w.heap.size, 8, none⟩) (Nat.le_refl _) _))
end Go.Proofs.Ytmebodjofcomlaa

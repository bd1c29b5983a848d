/- The reference's New; Same; what is asked first. -/
import Derived.Test.YtecaahcmebdglaaPipT
namespace Go.Proofs.Ytecaahcmebdglaa
open Go.RowKit
set_option linter.unusedVariables false
set_option maxHeartbeats 4000000 in
theorem refnew_ok (c who k hd : Int) (w : World) (hc : c = 3 ∨ c = 5) (hw : 1 ≤ who ∧ who ≤ c) (h0 : 0 ≤ k) (h1 : hd ≤ 72057594037927935) (h2 : k ≤ hd) (h3 : hd - k ≤ 16) : Calls Try.prog 41 #[.int .i64 c, .int .i64 who, .int .i64 k, .int .i64 hd] w fun e w' =>
    e = .returned (.tuple #[.pointer (some ⟨w.heap.size, 0, none⟩), .int .i64 0]) ∧ Rp (fun q => w.heap.size ≤ q) w' w.heap.size c who k hd ((List.range (hd - k).toNat).map (fun (i : Nat) => (k + 1 + (i : Int), who))) ∧ Below w.heap.size w w' := by
  obtain ⟨m, rfl⟩ : ∃ m : Nat, hd = k + m := ⟨(hd - k).toNat, by omega⟩
  rw [show (k + (m : Int) - k).toNat = m by omega]
  have q1 : ¬ who < 1 := by omega
  have q2 : ¬ c < who := by omega
  have q3 : ¬ k < 0 := by omega
  have q31 : ¬ 72057594037927935 < k := by omega
  have q4 : ¬ 72057594037927935 < k + (m : Int) := by omega
  have q5 : ¬ k + (m : Int) < k := by omega
  have q6 : k + (m : Int) - k = m := by omega
  have q7 : ¬ (16 : Int) < m := by omega
  have hm16 : m ≤ 16 := by omega
  have hwm : IntKind.i64.wrap (m : Int) = m := IntWalk.i64_in _ (by omega)
  have hk1 : IntKind.i64.wrap (k + 1) = k + 1 := IntWalk.i64_in _ (by omega)
  have hgo : Hid (∀ (row : List (Int × Int)), row = ((List.range m).map (fun (i : Nat) => (k + 1 + (i : Int), who))) → Calls Try.prog 41 #[.int .i64 c, .int .i64 who, .int .i64 k, .int .i64 (k + m)] w fun e w' =>
    e = .returned (.tuple #[.pointer (some ⟨w.heap.size, 0, none⟩), .int .i64 0]) ∧ Rp (fun q => w.heap.size ≤ q) w' w.heap.size c who k (k + m) row ∧ Below w.heap.size w w') := Lib.hid (fun row hrow => by
    have HROW := Lib.hid hrow
    clear hrow h1 h2 h3
    rcases hc with rfl | rfl
    · go_enter Try.func41, Try.ntmps41
      go_wp2_with fail
      have hP0 : Rp (fun q => w.heap.size ≤ q) (w.alloc (.cells #[.int .i64 3, .int .i64 who, .int .i64 k, .int .i64 (k + m), .slice none 0 0] 58)) w.heap.size 3 who k (k + m) [] := ⟨Nat.le_refl _, _, Blk.new w _ _ _ rfl, OwnC.nil _ _ _⟩
      have hB0 : Below w.heap.size w (w.alloc (.cells #[.int .i64 3, .int .i64 who, .int .i64 k, .int .i64 (k + m), .slice none 0 0] 58)) := (Below.refl _ _).alloc (Nat.le_refl _) _
      go_loopw [12] (fun iv wr => ∃ j : Nat, j ≤ m ∧ iv = .int .i64 (k + 1 + (j : Int)) ∧ Rp (fun q => w.heap.size ≤ q) wr w.heap.size 3 who k (k + m) ((List.range j).map (fun (i : Nat) => (k + 1 + (i : Int), who))) ∧ Below w.heap.size w wr) (fun iv _ => (k + m + 1 - intOf iv).toNat)
      case atStart => exact ⟨0, by omega, by simp, hP0, hB0⟩
      case round =>
        clear hP0 hB0
        obtain ⟨j, hj, rfl, hP, hb1⟩ := hrel
        by_cases hlt : j < m
        · obtain ⟨x, cap, hB, hO⟩ := hP.parts
          have HS : Hid ((List.range (j + 1)).map (fun (i : Nat) => (k + 1 + (i : Int), who)) = (List.range j).map (fun (i : Nat) => (k + 1 + (i : Int), who)) ++ [(k + 1 + (j : Int), who)]) := Lib.hid (by rw [List.range_succ, List.map_append]; rfl)
          obtain ⟨L, hL⟩ : ∃ L, L = (List.range j).map (fun (i : Nat) => (k + 1 + (i : Int), who)) := ⟨_, rfl⟩
          have hlen : L.length = j := by rw [hL]; simp
          rw [← hL] at hB hO HS
          rw [hlen] at hB hO
          have HLL := Lib.hid hlen
          clear hP hL hlen
          have r4 := (hB.2 4 _ rfl).1
          have q8 : k + 1 + (j : Int) ≤ k + m := by omega
          go_wp2_with (with_reducible refine app_p rfl _ _ rfl rfl _ _ _ _ rfl hO _ _ rfl ?hc ?_)
          case hc => omega
          intro x' cap' w2 hO2 hT2
          have hB2 := hB.turned hT2 (fun q => q.2 rfl)
          obtain ⟨r4', f4'⟩ := hB2.2 4 _ rfl
          have hPG := Rp.grow (Z := fun q => w.heap.size ≤ q) (w := wr) (l' := L ++ [(k + 1 + (j : Int), who)]) (Nat.le_refl _) hB.1 hB2 hO2 (hT2.mono (fun q h => .inl h.1)) (by rw [List.length_append, HLL.out]; rfl) (by rw [prs_append]; rfl)
          have hbX := hb1.trans (hPG.2.below (fun q h => h) hb1.size)
          have hRX := hPG.1.mono (Z' := fun q => w.heap.size ≤ q) (fun q h => by have := hb1.size; omega)
          have HPX := Lib.hid (And.intro hRX hbX)
          clear hO hB hO2 hT2 hPG hbX hRX r4 hb1
          go_wp2_with fail
          go_roundw
          case rel => exact ⟨j + 1, by omega, by go_num, by rw [HS.out]; exact HPX.out.1, HPX.out.2⟩
          case measure => simp [intOf]; omega
        · obtain rfl : j = m := by omega
          have q8 : ¬ k + 1 + (j : Int) ≤ k + j := by omega
          go_wp2_with fail
          go_ret2
          exact ⟨rfl, by rw [HROW.out]; exact hP, hb1⟩
    · go_enter Try.func41, Try.ntmps41
      go_wp2_with fail
      have hP0 : Rp (fun q => w.heap.size ≤ q) (w.alloc (.cells #[.int .i64 5, .int .i64 who, .int .i64 k, .int .i64 (k + m), .slice none 0 0] 58)) w.heap.size 5 who k (k + m) [] := ⟨Nat.le_refl _, _, Blk.new w _ _ _ rfl, OwnC.nil _ _ _⟩
      have hB0 : Below w.heap.size w (w.alloc (.cells #[.int .i64 5, .int .i64 who, .int .i64 k, .int .i64 (k + m), .slice none 0 0] 58)) := (Below.refl _ _).alloc (Nat.le_refl _) _
      go_loopw [12] (fun iv wr => ∃ j : Nat, j ≤ m ∧ iv = .int .i64 (k + 1 + (j : Int)) ∧ Rp (fun q => w.heap.size ≤ q) wr w.heap.size 5 who k (k + m) ((List.range j).map (fun (i : Nat) => (k + 1 + (i : Int), who))) ∧ Below w.heap.size w wr) (fun iv _ => (k + m + 1 - intOf iv).toNat)
      case atStart => exact ⟨0, by omega, by simp, hP0, hB0⟩
      case round =>
        clear hP0 hB0
        obtain ⟨j, hj, rfl, hP, hb1⟩ := hrel
        by_cases hlt : j < m
        · obtain ⟨x, cap, hB, hO⟩ := hP.parts
          have HS : Hid ((List.range (j + 1)).map (fun (i : Nat) => (k + 1 + (i : Int), who)) = (List.range j).map (fun (i : Nat) => (k + 1 + (i : Int), who)) ++ [(k + 1 + (j : Int), who)]) := Lib.hid (by rw [List.range_succ, List.map_append]; rfl)
          obtain ⟨L, hL⟩ : ∃ L, L = (List.range j).map (fun (i : Nat) => (k + 1 + (i : Int), who)) := ⟨_, rfl⟩
          have hlen : L.length = j := by rw [hL]; simp
          rw [← hL] at hB hO HS
          rw [hlen] at hB hO
          have HLL := Lib.hid hlen
          clear hP hL hlen
          have r4 := (hB.2 4 _ rfl).1
          have q8 : k + 1 + (j : Int) ≤ k + m := by omega
          go_wp2_with (with_reducible refine app_p rfl _ _ rfl rfl _ _ _ _ rfl hO _ _ rfl ?hc ?_)
          case hc => omega
          intro x' cap' w2 hO2 hT2
          have hB2 := hB.turned hT2 (fun q => q.2 rfl)
          obtain ⟨r4', f4'⟩ := hB2.2 4 _ rfl
          have hPG := Rp.grow (Z := fun q => w.heap.size ≤ q) (w := wr) (l' := L ++ [(k + 1 + (j : Int), who)]) (Nat.le_refl _) hB.1 hB2 hO2 (hT2.mono (fun q h => .inl h.1)) (by rw [List.length_append, HLL.out]; rfl) (by rw [prs_append]; rfl)
          have hbX := hb1.trans (hPG.2.below (fun q h => h) hb1.size)
          have hRX := hPG.1.mono (Z' := fun q => w.heap.size ≤ q) (fun q h => by have := hb1.size; omega)
          have HPX := Lib.hid (And.intro hRX hbX)
          clear hO hB hO2 hT2 hPG hbX hRX r4 hb1
          go_wp2_with fail
          go_roundw
          case rel => exact ⟨j + 1, by omega, by go_num, by rw [HS.out]; exact HPX.out.1, HPX.out.2⟩
          case measure => simp [intOf]; omega
        · obtain rfl : j = m := by omega
          have q8 : ¬ k + 1 + (j : Int) ≤ k + j := by omega
          go_wp2_with fail
          go_ret2
          exact ⟨rfl, by rw [HROW.out]; exact hP, hb1⟩)
  exact hgo.out _ rfl
set_option maxHeartbeats 1000000 in
theorem refnew_no (c who k hd : Int) (w : World) (hdb : -9223372036854775808 ≤ hd ∧ hd ≤ 9223372036854775807) (h : ¬ ((c = 3 ∨ c = 5) ∧ (1 ≤ who ∧ who ≤ c) ∧ 0 ≤ k ∧ hd ≤ 72057594037927935 ∧ k ≤ hd ∧ hd - k ≤ 16)) : Calls Try.prog 41 #[.int .i64 c, .int .i64 who, .int .i64 k, .int .i64 hd] w fun e w' =>
    e = .returned (.tuple #[.pointer none, .int .i64 1]) ∧ w = w' := by
  have hc3 : c = 3 ∨ c = 5 ∨ (¬ c = 3 ∧ ¬ c = 5) := by omega
  rcases hc3 with rfl | rfl | ⟨hc3, hc5⟩
  · by_cases q0 : who < 1
    · clear h
      go_enter Try.func41, Try.ntmps41
      go_wp2_with fail
      go_ret2
      exact ⟨rfl, rfl⟩
    by_cases q1 : 3 < who
    · clear h
      go_enter Try.func41, Try.ntmps41
      go_wp2_with fail
      go_ret2
      exact ⟨rfl, rfl⟩
    by_cases q2 : k < 0
    · clear h
      go_enter Try.func41, Try.ntmps41
      go_wp2_with fail
      go_ret2
      exact ⟨rfl, rfl⟩
    by_cases q3 : 72057594037927935 < k
    · clear h
      go_enter Try.func41, Try.ntmps41
      go_wp2_with fail
      go_ret2
      exact ⟨rfl, rfl⟩
    by_cases q4 : hd < k
    · clear h
      go_enter Try.func41, Try.ntmps41
      go_wp2_with fail
      go_ret2
      exact ⟨rfl, rfl⟩
    by_cases q5 : 72057594037927935 < hd
    · clear h
      go_enter Try.func41, Try.ntmps41
      go_wp2_with fail
      go_ret2
      exact ⟨rfl, rfl⟩
    by_cases q6 : 16 < hd - k
    · have hwr : IntKind.i64.wrap (hd - k) = hd - k := IntWalk.i64_in _ (by omega)
      clear h
      go_enter Try.func41, Try.ntmps41
      go_wp2_with fail
      go_ret2
      exact ⟨rfl, rfl⟩
    exact absurd ⟨by decide, ⟨by omega, by omega⟩, by omega, by omega, by omega, by omega⟩ h
  · by_cases q0 : who < 1
    · clear h
      go_enter Try.func41, Try.ntmps41
      go_wp2_with fail
      go_ret2
      exact ⟨rfl, rfl⟩
    by_cases q1 : 5 < who
    · clear h
      go_enter Try.func41, Try.ntmps41
      go_wp2_with fail
      go_ret2
      exact ⟨rfl, rfl⟩
    by_cases q2 : k < 0
    · clear h
      go_enter Try.func41, Try.ntmps41
      go_wp2_with fail
      go_ret2
      exact ⟨rfl, rfl⟩
    by_cases q3 : 72057594037927935 < k
    · clear h
      go_enter Try.func41, Try.ntmps41
      go_wp2_with fail
      go_ret2
      exact ⟨rfl, rfl⟩
    by_cases q4 : hd < k
    · clear h
      go_enter Try.func41, Try.ntmps41
      go_wp2_with fail
      go_ret2
      exact ⟨rfl, rfl⟩
    by_cases q5 : 72057594037927935 < hd
    · clear h
      go_enter Try.func41, Try.ntmps41
      go_wp2_with fail
      go_ret2
      exact ⟨rfl, rfl⟩
    by_cases q6 : 16 < hd - k
    · have hwr : IntKind.i64.wrap (hd - k) = hd - k := IntWalk.i64_in _ (by omega)
      clear h
      go_enter Try.func41, Try.ntmps41
      go_wp2_with fail
      go_ret2
      exact ⟨rfl, rfl⟩
    exact absurd ⟨by decide, ⟨by omega, by omega⟩, by omega, by omega, by omega, by omega⟩ h
  · clear h hdb
    go_enter Try.func41, Try.ntmps41
    go_wp2_with fail
    go_ret2
    exact ⟨rfl, rfl⟩
/-- A slice of numbers that can be read. -/
def Read1 (w : World) (v : Value) (L : List Int) : Prop := ∃ x cap, v = .slice x L.length cap ∧ ∀ (j : Nat) (a : Int), L[j]? = some a → ∃ b off, x = some ⟨b, off, none⟩ ∧ w.cell? ⟨b, off + j, none⟩ = some (.int .i64 a)
theorem Read1.of_own {Y : Nat → Prop} {w : World} {x : Option Addr} {n cap : Nat} {L : List Int} (h : OwnC Y w (.slice x n cap) n 1 (ints L)) (hn : n = L.length) : Read1 w (.slice x n cap) L := by
  subst hn
  refine ⟨x, cap, rfl, fun j a ha => ?_⟩
  rcases h.2 with ⟨hv, hn⟩ | ⟨b, off, cap', hv, _, _, _, h3, _⟩
  · rw [List.eq_nil_of_length_eq_zero hn] at ha
    simp at ha
  · injection hv with h1 h2 h4
    exact ⟨b, off, h1, h3 j _ (by unfold ints; rw [List.getElem?_map, ha]; rfl)⟩
theorem Read1.nil (w : World) (x : Option Addr) (cap : Nat) : Read1 w (.slice x 0 cap) [] := ⟨x, cap, rfl, fun j a h => by simp at h⟩
theorem Read1.drewN {w : World} {v : Value} {L : List Int} (h : Read1 w v L) (n : Nat) : Read1 (w.drewN n) v L := h
theorem same_yes {a b : Value} {L : List Int} {w : World} (ha : Read1 w a L) (hb : Read1 w b L) (hL : L.length ≤ 1000000) : Calls Try.prog 45 #[a, b] w fun e w' => e = .returned (.bool true) ∧ ∃ m, w' = w.drewN m := by
  obtain ⟨x, cap, rfl, hx⟩ := ha
  obtain ⟨y, cap2, rfl, hy⟩ := hb
  obtain ⟨n, hn⟩ : ∃ n, n = L.length := ⟨_, rfl⟩
  rw [← hn] at hL ⊢
  have HN := Lib.hid hn
  clear hn
  go_enter Try.func45, Try.ntmps45
  go_wp2_with fail
  go_loopw [5] (fun iv wr => ∃ i : Nat, i ≤ n ∧ iv = .int .i64 i ∧ ∃ m, wr = w.drewN m) (fun iv _ => n - (intOf iv).toNat)
  case atStart => exact ⟨0, by omega, rfl, 0, rfl⟩
  case round =>
    obtain ⟨i, hi, rfl, m, rfl⟩ := hrel
    by_cases hlt : i < n
    · obtain ⟨p, hp⟩ : ∃ p, L[i]? = some p := ⟨L[i]'(by rw [← HN.out]; exact hlt), List.getElem?_eq_getElem _⟩
      obtain ⟨b1, o1, hx1, hc1⟩ := hx i p hp
      obtain ⟨b2, o2, hy1, hc2⟩ := hy i p hp
      subst hx1 hy1
      clear hx hy hp
      go_wp2_with fail
      go_quiet (fail)
      go_wp2_with fail
      go_roundw
      case rel => exact ⟨i + 1, by omega, by go_num, _, rfl⟩
      case measure => simp [intOf]; omega
    · obtain rfl : i = n := by omega
      go_wp2_with fail
      go_ret
      exact ⟨rfl, _, rfl⟩
end Go.Proofs.Ytecaahcmebdglaa

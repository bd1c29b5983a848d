import Derived.Test.YtnldjddmchfcoaaNumH
import Derived.OpenShut
namespace Go.Proofs.Ytnldjddmchfcoaa
open Go.RowKit
theorem holds_of_ints {w : World} {x : Addr} {len cap : Nat} {zs : List Int} (hl : len ≤ cap) (hz : zs.length = cap) (hcell : ∀ i, i < zs.length → w.cell? (x.add i) = some (.int .u8 (zs.getD i 0))) (hwz : ∀ n ∈ zs, (Lit.int .u8 n).wf = true) :
    ∃ L : List Nat, L.length = len ∧ Holds w (.slice (some x) L.length cap) L := by
  have hb : ∀ n ∈ zs, 0 ≤ n ∧ n ≤ 255 := fun n hn => bounds_u8 (hwz n hn)
  refine ⟨(zs.take len).map Int.toNat, by rw [List.length_map, List.length_take]; omega, fun b hb' => ?_, some x, cap, by rw [u8s_length], fun e => (by cases e), fun a ha i c hc => ?_⟩
  · rw [List.mem_map] at hb'
    obtain ⟨n, hn, rfl⟩ := hb'
    have := hb n (List.mem_of_mem_take hn)
    omega
  · injection ha with ha
    subst ha
    unfold u8s at hc
    rw [List.getElem?_map, List.getElem?_map] at hc
    cases hz' : (zs.take len)[i]? with
    | none => rw [hz'] at hc; cases hc
    | some z =>
      rw [hz'] at hc
      simp only [Option.map_some, Option.some.injEq] at hc
      have hi : i < (zs.take len).length := (List.getElem?_eq_some_iff.1 hz').1
      rw [List.length_take] at hi
      rw [List.getElem?_take_of_lt (by omega)] at hz'
      have hm := hb z (List.mem_of_getElem? hz')
      rw [hcell i (by omega), List.getD_eq_getElem?_getD, hz']
      subst hc
      rw [UInt8.toNat_ofNat', Nat.mod_eq_of_lt (by omega)]
      show some (Value.int .u8 z) = some (.int .u8 ((z.toNat : Nat) : Int))
      rw [Int.toNat_of_nonneg hm.1]
set_option maxHeartbeats 1000000 in
theorem walkNumTakes (w : World) (p0 : Option Addr) (cap0 : Nat) (l0 : List Nat) (a1 : Int) (a2 : Int) (h0 : Holds w (.slice p0 l0.length cap0) l0) (c0 : l0.length ≤ cap0) (r0 : cap0 ≤ 140737488351232) (b1 : -9223372036854775808 ≤ a1 ∧ a1 ≤ 9223372036854775807) (b2 : -9223372036854775808 ≤ a2 ∧ a2 ≤ 9223372036854775807) :
    Calls Try.prog 8 #[.slice p0 l0.length cap0, .int .i64 a1, .int .i64 a2] w fun e w' => e = .returned (.bool true) ∧ Below w.heap.size w w' := by
  have H0 := Lib.hid h0
  clear h0
  go_enter Try.func8, Try.ntmps8
  go_wp2_with fail
  refine (awake01_any _).mono ?_
  rintro e w1 ⟨rfl, hb1⟩
  go_wp2_with fail
  refine (take_any p0 cap0 a1 a2 l0 _ (H0.out.later hb1) c0 (by omega) b1).mono ?_
  rintro e w2 ⟨rfl, hb2⟩
  go_wp2_with fail
  refine (reftake_any p0 cap0 a1 a2 l0 _ ((H0.out.later hb1).later hb2) (by omega) b1 b2).mono ?_
  rintro e w3 ⟨rfl, hb3⟩
  go_wp2_with fail
  go_ret
  exact ⟨ret_bool (by simp), (hb1.trans (hb2.mono hb1.size)).trans (hb3.mono (Nat.le_trans hb1.size hb2.size))⟩
theorem same_nil (w : World) : Calls Try.prog 15 #[.slice none 0 0, .slice none 0 0] w fun e w' => e = .returned (.bool true) ∧ w = w' :=
  same_yes none none 0 0 0 0 [] w (Holds.nil w) (Holds.nil w)
set_option maxHeartbeats 1000000 in
theorem puts_no (w : World) (v : Value) (n : Int) (size : Int) (hp : ∀ w, Calls Try.prog 13 #[v, .int .u64 n, .int .i64 size] w fun e w' => e = .returned (.tuple #[.slice none 0 0, .int .i64 1]) ∧ w = w')
    (hr : ∀ w1, Below w.heap.size w w1 → Calls Try.prog 26 #[v, .int .u64 n, .int .i64 size] w1 fun e w' => e = .returned (.tuple #[.slice none 0 0, .int .i64 1]) ∧ Below w1.heap.size w1 w') :
    Calls Try.prog 7 #[v, .int .u64 n, .int .i64 size] w fun e w' => e = .returned (.bool true) ∧ Below w.heap.size w w' := by
  have HP := Lib.hid hp
  have HR := Lib.hid hr
  clear hp hr
  go_enter Try.func7, Try.ntmps7
  go_wp2_with fail
  refine (awake01_any _).mono ?_
  rintro e w1 ⟨rfl, hb1⟩
  go_wp2_with fail
  refine (HP.out _).mono ?_
  rintro e w2 ⟨rfl, rfl⟩
  go_wp2_with fail
  refine (HR.out _ hb1).mono ?_
  rintro e w2 ⟨rfl, hb2⟩
  go_wp2_with fail
  refine (same_nil _).mono ?_
  rintro e w3 ⟨rfl, rfl⟩
  go_wp2_with fail
  go_ret
  exact ⟨rfl, hb1.trans (hb2.mono hb1.size)⟩
theorem fit_val (n size : Nat) (_hn : n < 18446744073709551616) (hf : n / 256 ^ size = 0) : n % 256 ^ size = n := by
  have := Nat.div_add_mod n (256 ^ size)
  rw [hf] at this
  omega
theorem cut_mid (l m : List Nat) : (l ++ m).drop l.length = m := by simp
theorem fit8 (n size : Nat) (hn : n < 18446744073709551616) (hs : size = 8) : n / 256 ^ size = 0 := by subst hs; exact Nat.div_eq_of_lt hn
set_option maxHeartbeats 1000000 in
theorem puts_yes (w : World) (p0 : Option Addr) (cap0 : Nat) (l0 : List Nat) (n size : Nat) (h0 : Holds w (.slice p0 l0.length cap0) l0) (hlen : l0.length ≤ 140737488351232) (hn : n < 18446744073709551616) (hs : 1 ≤ size) (hs8 : size ≤ 8) (hf : n / 256 ^ size = 0) :
    Calls Try.prog 7 #[.slice p0 l0.length cap0, .int .u64 n, .int .i64 size] w fun e w' => e = .returned (.bool true) ∧ Below w.heap.size w w' := by
  have H0 := Lib.hid h0
  have HF := Lib.hid hf
  clear h0 hf
  have HL := Lib.hid (leN_length n size)
  have HLB := Lib.hid (leN_lt n size)
  have HV := Lib.hid ((valN_leN n size).trans (fit_val n size hn HF.out))
  obtain ⟨L, hL⟩ : ∃ L, L = l0 ++ leN n size := ⟨_, rfl⟩
  have hLl : L.length = l0.length + size := by rw [hL, List.length_append, leN_length]
  have HLL := Lib.hid hLl
  have HEQ := Lib.hid hL
  clear hLl hL
  go_enter Try.func7, Try.ntmps7
  go_wp2_with fail
  refine (awake01_any _).mono ?_
  rintro e w1 ⟨rfl, hb1⟩
  go_wp2_with fail
  refine (put_ok p0 cap0 l0 n size _ (H0.out.later hb1) hn hs hs8 (.inr HF.out) (by omega)).mono ?_
  rintro e w2 ⟨v2, rfl, hF2, hb2⟩
  rw [← HEQ.out] at hF2
  obtain ⟨g2, c2, rfl, hc2⟩ := hF2.slice
  have HH2 := Lib.hid hF2.holds
  clear hF2
  go_wp2_with fail
  refine (refput_loop p0 cap0 l0 n size _ ((H0.out.later hb1).later hb2) hn hs hs8 (by omega)).mono ?_
  rintro e w3 ⟨hb3, hpost⟩
  rcases hpost with ⟨_, v3, rfl, hO3⟩ | ⟨hbad, _⟩
  · rw [← HEQ.out] at hO3
    obtain ⟨p3, c3, rfl, hc3⟩ := hO3.slice
    have HH3 := Lib.hid hO3.holds
    clear hO3
    go_wp2_with fail
    refine (same_yes _ _ _ _ _ _ _ _ (HH2.out.later hb3) HH3.out).mono ?_
    rintro e w4 ⟨rfl, rfl⟩
    have ht := take_any (some ⟨g2, 0, none⟩) c2 l0.length size L w3 (HH2.out.later hb3) hc2 (by rw [HLL.out]; omega) (by omega)
    rw [takeR_ok L l0.length size hs hs8 (by rw [HLL.out]; exact Nat.le_refl _), HEQ.out, cut_mid, List.take_of_length_le (by rw [HL.out]; exact Nat.le_refl _), HV.out, ← HEQ.out] at ht
    have HT := Lib.hid ht
    clear ht
    go_wp2_with fail
    refine HT.out.mono ?_
    rintro e w5 ⟨rfl, hb5⟩
    go_wp2_with fail
    go_ret
    refine ⟨ret_bool (by simp), (hb1.trans (hb2.mono hb1.size)).trans ((hb3.mono ?_).trans (hb5.mono ?_))⟩
    · exact Nat.le_trans hb1.size hb2.size
    · exact Nat.le_trans hb1.size (Nat.le_trans hb2.size hb3.size)
  · exact absurd HF.out hbad
theorem walkNumPuts (w : World) (p0 : Option Addr) (cap0 : Nat) (l0 : List Nat) (a1 : Int) (a2 : Int) (h0 : Holds w (.slice p0 l0.length cap0) l0) (c0 : l0.length ≤ cap0) (r0 : cap0 ≤ 140737488351232) (b1 : 0 ≤ a1 ∧ a1 ≤ 18446744073709551615) (_b2 : -9223372036854775808 ≤ a2 ∧ a2 ≤ 9223372036854775807) :
    Calls Try.prog 7 #[.slice p0 l0.length cap0, .int .u64 a1, .int .i64 a2] w fun e w' => e = .returned (.bool true) ∧ Below w.heap.size w w' := by
  by_cases hout : a2 < 1 ∨ 8 < a2
  · exact puts_no w _ a1 a2 (fun w => put_out _ a1 a2 w hout) (fun w1 _ => (refput_out _ a1 a2 w1 hout).mono fun e w' ⟨he, hw⟩ => ⟨he, hw ▸ Below.refl _ _⟩)
  · obtain ⟨n, rfl⟩ := Int.eq_ofNat_of_zero_le b1.1
    obtain ⟨size, rfl⟩ := Int.eq_ofNat_of_zero_le (show 0 ≤ a2 from by omega)
    have hn : n < 18446744073709551616 := by omega
    by_cases hf : n / 256 ^ size = 0
    · exact puts_yes w p0 cap0 l0 n size h0 (by omega) hn (by omega) (by omega) hf
    · have hs8 : size < 8 := by
        rcases Nat.lt_or_ge size 8 with h | h
        · exact h
        · exact absurd (fit8 n size hn (by omega)) hf
      refine puts_no w _ n size (fun w => put_big _ n size w (by omega) hs8 hf) (fun w1 hb1 => (refput_loop p0 cap0 l0 n size w1 (h0.later hb1) hn (by omega) (by omega) (by omega)).mono ?_)
      rintro e w' ⟨hb, hpost⟩
      rcases hpost with ⟨hz, _⟩ | ⟨_, he⟩
      · exact absurd hz hf
      · exact ⟨he, hb⟩
end Go.Proofs.Ytnldjddmchfcoaa

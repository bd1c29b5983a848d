import Derived.Test.YtnldjddmchfcoaaNumL
import Derived.Test.YtnldjddmchfcoaaNumV
namespace Go.Proofs.Ytnldjddmchfcoaa
open Go.RowKit
set_option maxHeartbeats 1000000 in
theorem texts_no (w : World) (p0 : Option Addr) (cap0 : Nat) (l0 : List Nat) (a1 : ByteArray) (v2 : Value) (a3 : Int) (hs : 65535 < a1.size) :
    Calls Try.prog 9 #[.slice p0 l0.length cap0, .string a1, v2, .int .i64 a3] w fun e w' => e = .returned (.bool true) ∧ Below w.heap.size w w' := by
  by_cases hs2 : (70000 : Int) < a1.size
  · go_enter Try.func9, Try.ntmps9
    go_wp2_with fail
    refine (awake01_any _).mono ?_
    rintro e w1 ⟨rfl, hb1⟩
    go_wp2_with fail
    go_ret
    exact ⟨rfl, hb1⟩
  · go_enter Try.func9, Try.ntmps9
    go_wp2_with fail
    refine (awake01_any _).mono ?_
    rintro e w1 ⟨rfl, hb1⟩
    go_wp2_with fail
    refine (puttext_long _ a1 _ hs).mono ?_
    rintro e w2 ⟨rfl, rfl⟩
    go_wp2_with fail
    refine (refputtext_long _ a1 _ hs).mono ?_
    rintro e w2 ⟨rfl, rfl⟩
    go_wp2_with fail
    refine (same_nil _).mono ?_
    rintro e w2 ⟨rfl, rfl⟩
    go_wp2_with fail
    go_ret
    exact ⟨rfl, hb1⟩
theorem text_post {s : ByteArray} {y z : Int} {w : World} {e : Ending} {w' : World} (h : TextPost (nats s, y, z) w e w') : e = .returned (.tuple #[.string s, .int .i64 y, .int .i64 z]) ∧ Below w.heap.size w w' := by
  refine ⟨h.1.trans ?_, h.2⟩
  show Ending.returned (.tuple #[.string (text (nats s)), .int .i64 y, .int .i64 z]) = _
  rw [text_nats]
set_option maxHeartbeats 2000000 in
theorem texts_yes (w : World) (p0 : Option Addr) (cap0 : Nat) (l0 : List Nat) (a1 : ByteArray) (p2 : Option Addr) (cap2 : Nat) (l2 : List Nat) (a3 : Int) (h0 : Holds w (.slice p0 l0.length cap0) l0) (hl0 : l0.length ≤ 1048576) (hs : a1.size ≤ 65535) (h2 : Holds w (.slice p2 l2.length cap2) l2) (hl2 : l2.length ≤ 1048576) (_b3 : -9223372036854775808 ≤ a3 ∧ a3 ≤ 9223372036854775807) :
    Calls Try.prog 9 #[.slice p0 l0.length cap0, .string a1, .slice p2 l2.length cap2, .int .i64 a3] w fun e w' => e = .returned (.bool true) ∧ Below w.heap.size w w' := by
  have H0 := Lib.hid h0
  have H2 := Lib.hid h2
  clear h0 h2
  have HTB := Lib.hid (textR_back l0 l2 a1 a3 hs)
  obtain ⟨X, hX⟩ : ∃ X, X = l0 ++ leN a1.size 2 ++ nats a1 := ⟨_, rfl⟩
  have hXl : X.length = l0.length + 2 + a1.size := by rw [hX, List.length_append, List.length_append, leN_length, nats_length]
  have HX := Lib.hid hX
  have HXL := Lib.hid hXl
  rw [← hX] at HTB
  clear hX hXl
  obtain ⟨Z, hZ⟩ : ∃ Z, Z = X ++ l2 := ⟨_, rfl⟩
  have hZl : Z.length = X.length + l2.length := by rw [hZ, List.length_append]
  have HZ := Lib.hid hZ
  have HZL := Lib.hid hZl
  rw [← hZ] at HTB
  clear hZ hZl
  go_enter Try.func9, Try.ntmps9
  go_wp2_with fail
  refine (awake01_any _).mono ?_
  rintro e w1 ⟨rfl, hb1⟩
  go_wp2_with fail
  refine (puttext_ok p0 cap0 l0 a1 _ (H0.out.later hb1) hs (by omega)).mono ?_
  rintro e w2 ⟨v2, rfl, hF2, hb2⟩
  rw [← HX.out] at hF2
  obtain ⟨g2, c2, rfl, hc2⟩ := hF2.slice
  have HH2 := Lib.hid hF2.holds
  clear hF2
  have hbb2 := hb1.trans (hb2.mono hb1.size)
  clear hb1 hb2
  go_wp2_with fail
  refine (refputtext_ok p0 cap0 l0 a1 _ (H0.out.later hbb2) hs (by omega)).mono ?_
  rintro e w3 ⟨v3, rfl, hO3, hb3⟩
  rw [← HX.out] at hO3
  obtain ⟨p3, c3, rfl, hc3⟩ := hO3.slice
  have HH3 := Lib.hid hO3.holds
  have HH23 := Lib.hid (HH2.out.later hb3)
  clear hO3 HH2
  have hbb3 := hbb2.trans (hb3.mono hbb2.size)
  clear hbb2 hb3
  go_wp2_with fail
  refine (same_yes _ _ _ _ _ _ _ _ HH23.out HH3.out).mono ?_
  rintro e w4 ⟨rfl, rfl⟩
  clear HH3
  go_wp2_with fail
  refine (bytes_any _ _ _ _ HH23.out (by rw [HXL.out]; omega)).mono ?_
  rintro e w4 ⟨v4, rfl, hO4, hb4⟩
  have hT := H2.out.later (hbb3.trans (hb4.mono hbb3.size))
  have hbb4 := hbb3.trans (hb4.mono hbb3.size)
  have HO4 := Lib.hid hO4
  have HT := Lib.hid hT
  have hsz4 := hb4.size
  have hB4 := Lib.hid (Below.refl w3.heap.size w4)
  clear hO4 hT
  go_wp2_with (with_reducible refine appN (w0 := w4) rfl _ _ rfl _ _ rfl HO4.out _ _ _ _ rfl HT.out ?he hB4.out hsz4 ?_)
  case he => rw [HXL.out]; omega
  intro v5 w5 hO5 hb5
  rw [← HZ.out] at hO5
  obtain ⟨p5, c5, rfl, hc5⟩ := hO5.slice
  have HH5 := Lib.hid hO5.holds
  clear hO5
  have ht := taketext_any p5 c5 l0.length a3 Z w5 HH5.out hc5 (by rw [HZL.out, HXL.out]; omega) (by omega)
  rw [HTB.out] at ht
  have hbb5 : Below w.heap.size w w5 := hbb4.trans (hb5.mono hbb3.size)
  by_cases hm : a3 < a1.size
  · rw [if_pos hm] at ht
    have HTK := Lib.hid (show Calls Try.prog 30 #[.slice p5 Z.length c5, .int .i64 l0.length, .int .i64 a3] w5 fun e w' => e = .returned (.tuple #[.string ⟨#[]⟩, .int .i64 0, .int .i64 5]) ∧ Below w5.heap.size w5 w' from ht)
    clear ht
    go_wp2_with fail
    refine HTK.out.mono ?_
    rintro e w6 ⟨rfl, hb6⟩
    go_wp2_with fail
    go_ret
    exact ⟨rfl, hbb5.trans (hb6.mono hbb5.size)⟩
  · rw [if_neg hm] at ht
    have ht2 := ht.mono (fun e w' h => text_post h)
    have HTK := Lib.hid ht2
    clear ht ht2
    have hxe : (((l0.length : Int) + 2 + (a1.size : Int)) == (X.length : Int)) = true := by rw [beq_iff_eq, HXL.out]; omega
    have HXE := Lib.hid hxe
    clear hxe
    go_wp2_with fail
    refine HTK.out.mono ?_
    rintro e w6 ⟨rfl, hb6⟩
    have hxe := HXE.out
    go_wp2_with fail
    go_ret
    exact ⟨rfl, hbb5.trans (hb6.mono hbb5.size)⟩
theorem walkNumTexts (w : World) (p0 : Option Addr) (cap0 : Nat) (l0 : List Nat) (a1 : ByteArray) (p2 : Option Addr) (cap2 : Nat) (l2 : List Nat) (a3 : Int) (h0 : Holds w (.slice p0 l0.length cap0) l0) (c0 : l0.length ≤ cap0) (r0 : cap0 ≤ 1048576) (_b1 : a1.size ≤ 1048576) (h2 : Holds w (.slice p2 l2.length cap2) l2) (c2 : l2.length ≤ cap2) (r2 : cap2 ≤ 1048576) (b3 : -9223372036854775808 ≤ a3 ∧ a3 ≤ 9223372036854775807) :
    Calls Try.prog 9 #[.slice p0 l0.length cap0, .string a1, .slice p2 l2.length cap2, .int .i64 a3] w fun e w' => e = .returned (.bool true) ∧ Below w.heap.size w w' := by
  by_cases hs : a1.size ≤ 65535
  · exact texts_yes w p0 cap0 l0 a1 p2 cap2 l2 a3 h0 (by omega) hs h2 (by omega) b3
  · exact texts_no w p0 cap0 l0 a1 _ a3 (by omega)
end Go.Proofs.Ytnldjddmchfcoaa

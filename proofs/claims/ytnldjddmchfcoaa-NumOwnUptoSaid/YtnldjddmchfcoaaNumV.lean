import Derived.Test.YtnldjddmchfcoaaNumJ
import Derived.Test.YtnldjddmchfcoaaNumW
namespace Go.Proofs.Ytnldjddmchfcoaa
open Go.RowKit
set_option maxHeartbeats 1000000 in
theorem walkNumReads (w : World) (p0 : Option Addr) (cap0 : Nat) (l0 : List Nat) (a1 : Int) (a2 : Int) (h0 : Holds w (.slice p0 l0.length cap0) l0) (c0 : l0.length ≤ cap0) (_r0 : cap0 ≤ 140737488351232) (b1 : -9223372036854775808 ≤ a1 ∧ a1 ≤ 9223372036854775807) (_b2 : -9223372036854775808 ≤ a2 ∧ a2 ≤ 9223372036854775807) :
    Calls Try.prog 10 #[.slice p0 l0.length cap0, .int .i64 a1, .int .i64 a2] w fun e w' => e = .returned (.bool true) ∧ Below w.heap.size w w' := by
  have H0 := Lib.hid h0
  clear h0
  by_cases hl : 70000 < l0.length
  · have hl' : (70000 : Int) < l0.length := by omega
    go_enter Try.func10, Try.ntmps10
    go_wp2_with fail
    refine (awake01_any _).mono ?_
    rintro e w1 ⟨rfl, hb1⟩
    go_wp2_with fail
    go_ret
    exact ⟨rfl, hb1⟩
  · have c1 := fun w1 (hb1 : Below w.heap.size w w1) => taketext_any p0 cap0 a1 a2 l0 w1 (H0.out.later hb1) c0 (by omega) b1
    have c2 := fun w1 (hb1 : Below w.heap.size w w1) => reftaketext_any p0 cap0 a1 a2 l0 w1 (H0.out.later hb1) c0 (by omega) b1
    obtain ⟨⟨x, y, z⟩, hr⟩ : ∃ r, r = textR l0 a1 a2 := ⟨_, rfl⟩
    rw [← hr] at c1 c2
    have C1 := Lib.hid c1
    have C2 := Lib.hid c2
    clear c1 c2 hr
    go_enter Try.func10, Try.ntmps10
    go_wp2_with fail
    refine (awake01_any _).mono ?_
    rintro e w1 ⟨rfl, hb1⟩
    go_wp2_with fail
    refine (C1.out _ hb1).mono ?_
    rintro e w2 ⟨rfl, hb2⟩
    go_wp2_with fail
    refine (C2.out _ (hb1.trans (hb2.mono hb1.size))).mono ?_
    rintro e w3 ⟨rfl, hb3⟩
    go_wp2_with fail
    go_ret
    exact ⟨ret_bool (by simp), (hb1.trans (hb2.mono hb1.size)).trans (hb3.mono (Nat.le_trans hb1.size hb2.size))⟩
end Go.Proofs.Ytnldjddmchfcoaa

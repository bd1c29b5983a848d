/- The reference's Unpack. -/
import Derived.Test.YtmebodjofcomlaaPks
import Derived.Deep.DeepCutAuto
namespace Go.Proofs.Ytmebodjofcomlaa
open Go.RowKit
set_option maxHeartbeats 1000000 in
theorem rtake (s : ByteArray) (a : Nat) (w : World) (h : a + 8 ≤ s.size) (hl : s.size ≤ 140737488355328) :
    Calls Try.prog 50 #[.string s, .int .i64 a, .int .i64 8] w fun e w' => e = .returned (.int .u64 (valN (((nats s).drop a).take 8) : Nat)) ∧ Below w.heap.size w w' := by
  have hcv := fun (W : World) => run_bytes_of_string (P := Try.prog) W 9 44 5 s Try.underlying9 Try.underlying44 Try.underlying5
  have ha : (a : Int) ≤ 140737488355328 := by omega
  go_enter Try.func50, Try.ntmps50
  go_wp2_with fail
  clear hcv
  generalize grownCap _ s.size 0 5 = gc
  have hBB := bb_row w s gc 5 ((bytesRow s gc).size + 1)
  have hH : Holds (w.alloc (.cells (bytesRow s gc) 5 ((bytesRow s gc).size, (bytesRow s gc).size + 1))).drew (.slice (some ⟨w.heap.size, 0, none⟩) (nats s).length gc) (nats s) := by
    have := hBB.drew.holds (nats_lt s) (nats s).length gc (Nat.le_refl _)
    rwa [List.take_of_length_le (Nat.le_refl _)] at this
  have hB : Below w.heap.size w (w.alloc (.cells (bytesRow s gc) 5 ((bytesRow s gc).size, (bytesRow s gc).size + 1))).drew := ((Below.refl _ _).alloc (Nat.le_refl _) _).drew
  have H0 := Lib.hid (And.intro hH hB)
  clear hBB hH hB
  generalize (w.alloc (.cells (bytesRow s gc) 5 ((bytesRow s gc).size, (bytesRow s gc).size + 1))).drew = w1 at *
  have hn : s.size = (nats s).length := (nats_length s).symm
  have := reftake_any (some ⟨w.heap.size, 0, none⟩) gc a 8 (nats s) w1 H0.out.1 (by rw [nats_length]; exact hl) (by omega) (by decide)
  rw [show takeR (nats s) (a : Int) 8 = (((valN (((nats s).drop a).take 8) : Nat) : Int), 0) from takeR_ok (nats s) a 8 (by decide) (by decide) (by rw [nats_length]; exact h), nats_length] at this
  have HT := Lib.hid this
  clear this hn
  refine HT.out.mono ?_
  rintro e w2 ⟨rfl, hb2⟩
  have H2 := Lib.hid (H0.out.2.trans (hb2.mono H0.out.2.size))
  clear hb2 H0 HT
  obtain ⟨V, hV⟩ : ∃ V, V = valN (((nats s).drop a).take 8) := ⟨_, rfl⟩
  rw [← hV]
  have HV := Lib.hid hV
  clear hV
  go_wp2_with fail
  go_ret
  exact ⟨by rw [← HV.out]; rfl, H2.out⟩
/-- A block of one's own, kept, and nothing older turned. -/
def BS (w : World) (cs : Array Value) (W : World) : Prop := Blk W w.heap.size cs ∧ Below w.heap.size w W
theorem BS.next {w W W' : World} {cs : Array Value} (h : BS w cs W) (hb : Below W.heap.size W W') : BS w cs W' := ⟨h.1.below hb h.1.1, h.2.trans (hb.mono h.2.size)⟩
theorem BS.drew {w W : World} {cs : Array Value} (h : BS w cs W) : BS w cs W.drew := ⟨h.1, h.2.drew⟩
theorem BS.new (w : World) (cs : Array Value) (t : TypeId) : BS w cs (w.alloc (.cells cs t)) := ⟨Blk.new w _ _ _ rfl, (Below.refl _ _).alloc (Nat.le_refl _) _⟩
def BG (w : World) (g : Nat) (cs : Array Value) (W : World) : Prop := BS w #[.int .i64 0, .int .i64 0, .int .i64 0, .int .i64 0, .int .i64 0, .int .i64 0, .int .i64 0, .int .i64 0, .int .i64 0, .int .i64 0, .int .i64 0, .int .u64 0] W ∧ Row W g cs ∧ w.heap.size < g
theorem BG.next {w W W' : World} {g : Nat} {cs : Array Value} (h : BG w g cs W) (hb : Below W.heap.size W W') : BG w g cs W' := ⟨h.1.next hb, h.2.1.below hb h.2.1.1, h.2.2⟩
theorem BG.drew {w W : World} {g : Nat} {cs : Array Value} (h : BG w g cs W) : BG w g cs W.drew := ⟨h.1.drew, h.2.1, h.2.2⟩
def RCut (w : World) (K0 K1 K2 N0 N1 N2 N3 N4 N5 N6 N7 P : Int) (s5 : Value) (wx : World) : Prop := ∃ g : Nat, s5 = .pointer (some ⟨g, 0, none⟩) ∧ BS w #[.int .i64 0, .int .i64 0, .int .i64 0, .int .i64 0, .int .i64 0, .int .i64 0, .int .i64 0, .int .i64 0, .int .i64 0, .int .i64 0, .int .i64 0, .int .u64 0] wx ∧ Blk wx g #[.int .i64 K0, .int .i64 K1, .int .i64 K2, .int .i64 N0, .int .i64 N1, .int .i64 N2, .int .i64 N3, .int .i64 N4, .int .i64 N5, .int .i64 N6, .int .i64 N7, .int .u64 P] ∧ w.heap.size < g
theorem rmeet {w W : World} {g : Nat} {K0 K1 K2 N0 N1 N2 N3 N4 N5 N6 N7 P : Int} (hb : Hid (BS w #[.int .i64 0, .int .i64 0, .int .i64 0, .int .i64 0, .int .i64 0, .int .i64 0, .int .i64 0, .int .i64 0, .int .i64 0, .int .i64 0, .int .i64 0, .int .u64 0] W)) (hg : Hid (Blk W g #[.int .i64 0, .int .i64 0, .int .i64 0, .int .i64 0, .int .i64 0, .int .i64 0, .int .i64 0, .int .i64 0, .int .i64 0, .int .i64 0, .int .i64 0, .int .u64 0] ∧ w.heap.size < g)) :
    RCut w K0 K1 K2 N0 N1 N2 N3 N4 N5 N6 N7 P (.pointer (some ⟨g, 0, none⟩)) (((((((((((((W.setCell ⟨g, 0, none⟩ (.int .i64 K0)).setCell ⟨g, 1, none⟩ (.int .i64 K1)).setCell ⟨g, 2, none⟩ (.int .i64 K2)).setCell ⟨g, 3, none⟩ (.int .i64 N0)).setCell ⟨g, 4, none⟩ (.int .i64 N1)).setCell ⟨g, 5, none⟩ (.int .i64 N2)).setCell ⟨g, 6, none⟩ (.int .i64 N3)).setCell ⟨g, 7, none⟩ (.int .i64 N4)).setCell ⟨g, 8, none⟩ (.int .i64 N5)).setCell ⟨g, 9, none⟩ (.int .i64 N6)).setCell ⟨g, 10, none⟩ (.int .i64 N7)).setCell ⟨g, 11, none⟩ (.int .u64 P))) := by
  obtain ⟨h1, h2⟩ := hg.out
  have hne : g ≠ w.heap.size := by omega
  have hle : w.heap.size ≤ g := by omega
  obtain ⟨b1, b2⟩ := hb.out
  refine ⟨g, rfl, ⟨?_, ?_⟩, ?_, h2⟩
  · exact ((((((((((((b1.other _ hne _).other _ hne _).other _ hne _).other _ hne _).other _ hne _).other _ hne _).other _ hne _).other _ hne _).other _ hne _).other _ hne _).other _ hne _).other _ hne _)
  · exact ((((((((((((b2.setCell (p := ⟨g, 0, none⟩) hle _).setCell (p := ⟨g, 1, none⟩) hle _).setCell (p := ⟨g, 2, none⟩) hle _).setCell (p := ⟨g, 3, none⟩) hle _).setCell (p := ⟨g, 4, none⟩) hle _).setCell (p := ⟨g, 5, none⟩) hle _).setCell (p := ⟨g, 6, none⟩) hle _).setCell (p := ⟨g, 7, none⟩) hle _).setCell (p := ⟨g, 8, none⟩) hle _).setCell (p := ⟨g, 9, none⟩) hle _).setCell (p := ⟨g, 10, none⟩) hle _).setCell (p := ⟨g, 11, none⟩) hle _)
  · have s0 : Blk (W.setCell ⟨g, 0, none⟩ (.int .i64 K0)) g #[.int .i64 K0, .int .i64 0, .int .i64 0, .int .i64 0, .int .i64 0, .int .i64 0, .int .i64 0, .int .i64 0, .int .i64 0, .int .i64 0, .int .i64 0, .int .u64 0] := h1.set_ 0 (.int .i64 K0)
    have s1 : Blk ((W.setCell ⟨g, 0, none⟩ (.int .i64 K0)).setCell ⟨g, 1, none⟩ (.int .i64 K1)) g #[.int .i64 K0, .int .i64 K1, .int .i64 0, .int .i64 0, .int .i64 0, .int .i64 0, .int .i64 0, .int .i64 0, .int .i64 0, .int .i64 0, .int .i64 0, .int .u64 0] := s0.set_ 1 (.int .i64 K1)
    have s2 : Blk (((W.setCell ⟨g, 0, none⟩ (.int .i64 K0)).setCell ⟨g, 1, none⟩ (.int .i64 K1)).setCell ⟨g, 2, none⟩ (.int .i64 K2)) g #[.int .i64 K0, .int .i64 K1, .int .i64 K2, .int .i64 0, .int .i64 0, .int .i64 0, .int .i64 0, .int .i64 0, .int .i64 0, .int .i64 0, .int .i64 0, .int .u64 0] := s1.set_ 2 (.int .i64 K2)
    have s3 : Blk ((((W.setCell ⟨g, 0, none⟩ (.int .i64 K0)).setCell ⟨g, 1, none⟩ (.int .i64 K1)).setCell ⟨g, 2, none⟩ (.int .i64 K2)).setCell ⟨g, 3, none⟩ (.int .i64 N0)) g #[.int .i64 K0, .int .i64 K1, .int .i64 K2, .int .i64 N0, .int .i64 0, .int .i64 0, .int .i64 0, .int .i64 0, .int .i64 0, .int .i64 0, .int .i64 0, .int .u64 0] := s2.set_ 3 (.int .i64 N0)
    have s4 : Blk (((((W.setCell ⟨g, 0, none⟩ (.int .i64 K0)).setCell ⟨g, 1, none⟩ (.int .i64 K1)).setCell ⟨g, 2, none⟩ (.int .i64 K2)).setCell ⟨g, 3, none⟩ (.int .i64 N0)).setCell ⟨g, 4, none⟩ (.int .i64 N1)) g #[.int .i64 K0, .int .i64 K1, .int .i64 K2, .int .i64 N0, .int .i64 N1, .int .i64 0, .int .i64 0, .int .i64 0, .int .i64 0, .int .i64 0, .int .i64 0, .int .u64 0] := s3.set_ 4 (.int .i64 N1)
    have s5 : Blk ((((((W.setCell ⟨g, 0, none⟩ (.int .i64 K0)).setCell ⟨g, 1, none⟩ (.int .i64 K1)).setCell ⟨g, 2, none⟩ (.int .i64 K2)).setCell ⟨g, 3, none⟩ (.int .i64 N0)).setCell ⟨g, 4, none⟩ (.int .i64 N1)).setCell ⟨g, 5, none⟩ (.int .i64 N2)) g #[.int .i64 K0, .int .i64 K1, .int .i64 K2, .int .i64 N0, .int .i64 N1, .int .i64 N2, .int .i64 0, .int .i64 0, .int .i64 0, .int .i64 0, .int .i64 0, .int .u64 0] := s4.set_ 5 (.int .i64 N2)
    have s6 : Blk (((((((W.setCell ⟨g, 0, none⟩ (.int .i64 K0)).setCell ⟨g, 1, none⟩ (.int .i64 K1)).setCell ⟨g, 2, none⟩ (.int .i64 K2)).setCell ⟨g, 3, none⟩ (.int .i64 N0)).setCell ⟨g, 4, none⟩ (.int .i64 N1)).setCell ⟨g, 5, none⟩ (.int .i64 N2)).setCell ⟨g, 6, none⟩ (.int .i64 N3)) g #[.int .i64 K0, .int .i64 K1, .int .i64 K2, .int .i64 N0, .int .i64 N1, .int .i64 N2, .int .i64 N3, .int .i64 0, .int .i64 0, .int .i64 0, .int .i64 0, .int .u64 0] := s5.set_ 6 (.int .i64 N3)
    have s7 : Blk ((((((((W.setCell ⟨g, 0, none⟩ (.int .i64 K0)).setCell ⟨g, 1, none⟩ (.int .i64 K1)).setCell ⟨g, 2, none⟩ (.int .i64 K2)).setCell ⟨g, 3, none⟩ (.int .i64 N0)).setCell ⟨g, 4, none⟩ (.int .i64 N1)).setCell ⟨g, 5, none⟩ (.int .i64 N2)).setCell ⟨g, 6, none⟩ (.int .i64 N3)).setCell ⟨g, 7, none⟩ (.int .i64 N4)) g #[.int .i64 K0, .int .i64 K1, .int .i64 K2, .int .i64 N0, .int .i64 N1, .int .i64 N2, .int .i64 N3, .int .i64 N4, .int .i64 0, .int .i64 0, .int .i64 0, .int .u64 0] := s6.set_ 7 (.int .i64 N4)
    have s8 : Blk (((((((((W.setCell ⟨g, 0, none⟩ (.int .i64 K0)).setCell ⟨g, 1, none⟩ (.int .i64 K1)).setCell ⟨g, 2, none⟩ (.int .i64 K2)).setCell ⟨g, 3, none⟩ (.int .i64 N0)).setCell ⟨g, 4, none⟩ (.int .i64 N1)).setCell ⟨g, 5, none⟩ (.int .i64 N2)).setCell ⟨g, 6, none⟩ (.int .i64 N3)).setCell ⟨g, 7, none⟩ (.int .i64 N4)).setCell ⟨g, 8, none⟩ (.int .i64 N5)) g #[.int .i64 K0, .int .i64 K1, .int .i64 K2, .int .i64 N0, .int .i64 N1, .int .i64 N2, .int .i64 N3, .int .i64 N4, .int .i64 N5, .int .i64 0, .int .i64 0, .int .u64 0] := s7.set_ 8 (.int .i64 N5)
    have s9 : Blk ((((((((((W.setCell ⟨g, 0, none⟩ (.int .i64 K0)).setCell ⟨g, 1, none⟩ (.int .i64 K1)).setCell ⟨g, 2, none⟩ (.int .i64 K2)).setCell ⟨g, 3, none⟩ (.int .i64 N0)).setCell ⟨g, 4, none⟩ (.int .i64 N1)).setCell ⟨g, 5, none⟩ (.int .i64 N2)).setCell ⟨g, 6, none⟩ (.int .i64 N3)).setCell ⟨g, 7, none⟩ (.int .i64 N4)).setCell ⟨g, 8, none⟩ (.int .i64 N5)).setCell ⟨g, 9, none⟩ (.int .i64 N6)) g #[.int .i64 K0, .int .i64 K1, .int .i64 K2, .int .i64 N0, .int .i64 N1, .int .i64 N2, .int .i64 N3, .int .i64 N4, .int .i64 N5, .int .i64 N6, .int .i64 0, .int .u64 0] := s8.set_ 9 (.int .i64 N6)
    have s10 : Blk (((((((((((W.setCell ⟨g, 0, none⟩ (.int .i64 K0)).setCell ⟨g, 1, none⟩ (.int .i64 K1)).setCell ⟨g, 2, none⟩ (.int .i64 K2)).setCell ⟨g, 3, none⟩ (.int .i64 N0)).setCell ⟨g, 4, none⟩ (.int .i64 N1)).setCell ⟨g, 5, none⟩ (.int .i64 N2)).setCell ⟨g, 6, none⟩ (.int .i64 N3)).setCell ⟨g, 7, none⟩ (.int .i64 N4)).setCell ⟨g, 8, none⟩ (.int .i64 N5)).setCell ⟨g, 9, none⟩ (.int .i64 N6)).setCell ⟨g, 10, none⟩ (.int .i64 N7)) g #[.int .i64 K0, .int .i64 K1, .int .i64 K2, .int .i64 N0, .int .i64 N1, .int .i64 N2, .int .i64 N3, .int .i64 N4, .int .i64 N5, .int .i64 N6, .int .i64 N7, .int .u64 0] := s9.set_ 10 (.int .i64 N7)
    have s11 : Blk ((((((((((((W.setCell ⟨g, 0, none⟩ (.int .i64 K0)).setCell ⟨g, 1, none⟩ (.int .i64 K1)).setCell ⟨g, 2, none⟩ (.int .i64 K2)).setCell ⟨g, 3, none⟩ (.int .i64 N0)).setCell ⟨g, 4, none⟩ (.int .i64 N1)).setCell ⟨g, 5, none⟩ (.int .i64 N2)).setCell ⟨g, 6, none⟩ (.int .i64 N3)).setCell ⟨g, 7, none⟩ (.int .i64 N4)).setCell ⟨g, 8, none⟩ (.int .i64 N5)).setCell ⟨g, 9, none⟩ (.int .i64 N6)).setCell ⟨g, 10, none⟩ (.int .i64 N7)).setCell ⟨g, 11, none⟩ (.int .u64 P)) g #[.int .i64 K0, .int .i64 K1, .int .i64 K2, .int .i64 N0, .int .i64 N1, .int .i64 N2, .int .i64 N3, .int .i64 N4, .int .i64 N5, .int .i64 N6, .int .i64 N7, .int .u64 P] := s10.set_ 11 (.int .u64 P)
    exact s11
set_option maxHeartbeats 8000000 in
theorem runpack_try (s : ByteArray) (w : World) (h : 128 ≤ s.size) (hl : s.size ≤ 140737488355328) : Calls Try.prog 43 #[.string s] w (UnPost s w) := by
  have h' : ¬ ((s.size : Int) < 128) := by omega
  have h'' : (128 : Int) ≤ s.size := by omega
  have hs0 : (8 : Int) < s.size := by omega
  have hs1 : (9 : Int) < s.size := by omega
  have hs2 : (10 : Int) < s.size := by omega
  have H0 := Lib.hid (BS.new w #[.int .i64 0, .int .i64 0, .int .i64 0, .int .i64 0, .int .i64 0, .int .i64 0, .int .i64 0, .int .i64 0, .int .i64 0, .int .i64 0, .int .i64 0, .int .u64 0] 34)
  have HL8 := Lib.hid (nats_lt s)
  obtain ⟨l, hl0⟩ : ∃ l, l = nats s := ⟨_, rfl⟩
  have HTK := Lib.hid (fun a h w => rtake s a w h hl)
  rw [← hl0] at HL8 HTK
  have HL0 := Lib.hid hl0
  obtain ⟨K0, hK0⟩ : ∃ x, x = uk l 0 := ⟨_, rfl⟩
  obtain ⟨K1, hK1⟩ : ∃ x, x = uk l 1 := ⟨_, rfl⟩
  obtain ⟨K2, hK2⟩ : ∃ x, x = uk l 2 := ⟨_, rfl⟩
  obtain ⟨V0, hV0⟩ : ∃ x : Nat, x = valN ((l.drop 24).take 8) := ⟨_, rfl⟩
  have HT0 : Hid (∀ w, Calls Try.prog 50 #[.string s, .int .i64 24, .int .i64 8] w fun e w' => e = .returned (.int .u64 V0) ∧ Below w.heap.size w w') := Lib.hid (fun w => by rw [hV0]; exact HTK.out 24 (by omega) w)
  obtain ⟨N0, hN0⟩ : ∃ x, x = un l 0 := ⟨_, rfl⟩
  have hw0 : wrap64 (V0 : Int) = N0 := by rw [hN0, hV0, ← IntWalk.i64_left]; rfl
  obtain ⟨V1, hV1⟩ : ∃ x : Nat, x = valN ((l.drop 32).take 8) := ⟨_, rfl⟩
  have HT1 : Hid (∀ w, Calls Try.prog 50 #[.string s, .int .i64 32, .int .i64 8] w fun e w' => e = .returned (.int .u64 V1) ∧ Below w.heap.size w w') := Lib.hid (fun w => by rw [hV1]; exact HTK.out 32 (by omega) w)
  obtain ⟨N1, hN1⟩ : ∃ x, x = un l 1 := ⟨_, rfl⟩
  have hw1 : wrap64 (V1 : Int) = N1 := by rw [hN1, hV1, ← IntWalk.i64_left]; rfl
  obtain ⟨V2, hV2⟩ : ∃ x : Nat, x = valN ((l.drop 40).take 8) := ⟨_, rfl⟩
  have HT2 : Hid (∀ w, Calls Try.prog 50 #[.string s, .int .i64 40, .int .i64 8] w fun e w' => e = .returned (.int .u64 V2) ∧ Below w.heap.size w w') := Lib.hid (fun w => by rw [hV2]; exact HTK.out 40 (by omega) w)
  obtain ⟨N2, hN2⟩ : ∃ x, x = un l 2 := ⟨_, rfl⟩
  have hw2 : wrap64 (V2 : Int) = N2 := by rw [hN2, hV2, ← IntWalk.i64_left]; rfl
  obtain ⟨V3, hV3⟩ : ∃ x : Nat, x = valN ((l.drop 48).take 8) := ⟨_, rfl⟩
  have HT3 : Hid (∀ w, Calls Try.prog 50 #[.string s, .int .i64 48, .int .i64 8] w fun e w' => e = .returned (.int .u64 V3) ∧ Below w.heap.size w w') := Lib.hid (fun w => by rw [hV3]; exact HTK.out 48 (by omega) w)
  obtain ⟨N3, hN3⟩ : ∃ x, x = un l 3 := ⟨_, rfl⟩
  have hw3 : wrap64 (V3 : Int) = N3 := by rw [hN3, hV3, ← IntWalk.i64_left]; rfl
  obtain ⟨V4, hV4⟩ : ∃ x : Nat, x = valN ((l.drop 56).take 8) := ⟨_, rfl⟩
  have HT4 : Hid (∀ w, Calls Try.prog 50 #[.string s, .int .i64 56, .int .i64 8] w fun e w' => e = .returned (.int .u64 V4) ∧ Below w.heap.size w w') := Lib.hid (fun w => by rw [hV4]; exact HTK.out 56 (by omega) w)
  obtain ⟨N4, hN4⟩ : ∃ x, x = un l 4 := ⟨_, rfl⟩
  have hw4 : wrap64 (V4 : Int) = N4 := by rw [hN4, hV4, ← IntWalk.i64_left]; rfl
  obtain ⟨V5, hV5⟩ : ∃ x : Nat, x = valN ((l.drop 64).take 8) := ⟨_, rfl⟩
  have HT5 : Hid (∀ w, Calls Try.prog 50 #[.string s, .int .i64 64, .int .i64 8] w fun e w' => e = .returned (.int .u64 V5) ∧ Below w.heap.size w w') := Lib.hid (fun w => by rw [hV5]; exact HTK.out 64 (by omega) w)
  obtain ⟨N5, hN5⟩ : ∃ x, x = un l 5 := ⟨_, rfl⟩
  have hw5 : wrap64 (V5 : Int) = N5 := by rw [hN5, hV5, ← IntWalk.i64_left]; rfl
  obtain ⟨V6, hV6⟩ : ∃ x : Nat, x = valN ((l.drop 72).take 8) := ⟨_, rfl⟩
  have HT6 : Hid (∀ w, Calls Try.prog 50 #[.string s, .int .i64 72, .int .i64 8] w fun e w' => e = .returned (.int .u64 V6) ∧ Below w.heap.size w w') := Lib.hid (fun w => by rw [hV6]; exact HTK.out 72 (by omega) w)
  obtain ⟨N6, hN6⟩ : ∃ x, x = un l 6 := ⟨_, rfl⟩
  have hw6 : wrap64 (V6 : Int) = N6 := by rw [hN6, hV6, ← IntWalk.i64_left]; rfl
  obtain ⟨V7, hV7⟩ : ∃ x : Nat, x = valN ((l.drop 80).take 8) := ⟨_, rfl⟩
  have HT7 : Hid (∀ w, Calls Try.prog 50 #[.string s, .int .i64 80, .int .i64 8] w fun e w' => e = .returned (.int .u64 V7) ∧ Below w.heap.size w w') := Lib.hid (fun w => by rw [hV7]; exact HTK.out 80 (by omega) w)
  obtain ⟨N7, hN7⟩ : ∃ x, x = un l 7 := ⟨_, rfl⟩
  have hw7 : wrap64 (V7 : Int) = N7 := by rw [hN7, hV7, ← IntWalk.i64_left]; rfl
  obtain ⟨VP, hVP⟩ : ∃ x : Nat, x = valN ((l.drop 16).take 8) := ⟨_, rfl⟩
  have HTP : Hid (∀ w, Calls Try.prog 50 #[.string s, .int .i64 16, .int .i64 8] w fun e w' => e = .returned (.int .u64 VP) ∧ Below w.heap.size w w') := Lib.hid (fun w => by rw [hVP]; exact HTK.out 16 (by omega) w)
  have HP : Hid ((VP : Int) = up l) := Lib.hid (by rw [hVP]; rfl)
  have hb0 : ((s[8]'(by omega)).toNat : Int) = K0 := by
    have := nats_getD s 8 (by omega)
    rw [hK0, hl0]; unfold uk; rw [← this]
  have hb1 : ((s[9]'(by omega)).toNat : Int) = K1 := by
    have := nats_getD s 9 (by omega)
    rw [hK1, hl0]; unfold uk; rw [← this]
  have hb2 : ((s[10]'(by omega)).toNat : Int) = K2 := by
    have := nats_getD s 10 (by omega)
    rw [hK2, hl0]; unfold uk; rw [← this]
  have hK8 : (0 ≤ K0 ∧ K0 ≤ 255) ∧ (0 ≤ K1 ∧ K1 ≤ 255) ∧ (0 ≤ K2 ∧ K2 ≤ 255) := by
    have a0 := (s[8]'(by omega)).toNat_lt; have a1 := (s[9]'(by omega)).toNat_lt; have a2 := (s[10]'(by omega)).toNat_lt; omega
  obtain ⟨⟨k0, k0'⟩, ⟨k1, k1'⟩, k2, k2'⟩ := hK8
  have HK := Lib.hid (And.intro hK0 (And.intro hK1 hK2))
  have HN := Lib.hid (And.intro hN0 (And.intro hN1 (And.intro hN2 (And.intro hN3 (And.intro hN4 (And.intro hN5 (And.intro hN6 hN7)))))))
  clear hN0 hV0 hN1 hV1 hN2 hV2 hN3 hV3 hN4 hV4 hN5 hV5 hN6 hV6 hN7 hV7 hVP hK0 hK1 hK2 HTK hl0
  go_enter Try.func43, Try.ntmps43
  go_upto_region 3 with fail
  go_cut [5] (RCut w (IntKind.i64.wrap K0) (IntKind.i64.wrap K1) (IntKind.i64.wrap K2) (IntKind.i64.wrap V0) (IntKind.i64.wrap V1) (IntKind.i64.wrap V2) (IntKind.i64.wrap V3) (IntKind.i64.wrap V4) (IntKind.i64.wrap V5) (IntKind.i64.wrap V6) (IntKind.i64.wrap V7) VP)
  case first =>
    refine wp_region_noPanic ?_
    refine wp_region_held_drew (S := fun _ => True) (by kernel_rfl) trivial (fun _ => ?_)
    have I0 := Lib.hid H0.out.drew
    generalize (w.alloc (.cells #[.int .i64 0, .int .i64 0, .int .i64 0, .int .i64 0, .int .i64 0, .int .i64 0, .int .i64 0, .int .i64 0, .int .i64 0, .int .i64 0, .int .i64 0, .int .u64 0] 34)).drew = x0 at *
    refine wpAnyH_take (i := 0) (oi := _) (v := ?_) rfl (by kernel_rfl) (by kernel_rfl) (by kernel_rfl) (fun _ _ _ h => h) (Or.inl ⟨by rfl, ?_⟩) trivial ?_
    rotate_left
    · intro w _
      go_simp
      first | done | rfl
    simp only [Act.put, List.setIfInBounds_toArray, List.set_cons_zero, List.set_cons_succ]
    refine wpAnyH_take (i := 3) (oi := _) (v := ?_) rfl (by kernel_rfl) (by kernel_rfl) (by kernel_rfl) (fun _ _ _ h => h) (Or.inl ⟨by rfl, ?_⟩) trivial ?_
    rotate_left
    · intro w _
      go_simp
      first | done | rfl
    simp only [Act.put, List.setIfInBounds_toArray, List.set_cons_zero, List.set_cons_succ]
    refine wpAnyH_take (i := 6) (oi := _) (v := ?_) rfl (by kernel_rfl) (by kernel_rfl) (by kernel_rfl) (fun _ _ _ h => h) (Or.inl ⟨by rfl, ?_⟩) trivial ?_
    rotate_left
    · intro w _
      go_simp
      first | done | rfl
    simp only [Act.put, List.setIfInBounds_toArray, List.set_cons_zero, List.set_cons_succ]
    refine wpAnyH_take (i := 9) (oi := _) (v := ?_) rfl (by kernel_rfl) (by kernel_rfl) (by kernel_rfl) (fun _ _ _ h => h) (Or.inl ⟨by rfl, ?_⟩) trivial ?_
    rotate_left
    · intro w _
      go_simp
      first | done | rfl
    simp only [Act.put, List.setIfInBounds_toArray, List.set_cons_zero, List.set_cons_succ]
    refine wpAnyH_take (i := 11) (oi := _) (v := ?_) rfl (by kernel_rfl) (by kernel_rfl) (by kernel_rfl) (fun _ _ _ h => h) (Or.inl ⟨by rfl, ?_⟩) trivial ?_
    rotate_left
    · intro w _
      go_simp
      first | done | rfl
    simp only [Act.put, List.setIfInBounds_toArray, List.set_cons_zero, List.set_cons_succ]
    refine wpAnyH_take (i := 14) (oi := _) (v := ?_) rfl (by kernel_rfl) (by kernel_rfl) (by kernel_rfl) (fun _ _ _ h => h) (Or.inl ⟨by rfl, ?_⟩) trivial ?_
    rotate_left
    · intro w _
      go_simp
      first | done | rfl
    simp only [Act.put, List.setIfInBounds_toArray, List.set_cons_zero, List.set_cons_succ]
    refine wpAnyH_take (i := 17) (oi := _) (v := ?_) rfl (by kernel_rfl) (by kernel_rfl) (by kernel_rfl) (fun _ _ _ h => h) (Or.inl ⟨by rfl, ?_⟩) trivial ?_
    rotate_left
    · intro w _
      go_simp
      first | done | rfl
    simp only [Act.put, List.setIfInBounds_toArray, List.set_cons_zero, List.set_cons_succ]
    refine wpAnyH_take (i := 20) (oi := _) (v := ?_) rfl (by kernel_rfl) (by kernel_rfl) (by kernel_rfl) (fun _ _ _ h => h) (Or.inl ⟨by rfl, ?_⟩) trivial ?_
    rotate_left
    · intro w _
      go_simp
      first | done | rfl
    simp only [Act.put, List.setIfInBounds_toArray, List.set_cons_zero, List.set_cons_succ]
    refine wpAnyH_take (i := 23) (oi := _) (v := ?_) rfl (by kernel_rfl) (by kernel_rfl) (by kernel_rfl) (fun _ _ _ h => h) (Or.inl ⟨by rfl, ?_⟩) trivial ?_
    rotate_left
    · intro w _
      go_simp
      first | done | rfl
    simp only [Act.put, List.setIfInBounds_toArray, List.set_cons_zero, List.set_cons_succ]
    refine wpAnyH_take (i := 26) (oi := _) (v := ?_) rfl (by kernel_rfl) (by kernel_rfl) (by kernel_rfl) (fun _ _ _ h => h) (Or.inl ⟨by rfl, ?_⟩) trivial ?_
    rotate_left
    · intro w _
      go_simp
      first | done | rfl
    simp only [Act.put, List.setIfInBounds_toArray, List.set_cons_zero, List.set_cons_succ]
    refine wpAnyH_take (i := 29) (oi := _) (v := ?_) rfl (by kernel_rfl) (by kernel_rfl) (by kernel_rfl) (fun _ _ _ h => h) (Or.inl ⟨by rfl, ?_⟩) trivial ?_
    rotate_left
    · intro w _
      go_simp
      first | done | rfl
    simp only [Act.put, List.setIfInBounds_toArray, List.set_cons_zero, List.set_cons_succ]
    refine wpAnyH_take (i := 32) (oi := _) (v := ?_) rfl (by kernel_rfl) (by kernel_rfl) (by kernel_rfl) (fun _ _ _ h => h) (Or.inl ⟨by rfl, ?_⟩) trivial ?_
    rotate_left
    · intro w _
      go_simp
      first | done | rfl
    simp only [Act.put, List.setIfInBounds_toArray, List.set_cons_zero, List.set_cons_succ]
    refine wpAnyH_take (i := 1) (oi := _) (v := ?_) rfl (by kernel_rfl) (by kernel_rfl) (by kernel_rfl) (fun _ _ _ h => h) (Or.inl ⟨by rfl, ?_⟩) trivial ?_
    rotate_left
    · intro w _
      go_simp
      first | done | rfl
    simp only [Act.put, List.setIfInBounds_toArray, List.set_cons_zero, List.set_cons_succ]
    refine wpAnyH_take (i := 2) (oi := _) (v := ?_) rfl (by kernel_rfl) (by kernel_rfl) (by kernel_rfl) (fun _ _ _ h => h) (Or.inl ⟨by rfl, ?_⟩) trivial ?_
    rotate_left
    · intro w _
      go_simp
      first | done | rfl
    simp only [Act.put, List.setIfInBounds_toArray, List.set_cons_zero, List.set_cons_succ]
    refine wpAnyH_take (i := 4) (oi := _) (v := ?_) rfl (by kernel_rfl) (by kernel_rfl) (by kernel_rfl) (fun _ _ _ h => h) (Or.inl ⟨by rfl, ?_⟩) trivial ?_
    rotate_left
    · intro w _
      go_simp
      first | done | rfl
    simp only [Act.put, List.setIfInBounds_toArray, List.set_cons_zero, List.set_cons_succ]
    refine wpAnyH_take (i := 5) (oi := _) (v := ?_) rfl (by kernel_rfl) (by kernel_rfl) (by kernel_rfl) (fun _ _ _ h => h) (Or.inl ⟨by rfl, ?_⟩) trivial ?_
    rotate_left
    · intro w _
      go_simp
      first | done | rfl
    simp only [Act.put, List.setIfInBounds_toArray, List.set_cons_zero, List.set_cons_succ]
    refine wpAnyH_take (i := 7) (oi := _) (v := ?_) rfl (by kernel_rfl) (by kernel_rfl) (by kernel_rfl) (fun _ _ _ h => h) (Or.inl ⟨by rfl, ?_⟩) trivial ?_
    rotate_left
    · intro w _
      go_simp
      first | done | rfl
    simp only [Act.put, List.setIfInBounds_toArray, List.set_cons_zero, List.set_cons_succ]
    refine wpAnyH_take (i := 8) (oi := _) (v := ?_) rfl (by kernel_rfl) (by kernel_rfl) (by kernel_rfl) (fun _ _ _ h => h) (Or.inl ⟨by rfl, ?_⟩) trivial ?_
    rotate_left
    · intro w _
      go_simp
      first | done | rfl
    simp only [Act.put, List.setIfInBounds_toArray, List.set_cons_zero, List.set_cons_succ]
    refine wpAnyH_ready (rs := [10, 36]) (by kernel_rfl) (by simp) ?_
    refine AllReadyH.cons (o := { dst := some 22, op := .call { callee := .value (.func 50), args := #[.tmp 21, .const (.int .i64 16), .const (.int .i64 8)], argTypes := #[9, 3, 3] }, type := 22, pos := _, after := _, guard := none }) rfl (fun K hK => ?_) ?_
    · go_simp
      refine (HTP.out _).mono ?_
      rintro e x1 ⟨rfl, hb⟩
      refine hK.out _ _ trivial (fun _ => ?_)
      clear hK K
      have I1 := Lib.hid (I0.out.next hb)
      clear hb I0
      refine wpAnyH_ready (rs := [12, 36]) (by kernel_rfl) (by simp) ?_
      refine AllReadyH.cons (o := { dst := some 24, op := .call { callee := .value (.func 50), args := #[.tmp 23, .const (.int .i64 24), .const (.int .i64 8)], argTypes := #[9, 3, 3] }, type := 22, pos := _, after := _, guard := none }) rfl (fun K hK => ?_) ?_
      · go_simp
        refine (HT0.out _).mono ?_
        rintro e x2 ⟨rfl, hb⟩
        refine hK.out _ _ trivial (fun _ => ?_)
        clear hK K
        have I2 := Lib.hid (I1.out.next hb)
        clear hb I1
        refine wpAnyH_take (i := 13) (oi := { dst := some 25, op := .convert 22 3 (.tmp 24), type := _, pos := _, after := _, guard := none }) (v := ?_) rfl (by kernel_rfl) (by kernel_rfl) (by kernel_rfl) (fun _ _ _ h => h) (Or.inl ⟨by rfl, ?_⟩) trivial ?_
        rotate_left
        · intro w _
          go_simp
          first | done | rfl
        simp only [Act.put, List.setIfInBounds_toArray, List.set_cons_zero, List.set_cons_succ]
        refine wpAnyH_ready (rs := [15, 36]) (by kernel_rfl) (by simp) ?_
        refine AllReadyH.cons (o := { dst := some 27, op := .call { callee := .value (.func 50), args := #[.tmp 26, .const (.int .i64 32), .const (.int .i64 8)], argTypes := #[9, 3, 3] }, type := 22, pos := _, after := _, guard := none }) rfl (fun K hK => ?_) ?_
        · go_simp
          refine (HT1.out _).mono ?_
          rintro e x3 ⟨rfl, hb⟩
          refine hK.out _ _ trivial (fun _ => ?_)
          clear hK K
          have I3 := Lib.hid (I2.out.next hb)
          clear hb I2
          refine wpAnyH_take (i := 16) (oi := { dst := some 28, op := .convert 22 3 (.tmp 27), type := _, pos := _, after := _, guard := none }) (v := ?_) rfl (by kernel_rfl) (by kernel_rfl) (by kernel_rfl) (fun _ _ _ h => h) (Or.inl ⟨by rfl, ?_⟩) trivial ?_
          rotate_left
          · intro w _
            go_simp
            first | done | rfl
          simp only [Act.put, List.setIfInBounds_toArray, List.set_cons_zero, List.set_cons_succ]
          refine wpAnyH_ready (rs := [18, 36]) (by kernel_rfl) (by simp) ?_
          refine AllReadyH.cons (o := { dst := some 30, op := .call { callee := .value (.func 50), args := #[.tmp 29, .const (.int .i64 40), .const (.int .i64 8)], argTypes := #[9, 3, 3] }, type := 22, pos := _, after := _, guard := none }) rfl (fun K hK => ?_) ?_
          · go_simp
            refine (HT2.out _).mono ?_
            rintro e x4 ⟨rfl, hb⟩
            refine hK.out _ _ trivial (fun _ => ?_)
            clear hK K
            have I4 := Lib.hid (I3.out.next hb)
            clear hb I3
            refine wpAnyH_take (i := 19) (oi := { dst := some 31, op := .convert 22 3 (.tmp 30), type := _, pos := _, after := _, guard := none }) (v := ?_) rfl (by kernel_rfl) (by kernel_rfl) (by kernel_rfl) (fun _ _ _ h => h) (Or.inl ⟨by rfl, ?_⟩) trivial ?_
            rotate_left
            · intro w _
              go_simp
              first | done | rfl
            simp only [Act.put, List.setIfInBounds_toArray, List.set_cons_zero, List.set_cons_succ]
            refine wpAnyH_ready (rs := [21, 36]) (by kernel_rfl) (by simp) ?_
            refine AllReadyH.cons (o := { dst := some 33, op := .call { callee := .value (.func 50), args := #[.tmp 32, .const (.int .i64 48), .const (.int .i64 8)], argTypes := #[9, 3, 3] }, type := 22, pos := _, after := _, guard := none }) rfl (fun K hK => ?_) ?_
            · go_simp
              refine (HT3.out _).mono ?_
              rintro e x5 ⟨rfl, hb⟩
              refine hK.out _ _ trivial (fun _ => ?_)
              clear hK K
              have I5 := Lib.hid (I4.out.next hb)
              clear hb I4
              refine wpAnyH_take (i := 22) (oi := { dst := some 34, op := .convert 22 3 (.tmp 33), type := _, pos := _, after := _, guard := none }) (v := ?_) rfl (by kernel_rfl) (by kernel_rfl) (by kernel_rfl) (fun _ _ _ h => h) (Or.inl ⟨by rfl, ?_⟩) trivial ?_
              rotate_left
              · intro w _
                go_simp
                first | done | rfl
              simp only [Act.put, List.setIfInBounds_toArray, List.set_cons_zero, List.set_cons_succ]
              refine wpAnyH_ready (rs := [24, 36]) (by kernel_rfl) (by simp) ?_
              refine AllReadyH.cons (o := { dst := some 36, op := .call { callee := .value (.func 50), args := #[.tmp 35, .const (.int .i64 56), .const (.int .i64 8)], argTypes := #[9, 3, 3] }, type := 22, pos := _, after := _, guard := none }) rfl (fun K hK => ?_) ?_
              · go_simp
                refine (HT4.out _).mono ?_
                rintro e x6 ⟨rfl, hb⟩
                refine hK.out _ _ trivial (fun _ => ?_)
                clear hK K
                have I6 := Lib.hid (I5.out.next hb)
                clear hb I5
                refine wpAnyH_take (i := 25) (oi := { dst := some 37, op := .convert 22 3 (.tmp 36), type := _, pos := _, after := _, guard := none }) (v := ?_) rfl (by kernel_rfl) (by kernel_rfl) (by kernel_rfl) (fun _ _ _ h => h) (Or.inl ⟨by rfl, ?_⟩) trivial ?_
                rotate_left
                · intro w _
                  go_simp
                  first | done | rfl
                simp only [Act.put, List.setIfInBounds_toArray, List.set_cons_zero, List.set_cons_succ]
                refine wpAnyH_ready (rs := [27, 36]) (by kernel_rfl) (by simp) ?_
                refine AllReadyH.cons (o := { dst := some 39, op := .call { callee := .value (.func 50), args := #[.tmp 38, .const (.int .i64 64), .const (.int .i64 8)], argTypes := #[9, 3, 3] }, type := 22, pos := _, after := _, guard := none }) rfl (fun K hK => ?_) ?_
                · go_simp
                  refine (HT5.out _).mono ?_
                  rintro e x7 ⟨rfl, hb⟩
                  refine hK.out _ _ trivial (fun _ => ?_)
                  clear hK K
                  have I7 := Lib.hid (I6.out.next hb)
                  clear hb I6
                  refine wpAnyH_take (i := 28) (oi := { dst := some 40, op := .convert 22 3 (.tmp 39), type := _, pos := _, after := _, guard := none }) (v := ?_) rfl (by kernel_rfl) (by kernel_rfl) (by kernel_rfl) (fun _ _ _ h => h) (Or.inl ⟨by rfl, ?_⟩) trivial ?_
                  rotate_left
                  · intro w _
                    go_simp
                    first | done | rfl
                  simp only [Act.put, List.setIfInBounds_toArray, List.set_cons_zero, List.set_cons_succ]
                  refine wpAnyH_ready (rs := [30, 36]) (by kernel_rfl) (by simp) ?_
                  refine AllReadyH.cons (o := { dst := some 42, op := .call { callee := .value (.func 50), args := #[.tmp 41, .const (.int .i64 72), .const (.int .i64 8)], argTypes := #[9, 3, 3] }, type := 22, pos := _, after := _, guard := none }) rfl (fun K hK => ?_) ?_
                  · go_simp
                    refine (HT6.out _).mono ?_
                    rintro e x8 ⟨rfl, hb⟩
                    refine hK.out _ _ trivial (fun _ => ?_)
                    clear hK K
                    have I8 := Lib.hid (I7.out.next hb)
                    clear hb I7
                    refine wpAnyH_take (i := 31) (oi := { dst := some 43, op := .convert 22 3 (.tmp 42), type := _, pos := _, after := _, guard := none }) (v := ?_) rfl (by kernel_rfl) (by kernel_rfl) (by kernel_rfl) (fun _ _ _ h => h) (Or.inl ⟨by rfl, ?_⟩) trivial ?_
                    rotate_left
                    · intro w _
                      go_simp
                      first | done | rfl
                    simp only [Act.put, List.setIfInBounds_toArray, List.set_cons_zero, List.set_cons_succ]
                    refine wpAnyH_ready (rs := [33, 36]) (by kernel_rfl) (by simp) ?_
                    refine AllReadyH.cons (o := { dst := some 45, op := .call { callee := .value (.func 50), args := #[.tmp 44, .const (.int .i64 80), .const (.int .i64 8)], argTypes := #[9, 3, 3] }, type := 22, pos := _, after := _, guard := none }) rfl (fun K hK => ?_) ?_
                    · go_simp
                      refine (HT7.out _).mono ?_
                      rintro e x9 ⟨rfl, hb⟩
                      refine hK.out _ _ trivial (fun _ => ?_)
                      clear hK K
                      have I9 := Lib.hid (I8.out.next hb)
                      clear hb I8
                      refine wpAnyH_take (i := 34) (oi := { dst := some 46, op := .convert 22 3 (.tmp 45), type := _, pos := _, after := _, guard := none }) (v := ?_) rfl (by kernel_rfl) (by kernel_rfl) (by kernel_rfl) (fun _ _ _ h => h) (Or.inl ⟨by rfl, ?_⟩) trivial ?_
                      rotate_left
                      · intro w _
                        go_simp
                        first | done | rfl
                      simp only [Act.put, List.setIfInBounds_toArray, List.set_cons_zero, List.set_cons_succ]
                      refine wpAnyH_take (i := 35) (oi := _) (v := ?_) rfl (by kernel_rfl) (by kernel_rfl) (by kernel_rfl) (fun _ _ _ h => h) (Or.inl ⟨by rfl, ?_⟩) trivial ?_
                      rotate_left
                      · intro w _
                        go_simp
                        first | done | rfl
                      simp only [Act.put, List.setIfInBounds_toArray, List.set_cons_zero, List.set_cons_succ]
                      refine wpAnyH_ready (rs := [36]) (by kernel_rfl) (by simp) ?_
                      refine AllReadyH.cons (o := { dst := some 5, op := .alloc 34, type := _, pos := _, after := _, guard := none }) rfl (fun K hK => ?_) ?_
                      · go_simp
                        refine hK.out _ _ trivial (fun _ => ?_)
                        clear hK K
                        have I10 := Lib.hid (I9.out.next ((Below.refl _ _).alloc (Nat.le_refl _) (.cells #[.int .i64 0, .int .i64 0, .int .i64 0, .int .i64 0, .int .i64 0, .int .i64 0, .int .i64 0, .int .i64 0, .int .i64 0, .int .i64 0, .int .i64 0, .int .u64 0] 34)))
                        have G10 := Lib.hid (And.intro (Blk.new x9 #[.int .i64 0, .int .i64 0, .int .i64 0, .int .i64 0, .int .i64 0, .int .i64 0, .int .i64 0, .int .i64 0, .int .i64 0, .int .i64 0, .int .i64 0, .int .u64 0] 34 x9.heap.size rfl) I9.out.1.1)
                        clear I9
                        generalize (x9.alloc (.cells #[.int .i64 0, .int .i64 0, .int .i64 0, .int .i64 0, .int .i64 0, .int .i64 0, .int .i64 0, .int .i64 0, .int .i64 0, .int .i64 0, .int .i64 0, .int .u64 0] 34)) = x10 at *
                        obtain ⟨r0, f0⟩ := G10.out.1.2 0 _ rfl
                        obtain ⟨r1, f1⟩ := G10.out.1.2 1 _ rfl
                        obtain ⟨r2, f2⟩ := G10.out.1.2 2 _ rfl
                        obtain ⟨r3, f3⟩ := G10.out.1.2 3 _ rfl
                        obtain ⟨r4, f4⟩ := G10.out.1.2 4 _ rfl
                        obtain ⟨r5, f5⟩ := G10.out.1.2 5 _ rfl
                        obtain ⟨r6, f6⟩ := G10.out.1.2 6 _ rfl
                        obtain ⟨r7, f7⟩ := G10.out.1.2 7 _ rfl
                        obtain ⟨r8, f8⟩ := G10.out.1.2 8 _ rfl
                        obtain ⟨r9, f9⟩ := G10.out.1.2 9 _ rfl
                        obtain ⟨r10, f10⟩ := G10.out.1.2 10 _ rfl
                        obtain ⟨r11, f11⟩ := G10.out.1.2 11 _ rfl
                        refine wpAnyH_ready (rs := [37]) (by kernel_rfl) (by simp) ?_
                        refine AllReadyH.cons (o := _) rfl (fun K hK => ?_) ?_
                        · go_simp
                          refine hK.out _ _ trivial (fun _ => ?_)
                          clear hK K
                          refine wpAnyH_done (by kernel_rfl) ?_ _
                          refine NoPanic.normal ?_
                          go_wp2_with fail
                          go_meet
                          exact rmeet I10 G10
                        exact AllReadyH.nil
                      exact AllReadyH.nil
                    refine AllReadyH.cons (o := { dst := some 5, op := .alloc 34, type := _, pos := _, after := _, guard := none }) rfl (fun K hK => ?_) ?_
                    · go_simp
                      refine hK.out _ _ trivial (fun _ => ?_)
                      clear hK K
                      have I9 := Lib.hid (I8.out.next ((Below.refl _ _).alloc (Nat.le_refl _) (.cells #[.int .i64 0, .int .i64 0, .int .i64 0, .int .i64 0, .int .i64 0, .int .i64 0, .int .i64 0, .int .i64 0, .int .i64 0, .int .i64 0, .int .i64 0, .int .u64 0] 34)))
                      have G9 := Lib.hid (And.intro (Blk.new x8 #[.int .i64 0, .int .i64 0, .int .i64 0, .int .i64 0, .int .i64 0, .int .i64 0, .int .i64 0, .int .i64 0, .int .i64 0, .int .i64 0, .int .i64 0, .int .u64 0] 34 x8.heap.size rfl) I8.out.1.1)
                      clear I8
                      generalize (x8.alloc (.cells #[.int .i64 0, .int .i64 0, .int .i64 0, .int .i64 0, .int .i64 0, .int .i64 0, .int .i64 0, .int .i64 0, .int .i64 0, .int .i64 0, .int .i64 0, .int .u64 0] 34)) = x9 at *
                      refine wpAnyH_ready (rs := [33]) (by kernel_rfl) (by simp) ?_
                      refine AllReadyH.cons (o := { dst := some 45, op := .call { callee := .value (.func 50), args := #[.tmp 44, .const (.int .i64 80), .const (.int .i64 8)], argTypes := #[9, 3, 3] }, type := 22, pos := _, after := _, guard := none }) rfl (fun K hK => ?_) ?_
                      · go_simp
                        refine (HT7.out _).mono ?_
                        rintro e x10 ⟨rfl, hb⟩
                        refine hK.out _ _ trivial (fun _ => ?_)
                        clear hK K
                        have I10 := Lib.hid (I9.out.next hb)
                        have G10 := Lib.hid (And.intro (G9.out.1.later hb) G9.out.2)
                        clear hb I9 G9
                        refine wpAnyH_take (i := 34) (oi := { dst := some 46, op := .convert 22 3 (.tmp 45), type := _, pos := _, after := _, guard := none }) (v := ?_) rfl (by kernel_rfl) (by kernel_rfl) (by kernel_rfl) (fun _ _ _ h => h) (Or.inl ⟨by rfl, ?_⟩) trivial ?_
                        rotate_left
                        · intro w _
                          go_simp
                          first | done | rfl
                        simp only [Act.put, List.setIfInBounds_toArray, List.set_cons_zero, List.set_cons_succ]
                        refine wpAnyH_take (i := 35) (oi := _) (v := ?_) rfl (by kernel_rfl) (by kernel_rfl) (by kernel_rfl) (fun _ _ _ h => h) (Or.inl ⟨by rfl, ?_⟩) trivial ?_
                        rotate_left
                        · intro w _
                          go_simp
                          first | done | rfl
                        simp only [Act.put, List.setIfInBounds_toArray, List.set_cons_zero, List.set_cons_succ]
                        obtain ⟨r0, f0⟩ := G10.out.1.2 0 _ rfl
                        obtain ⟨r1, f1⟩ := G10.out.1.2 1 _ rfl
                        obtain ⟨r2, f2⟩ := G10.out.1.2 2 _ rfl
                        obtain ⟨r3, f3⟩ := G10.out.1.2 3 _ rfl
                        obtain ⟨r4, f4⟩ := G10.out.1.2 4 _ rfl
                        obtain ⟨r5, f5⟩ := G10.out.1.2 5 _ rfl
                        obtain ⟨r6, f6⟩ := G10.out.1.2 6 _ rfl
                        obtain ⟨r7, f7⟩ := G10.out.1.2 7 _ rfl
                        obtain ⟨r8, f8⟩ := G10.out.1.2 8 _ rfl
                        obtain ⟨r9, f9⟩ := G10.out.1.2 9 _ rfl
                        obtain ⟨r10, f10⟩ := G10.out.1.2 10 _ rfl
                        obtain ⟨r11, f11⟩ := G10.out.1.2 11 _ rfl
                        refine wpAnyH_ready (rs := [37]) (by kernel_rfl) (by simp) ?_
                        refine AllReadyH.cons (o := _) rfl (fun K hK => ?_) ?_
                        · go_simp
                          refine hK.out _ _ trivial (fun _ => ?_)
                          clear hK K
                          refine wpAnyH_done (by kernel_rfl) ?_ _
                          refine NoPanic.normal ?_
                          go_wp2_with fail
                          go_meet
                          exact rmeet I10 G10
                        exact AllReadyH.nil
                      exact AllReadyH.nil
                    exact AllReadyH.nil
                  refine AllReadyH.cons (o := { dst := some 5, op := .alloc 34, type := _, pos := _, after := _, guard := none }) rfl (fun K hK => ?_) ?_
                  · go_simp
                    refine hK.out _ _ trivial (fun _ => ?_)
                    clear hK K
                    have I8 := Lib.hid (I7.out.next ((Below.refl _ _).alloc (Nat.le_refl _) (.cells #[.int .i64 0, .int .i64 0, .int .i64 0, .int .i64 0, .int .i64 0, .int .i64 0, .int .i64 0, .int .i64 0, .int .i64 0, .int .i64 0, .int .i64 0, .int .u64 0] 34)))
                    have G8 := Lib.hid (And.intro (Blk.new x7 #[.int .i64 0, .int .i64 0, .int .i64 0, .int .i64 0, .int .i64 0, .int .i64 0, .int .i64 0, .int .i64 0, .int .i64 0, .int .i64 0, .int .i64 0, .int .u64 0] 34 x7.heap.size rfl) I7.out.1.1)
                    clear I7
                    generalize (x7.alloc (.cells #[.int .i64 0, .int .i64 0, .int .i64 0, .int .i64 0, .int .i64 0, .int .i64 0, .int .i64 0, .int .i64 0, .int .i64 0, .int .i64 0, .int .i64 0, .int .u64 0] 34)) = x8 at *
                    refine wpAnyH_ready (rs := [30]) (by kernel_rfl) (by simp) ?_
                    refine AllReadyH.cons (o := { dst := some 42, op := .call { callee := .value (.func 50), args := #[.tmp 41, .const (.int .i64 72), .const (.int .i64 8)], argTypes := #[9, 3, 3] }, type := 22, pos := _, after := _, guard := none }) rfl (fun K hK => ?_) ?_
                    · go_simp
                      refine (HT6.out _).mono ?_
                      rintro e x9 ⟨rfl, hb⟩
                      refine hK.out _ _ trivial (fun _ => ?_)
                      clear hK K
                      have I9 := Lib.hid (I8.out.next hb)
                      have G9 := Lib.hid (And.intro (G8.out.1.later hb) G8.out.2)
                      clear hb I8 G8
                      refine wpAnyH_take (i := 31) (oi := { dst := some 43, op := .convert 22 3 (.tmp 42), type := _, pos := _, after := _, guard := none }) (v := ?_) rfl (by kernel_rfl) (by kernel_rfl) (by kernel_rfl) (fun _ _ _ h => h) (Or.inl ⟨by rfl, ?_⟩) trivial ?_
                      rotate_left
                      · intro w _
                        go_simp
                        first | done | rfl
                      simp only [Act.put, List.setIfInBounds_toArray, List.set_cons_zero, List.set_cons_succ]
                      refine wpAnyH_ready (rs := [33]) (by kernel_rfl) (by simp) ?_
                      refine AllReadyH.cons (o := { dst := some 45, op := .call { callee := .value (.func 50), args := #[.tmp 44, .const (.int .i64 80), .const (.int .i64 8)], argTypes := #[9, 3, 3] }, type := 22, pos := _, after := _, guard := none }) rfl (fun K hK => ?_) ?_
                      · go_simp
                        refine (HT7.out _).mono ?_
                        rintro e x10 ⟨rfl, hb⟩
                        refine hK.out _ _ trivial (fun _ => ?_)
                        clear hK K
                        have I10 := Lib.hid (I9.out.next hb)
                        have G10 := Lib.hid (And.intro (G9.out.1.later hb) G9.out.2)
                        clear hb I9 G9
                        refine wpAnyH_take (i := 34) (oi := { dst := some 46, op := .convert 22 3 (.tmp 45), type := _, pos := _, after := _, guard := none }) (v := ?_) rfl (by kernel_rfl) (by kernel_rfl) (by kernel_rfl) (fun _ _ _ h => h) (Or.inl ⟨by rfl, ?_⟩) trivial ?_
                        rotate_left
                        · intro w _
                          go_simp
                          first | done | rfl
                        simp only [Act.put, List.setIfInBounds_toArray, List.set_cons_zero, List.set_cons_succ]
                        refine wpAnyH_take (i := 35) (oi := _) (v := ?_) rfl (by kernel_rfl) (by kernel_rfl) (by kernel_rfl) (fun _ _ _ h => h) (Or.inl ⟨by rfl, ?_⟩) trivial ?_
                        rotate_left
                        · intro w _
                          go_simp
                          first | done | rfl
                        simp only [Act.put, List.setIfInBounds_toArray, List.set_cons_zero, List.set_cons_succ]
                        obtain ⟨r0, f0⟩ := G10.out.1.2 0 _ rfl
                        obtain ⟨r1, f1⟩ := G10.out.1.2 1 _ rfl
                        obtain ⟨r2, f2⟩ := G10.out.1.2 2 _ rfl
                        obtain ⟨r3, f3⟩ := G10.out.1.2 3 _ rfl
                        obtain ⟨r4, f4⟩ := G10.out.1.2 4 _ rfl
                        obtain ⟨r5, f5⟩ := G10.out.1.2 5 _ rfl
                        obtain ⟨r6, f6⟩ := G10.out.1.2 6 _ rfl
                        obtain ⟨r7, f7⟩ := G10.out.1.2 7 _ rfl
                        obtain ⟨r8, f8⟩ := G10.out.1.2 8 _ rfl
                        obtain ⟨r9, f9⟩ := G10.out.1.2 9 _ rfl
                        obtain ⟨r10, f10⟩ := G10.out.1.2 10 _ rfl
                        obtain ⟨r11, f11⟩ := G10.out.1.2 11 _ rfl
                        refine wpAnyH_ready (rs := [37]) (by kernel_rfl) (by simp) ?_
                        refine AllReadyH.cons (o := _) rfl (fun K hK => ?_) ?_
                        · go_simp
                          refine hK.out _ _ trivial (fun _ => ?_)
                          clear hK K
                          refine wpAnyH_done (by kernel_rfl) ?_ _
                          refine NoPanic.normal ?_
                          go_wp2_with fail
                          go_meet
                          exact rmeet I10 G10
                        exact AllReadyH.nil
                      exact AllReadyH.nil
                    exact AllReadyH.nil
                  exact AllReadyH.nil
                refine AllReadyH.cons (o := { dst := some 5, op := .alloc 34, type := _, pos := _, after := _, guard := none }) rfl (fun K hK => ?_) ?_
                · go_simp
                  refine hK.out _ _ trivial (fun _ => ?_)
                  clear hK K
                  have I7 := Lib.hid (I6.out.next ((Below.refl _ _).alloc (Nat.le_refl _) (.cells #[.int .i64 0, .int .i64 0, .int .i64 0, .int .i64 0, .int .i64 0, .int .i64 0, .int .i64 0, .int .i64 0, .int .i64 0, .int .i64 0, .int .i64 0, .int .u64 0] 34)))
                  have G7 := Lib.hid (And.intro (Blk.new x6 #[.int .i64 0, .int .i64 0, .int .i64 0, .int .i64 0, .int .i64 0, .int .i64 0, .int .i64 0, .int .i64 0, .int .i64 0, .int .i64 0, .int .i64 0, .int .u64 0] 34 x6.heap.size rfl) I6.out.1.1)
                  clear I6
                  generalize (x6.alloc (.cells #[.int .i64 0, .int .i64 0, .int .i64 0, .int .i64 0, .int .i64 0, .int .i64 0, .int .i64 0, .int .i64 0, .int .i64 0, .int .i64 0, .int .i64 0, .int .u64 0] 34)) = x7 at *
                  refine wpAnyH_ready (rs := [27]) (by kernel_rfl) (by simp) ?_
                  refine AllReadyH.cons (o := { dst := some 39, op := .call { callee := .value (.func 50), args := #[.tmp 38, .const (.int .i64 64), .const (.int .i64 8)], argTypes := #[9, 3, 3] }, type := 22, pos := _, after := _, guard := none }) rfl (fun K hK => ?_) ?_
                  · go_simp
                    refine (HT5.out _).mono ?_
                    rintro e x8 ⟨rfl, hb⟩
                    refine hK.out _ _ trivial (fun _ => ?_)
                    clear hK K
                    have I8 := Lib.hid (I7.out.next hb)
                    have G8 := Lib.hid (And.intro (G7.out.1.later hb) G7.out.2)
                    clear hb I7 G7
                    refine wpAnyH_take (i := 28) (oi := { dst := some 40, op := .convert 22 3 (.tmp 39), type := _, pos := _, after := _, guard := none }) (v := ?_) rfl (by kernel_rfl) (by kernel_rfl) (by kernel_rfl) (fun _ _ _ h => h) (Or.inl ⟨by rfl, ?_⟩) trivial ?_
                    rotate_left
                    · intro w _
                      go_simp
                      first | done | rfl
                    simp only [Act.put, List.setIfInBounds_toArray, List.set_cons_zero, List.set_cons_succ]
                    refine wpAnyH_ready (rs := [30]) (by kernel_rfl) (by simp) ?_
                    refine AllReadyH.cons (o := { dst := some 42, op := .call { callee := .value (.func 50), args := #[.tmp 41, .const (.int .i64 72), .const (.int .i64 8)], argTypes := #[9, 3, 3] }, type := 22, pos := _, after := _, guard := none }) rfl (fun K hK => ?_) ?_
                    · go_simp
                      refine (HT6.out _).mono ?_
                      rintro e x9 ⟨rfl, hb⟩
                      refine hK.out _ _ trivial (fun _ => ?_)
                      clear hK K
                      have I9 := Lib.hid (I8.out.next hb)
                      have G9 := Lib.hid (And.intro (G8.out.1.later hb) G8.out.2)
                      clear hb I8 G8
                      refine wpAnyH_take (i := 31) (oi := { dst := some 43, op := .convert 22 3 (.tmp 42), type := _, pos := _, after := _, guard := none }) (v := ?_) rfl (by kernel_rfl) (by kernel_rfl) (by kernel_rfl) (fun _ _ _ h => h) (Or.inl ⟨by rfl, ?_⟩) trivial ?_
                      rotate_left
                      · intro w _
                        go_simp
                        first | done | rfl
                      simp only [Act.put, List.setIfInBounds_toArray, List.set_cons_zero, List.set_cons_succ]
                      refine wpAnyH_ready (rs := [33]) (by kernel_rfl) (by simp) ?_
                      refine AllReadyH.cons (o := { dst := some 45, op := .call { callee := .value (.func 50), args := #[.tmp 44, .const (.int .i64 80), .const (.int .i64 8)], argTypes := #[9, 3, 3] }, type := 22, pos := _, after := _, guard := none }) rfl (fun K hK => ?_) ?_
                      · go_simp
                        refine (HT7.out _).mono ?_
                        rintro e x10 ⟨rfl, hb⟩
                        refine hK.out _ _ trivial (fun _ => ?_)
                        clear hK K
                        have I10 := Lib.hid (I9.out.next hb)
                        have G10 := Lib.hid (And.intro (G9.out.1.later hb) G9.out.2)
                        clear hb I9 G9
                        refine wpAnyH_take (i := 34) (oi := { dst := some 46, op := .convert 22 3 (.tmp 45), type := _, pos := _, after := _, guard := none }) (v := ?_) rfl (by kernel_rfl) (by kernel_rfl) (by kernel_rfl) (fun _ _ _ h => h) (Or.inl ⟨by rfl, ?_⟩) trivial ?_
                        rotate_left
                        · intro w _
                          go_simp
                          first | done | rfl
                        simp only [Act.put, List.setIfInBounds_toArray, List.set_cons_zero, List.set_cons_succ]
                        refine wpAnyH_take (i := 35) (oi := _) (v := ?_) rfl (by kernel_rfl) (by kernel_rfl) (by kernel_rfl) (fun _ _ _ h => h) (Or.inl ⟨by rfl, ?_⟩) trivial ?_
                        rotate_left
                        · intro w _
                          go_simp
                          first | done | rfl
                        simp only [Act.put, List.setIfInBounds_toArray, List.set_cons_zero, List.set_cons_succ]
                        obtain ⟨r0, f0⟩ := G10.out.1.2 0 _ rfl
                        obtain ⟨r1, f1⟩ := G10.out.1.2 1 _ rfl
                        obtain ⟨r2, f2⟩ := G10.out.1.2 2 _ rfl
                        obtain ⟨r3, f3⟩ := G10.out.1.2 3 _ rfl
                        obtain ⟨r4, f4⟩ := G10.out.1.2 4 _ rfl
                        obtain ⟨r5, f5⟩ := G10.out.1.2 5 _ rfl
                        obtain ⟨r6, f6⟩ := G10.out.1.2 6 _ rfl
                        obtain ⟨r7, f7⟩ := G10.out.1.2 7 _ rfl
                        obtain ⟨r8, f8⟩ := G10.out.1.2 8 _ rfl
                        obtain ⟨r9, f9⟩ := G10.out.1.2 9 _ rfl
                        obtain ⟨r10, f10⟩ := G10.out.1.2 10 _ rfl
                        obtain ⟨r11, f11⟩ := G10.out.1.2 11 _ rfl
                        refine wpAnyH_ready (rs := [37]) (by kernel_rfl) (by simp) ?_
                        refine AllReadyH.cons (o := _) rfl (fun K hK => ?_) ?_
                        · go_simp
                          refine hK.out _ _ trivial (fun _ => ?_)
                          clear hK K
                          refine wpAnyH_done (by kernel_rfl) ?_ _
                          refine NoPanic.normal ?_
                          go_wp2_with fail
                          go_meet
                          exact rmeet I10 G10
                        exact AllReadyH.nil
                      exact AllReadyH.nil
                    exact AllReadyH.nil
                  exact AllReadyH.nil
                exact AllReadyH.nil
              refine AllReadyH.cons (o := { dst := some 5, op := .alloc 34, type := _, pos := _, after := _, guard := none }) rfl (fun K hK => ?_) ?_
              · go_simp
                refine hK.out _ _ trivial (fun _ => ?_)
                clear hK K
                have I6 := Lib.hid (I5.out.next ((Below.refl _ _).alloc (Nat.le_refl _) (.cells #[.int .i64 0, .int .i64 0, .int .i64 0, .int .i64 0, .int .i64 0, .int .i64 0, .int .i64 0, .int .i64 0, .int .i64 0, .int .i64 0, .int .i64 0, .int .u64 0] 34)))
                have G6 := Lib.hid (And.intro (Blk.new x5 #[.int .i64 0, .int .i64 0, .int .i64 0, .int .i64 0, .int .i64 0, .int .i64 0, .int .i64 0, .int .i64 0, .int .i64 0, .int .i64 0, .int .i64 0, .int .u64 0] 34 x5.heap.size rfl) I5.out.1.1)
                clear I5
                generalize (x5.alloc (.cells #[.int .i64 0, .int .i64 0, .int .i64 0, .int .i64 0, .int .i64 0, .int .i64 0, .int .i64 0, .int .i64 0, .int .i64 0, .int .i64 0, .int .i64 0, .int .u64 0] 34)) = x6 at *
                refine wpAnyH_ready (rs := [24]) (by kernel_rfl) (by simp) ?_
                refine AllReadyH.cons (o := { dst := some 36, op := .call { callee := .value (.func 50), args := #[.tmp 35, .const (.int .i64 56), .const (.int .i64 8)], argTypes := #[9, 3, 3] }, type := 22, pos := _, after := _, guard := none }) rfl (fun K hK => ?_) ?_
                · go_simp
                  refine (HT4.out _).mono ?_
                  rintro e x7 ⟨rfl, hb⟩
                  refine hK.out _ _ trivial (fun _ => ?_)
                  clear hK K
                  have I7 := Lib.hid (I6.out.next hb)
                  have G7 := Lib.hid (And.intro (G6.out.1.later hb) G6.out.2)
                  clear hb I6 G6
                  refine wpAnyH_take (i := 25) (oi := { dst := some 37, op := .convert 22 3 (.tmp 36), type := _, pos := _, after := _, guard := none }) (v := ?_) rfl (by kernel_rfl) (by kernel_rfl) (by kernel_rfl) (fun _ _ _ h => h) (Or.inl ⟨by rfl, ?_⟩) trivial ?_
                  rotate_left
                  · intro w _
                    go_simp
                    first | done | rfl
                  simp only [Act.put, List.setIfInBounds_toArray, List.set_cons_zero, List.set_cons_succ]
                  refine wpAnyH_ready (rs := [27]) (by kernel_rfl) (by simp) ?_
                  refine AllReadyH.cons (o := { dst := some 39, op := .call { callee := .value (.func 50), args := #[.tmp 38, .const (.int .i64 64), .const (.int .i64 8)], argTypes := #[9, 3, 3] }, type := 22, pos := _, after := _, guard := none }) rfl (fun K hK => ?_) ?_
                  · go_simp
                    refine (HT5.out _).mono ?_
                    rintro e x8 ⟨rfl, hb⟩
                    refine hK.out _ _ trivial (fun _ => ?_)
                    clear hK K
                    have I8 := Lib.hid (I7.out.next hb)
                    have G8 := Lib.hid (And.intro (G7.out.1.later hb) G7.out.2)
                    clear hb I7 G7
                    refine wpAnyH_take (i := 28) (oi := { dst := some 40, op := .convert 22 3 (.tmp 39), type := _, pos := _, after := _, guard := none }) (v := ?_) rfl (by kernel_rfl) (by kernel_rfl) (by kernel_rfl) (fun _ _ _ h => h) (Or.inl ⟨by rfl, ?_⟩) trivial ?_
                    rotate_left
                    · intro w _
                      go_simp
                      first | done | rfl
                    simp only [Act.put, List.setIfInBounds_toArray, List.set_cons_zero, List.set_cons_succ]
                    refine wpAnyH_ready (rs := [30]) (by kernel_rfl) (by simp) ?_
                    refine AllReadyH.cons (o := { dst := some 42, op := .call { callee := .value (.func 50), args := #[.tmp 41, .const (.int .i64 72), .const (.int .i64 8)], argTypes := #[9, 3, 3] }, type := 22, pos := _, after := _, guard := none }) rfl (fun K hK => ?_) ?_
                    · go_simp
                      refine (HT6.out _).mono ?_
                      rintro e x9 ⟨rfl, hb⟩
                      refine hK.out _ _ trivial (fun _ => ?_)
                      clear hK K
                      have I9 := Lib.hid (I8.out.next hb)
                      have G9 := Lib.hid (And.intro (G8.out.1.later hb) G8.out.2)
                      clear hb I8 G8
                      refine wpAnyH_take (i := 31) (oi := { dst := some 43, op := .convert 22 3 (.tmp 42), type := _, pos := _, after := _, guard := none }) (v := ?_) rfl (by kernel_rfl) (by kernel_rfl) (by kernel_rfl) (fun _ _ _ h => h) (Or.inl ⟨by rfl, ?_⟩) trivial ?_
                      rotate_left
                      · intro w _
                        go_simp
                        first | done | rfl
                      simp only [Act.put, List.setIfInBounds_toArray, List.set_cons_zero, List.set_cons_succ]
                      refine wpAnyH_ready (rs := [33]) (by kernel_rfl) (by simp) ?_
                      refine AllReadyH.cons (o := { dst := some 45, op := .call { callee := .value (.func 50), args := #[.tmp 44, .const (.int .i64 80), .const (.int .i64 8)], argTypes := #[9, 3, 3] }, type := 22, pos := _, after := _, guard := none }) rfl (fun K hK => ?_) ?_
                      · go_simp
                        refine (HT7.out _).mono ?_
                        rintro e x10 ⟨rfl, hb⟩
                        refine hK.out _ _ trivial (fun _ => ?_)
                        clear hK K
                        have I10 := Lib.hid (I9.out.next hb)
                        have G10 := Lib.hid (And.intro (G9.out.1.later hb) G9.out.2)
                        clear hb I9 G9
                        refine wpAnyH_take (i := 34) (oi := { dst := some 46, op := .convert 22 3 (.tmp 45), type := _, pos := _, after := _, guard := none }) (v := ?_) rfl (by kernel_rfl) (by kernel_rfl) (by kernel_rfl) (fun _ _ _ h => h) (Or.inl ⟨by rfl, ?_⟩) trivial ?_
                        rotate_left
                        · intro w _
                          go_simp
                          first | done | rfl
                        simp only [Act.put, List.setIfInBounds_toArray, List.set_cons_zero, List.set_cons_succ]
                        refine wpAnyH_take (i := 35) (oi := _) (v := ?_) rfl (by kernel_rfl) (by kernel_rfl) (by kernel_rfl) (fun _ _ _ h => h) (Or.inl ⟨by rfl, ?_⟩) trivial ?_
                        rotate_left
                        · intro w _
                          go_simp
                          first | done | rfl
                        simp only [Act.put, List.setIfInBounds_toArray, List.set_cons_zero, List.set_cons_succ]
                        obtain ⟨r0, f0⟩ := G10.out.1.2 0 _ rfl
                        obtain ⟨r1, f1⟩ := G10.out.1.2 1 _ rfl
                        obtain ⟨r2, f2⟩ := G10.out.1.2 2 _ rfl
                        obtain ⟨r3, f3⟩ := G10.out.1.2 3 _ rfl
                        obtain ⟨r4, f4⟩ := G10.out.1.2 4 _ rfl
                        obtain ⟨r5, f5⟩ := G10.out.1.2 5 _ rfl
                        obtain ⟨r6, f6⟩ := G10.out.1.2 6 _ rfl
                        obtain ⟨r7, f7⟩ := G10.out.1.2 7 _ rfl
                        obtain ⟨r8, f8⟩ := G10.out.1.2 8 _ rfl
                        obtain ⟨r9, f9⟩ := G10.out.1.2 9 _ rfl
                        obtain ⟨r10, f10⟩ := G10.out.1.2 10 _ rfl
                        obtain ⟨r11, f11⟩ := G10.out.1.2 11 _ rfl
                        refine wpAnyH_ready (rs := [37]) (by kernel_rfl) (by simp) ?_
                        refine AllReadyH.cons (o := _) rfl (fun K hK => ?_) ?_
                        · go_simp
                          refine hK.out _ _ trivial (fun _ => ?_)
                          clear hK K
                          refine wpAnyH_done (by kernel_rfl) ?_ _
                          refine NoPanic.normal ?_
                          go_wp2_with fail
                          go_meet
                          exact rmeet I10 G10
                        exact AllReadyH.nil
                      exact AllReadyH.nil
                    exact AllReadyH.nil
                  exact AllReadyH.nil
                exact AllReadyH.nil
              exact AllReadyH.nil
            refine AllReadyH.cons (o := { dst := some 5, op := .alloc 34, type := _, pos := _, after := _, guard := none }) rfl (fun K hK => ?_) ?_
            · go_simp
              refine hK.out _ _ trivial (fun _ => ?_)
              clear hK K
              have I5 := Lib.hid (I4.out.next ((Below.refl _ _).alloc (Nat.le_refl _) (.cells #[.int .i64 0, .int .i64 0, .int .i64 0, .int .i64 0, .int .i64 0, .int .i64 0, .int .i64 0, .int .i64 0, .int .i64 0, .int .i64 0, .int .i64 0, .int .u64 0] 34)))
              have G5 := Lib.hid (And.intro (Blk.new x4 #[.int .i64 0, .int .i64 0, .int .i64 0, .int .i64 0, .int .i64 0, .int .i64 0, .int .i64 0, .int .i64 0, .int .i64 0, .int .i64 0, .int .i64 0, .int .u64 0] 34 x4.heap.size rfl) I4.out.1.1)
              clear I4
              generalize (x4.alloc (.cells #[.int .i64 0, .int .i64 0, .int .i64 0, .int .i64 0, .int .i64 0, .int .i64 0, .int .i64 0, .int .i64 0, .int .i64 0, .int .i64 0, .int .i64 0, .int .u64 0] 34)) = x5 at *
              refine wpAnyH_ready (rs := [21]) (by kernel_rfl) (by simp) ?_
              refine AllReadyH.cons (o := { dst := some 33, op := .call { callee := .value (.func 50), args := #[.tmp 32, .const (.int .i64 48), .const (.int .i64 8)], argTypes := #[9, 3, 3] }, type := 22, pos := _, after := _, guard := none }) rfl (fun K hK => ?_) ?_
              · go_simp
                refine (HT3.out _).mono ?_
                rintro e x6 ⟨rfl, hb⟩
                refine hK.out _ _ trivial (fun _ => ?_)
                clear hK K
                have I6 := Lib.hid (I5.out.next hb)
                have G6 := Lib.hid (And.intro (G5.out.1.later hb) G5.out.2)
                clear hb I5 G5
                refine wpAnyH_take (i := 22) (oi := { dst := some 34, op := .convert 22 3 (.tmp 33), type := _, pos := _, after := _, guard := none }) (v := ?_) rfl (by kernel_rfl) (by kernel_rfl) (by kernel_rfl) (fun _ _ _ h => h) (Or.inl ⟨by rfl, ?_⟩) trivial ?_
                rotate_left
                · intro w _
                  go_simp
                  first | done | rfl
                simp only [Act.put, List.setIfInBounds_toArray, List.set_cons_zero, List.set_cons_succ]
                refine wpAnyH_ready (rs := [24]) (by kernel_rfl) (by simp) ?_
                refine AllReadyH.cons (o := { dst := some 36, op := .call { callee := .value (.func 50), args := #[.tmp 35, .const (.int .i64 56), .const (.int .i64 8)], argTypes := #[9, 3, 3] }, type := 22, pos := _, after := _, guard := none }) rfl (fun K hK => ?_) ?_
                · go_simp
                  refine (HT4.out _).mono ?_
                  rintro e x7 ⟨rfl, hb⟩
                  refine hK.out _ _ trivial (fun _ => ?_)
                  clear hK K
                  have I7 := Lib.hid (I6.out.next hb)
                  have G7 := Lib.hid (And.intro (G6.out.1.later hb) G6.out.2)
                  clear hb I6 G6
                  refine wpAnyH_take (i := 25) (oi := { dst := some 37, op := .convert 22 3 (.tmp 36), type := _, pos := _, after := _, guard := none }) (v := ?_) rfl (by kernel_rfl) (by kernel_rfl) (by kernel_rfl) (fun _ _ _ h => h) (Or.inl ⟨by rfl, ?_⟩) trivial ?_
                  rotate_left
                  · intro w _
                    go_simp
                    first | done | rfl
                  simp only [Act.put, List.setIfInBounds_toArray, List.set_cons_zero, List.set_cons_succ]
                  refine wpAnyH_ready (rs := [27]) (by kernel_rfl) (by simp) ?_
                  refine AllReadyH.cons (o := { dst := some 39, op := .call { callee := .value (.func 50), args := #[.tmp 38, .const (.int .i64 64), .const (.int .i64 8)], argTypes := #[9, 3, 3] }, type := 22, pos := _, after := _, guard := none }) rfl (fun K hK => ?_) ?_
                  · go_simp
                    refine (HT5.out _).mono ?_
                    rintro e x8 ⟨rfl, hb⟩
                    refine hK.out _ _ trivial (fun _ => ?_)
                    clear hK K
                    have I8 := Lib.hid (I7.out.next hb)
                    have G8 := Lib.hid (And.intro (G7.out.1.later hb) G7.out.2)
                    clear hb I7 G7
                    refine wpAnyH_take (i := 28) (oi := { dst := some 40, op := .convert 22 3 (.tmp 39), type := _, pos := _, after := _, guard := none }) (v := ?_) rfl (by kernel_rfl) (by kernel_rfl) (by kernel_rfl) (fun _ _ _ h => h) (Or.inl ⟨by rfl, ?_⟩) trivial ?_
                    rotate_left
                    · intro w _
                      go_simp
                      first | done | rfl
                    simp only [Act.put, List.setIfInBounds_toArray, List.set_cons_zero, List.set_cons_succ]
                    refine wpAnyH_ready (rs := [30]) (by kernel_rfl) (by simp) ?_
                    refine AllReadyH.cons (o := { dst := some 42, op := .call { callee := .value (.func 50), args := #[.tmp 41, .const (.int .i64 72), .const (.int .i64 8)], argTypes := #[9, 3, 3] }, type := 22, pos := _, after := _, guard := none }) rfl (fun K hK => ?_) ?_
                    · go_simp
                      refine (HT6.out _).mono ?_
                      rintro e x9 ⟨rfl, hb⟩
                      refine hK.out _ _ trivial (fun _ => ?_)
                      clear hK K
                      have I9 := Lib.hid (I8.out.next hb)
                      have G9 := Lib.hid (And.intro (G8.out.1.later hb) G8.out.2)
                      clear hb I8 G8
                      refine wpAnyH_take (i := 31) (oi := { dst := some 43, op := .convert 22 3 (.tmp 42), type := _, pos := _, after := _, guard := none }) (v := ?_) rfl (by kernel_rfl) (by kernel_rfl) (by kernel_rfl) (fun _ _ _ h => h) (Or.inl ⟨by rfl, ?_⟩) trivial ?_
                      rotate_left
                      · intro w _
                        go_simp
                        first | done | rfl
                      simp only [Act.put, List.setIfInBounds_toArray, List.set_cons_zero, List.set_cons_succ]
                      refine wpAnyH_ready (rs := [33]) (by kernel_rfl) (by simp) ?_
                      refine AllReadyH.cons (o := { dst := some 45, op := .call { callee := .value (.func 50), args := #[.tmp 44, .const (.int .i64 80), .const (.int .i64 8)], argTypes := #[9, 3, 3] }, type := 22, pos := _, after := _, guard := none }) rfl (fun K hK => ?_) ?_
                      · go_simp
                        refine (HT7.out _).mono ?_
                        rintro e x10 ⟨rfl, hb⟩
                        refine hK.out _ _ trivial (fun _ => ?_)
                        clear hK K
                        have I10 := Lib.hid (I9.out.next hb)
                        have G10 := Lib.hid (And.intro (G9.out.1.later hb) G9.out.2)
                        clear hb I9 G9
                        refine wpAnyH_take (i := 34) (oi := { dst := some 46, op := .convert 22 3 (.tmp 45), type := _, pos := _, after := _, guard := none }) (v := ?_) rfl (by kernel_rfl) (by kernel_rfl) (by kernel_rfl) (fun _ _ _ h => h) (Or.inl ⟨by rfl, ?_⟩) trivial ?_
                        rotate_left
                        · intro w _
                          go_simp
                          first | done | rfl
                        simp only [Act.put, List.setIfInBounds_toArray, List.set_cons_zero, List.set_cons_succ]
                        refine wpAnyH_take (i := 35) (oi := _) (v := ?_) rfl (by kernel_rfl) (by kernel_rfl) (by kernel_rfl) (fun _ _ _ h => h) (Or.inl ⟨by rfl, ?_⟩) trivial ?_
                        rotate_left
                        · intro w _
                          go_simp
                          first | done | rfl
                        simp only [Act.put, List.setIfInBounds_toArray, List.set_cons_zero, List.set_cons_succ]
                        obtain ⟨r0, f0⟩ := G10.out.1.2 0 _ rfl
                        obtain ⟨r1, f1⟩ := G10.out.1.2 1 _ rfl
                        obtain ⟨r2, f2⟩ := G10.out.1.2 2 _ rfl
                        obtain ⟨r3, f3⟩ := G10.out.1.2 3 _ rfl
                        obtain ⟨r4, f4⟩ := G10.out.1.2 4 _ rfl
                        obtain ⟨r5, f5⟩ := G10.out.1.2 5 _ rfl
                        obtain ⟨r6, f6⟩ := G10.out.1.2 6 _ rfl
                        obtain ⟨r7, f7⟩ := G10.out.1.2 7 _ rfl
                        obtain ⟨r8, f8⟩ := G10.out.1.2 8 _ rfl
                        obtain ⟨r9, f9⟩ := G10.out.1.2 9 _ rfl
                        obtain ⟨r10, f10⟩ := G10.out.1.2 10 _ rfl
                        obtain ⟨r11, f11⟩ := G10.out.1.2 11 _ rfl
                        refine wpAnyH_ready (rs := [37]) (by kernel_rfl) (by simp) ?_
                        refine AllReadyH.cons (o := _) rfl (fun K hK => ?_) ?_
                        · go_simp
                          refine hK.out _ _ trivial (fun _ => ?_)
                          clear hK K
                          refine wpAnyH_done (by kernel_rfl) ?_ _
                          refine NoPanic.normal ?_
                          go_wp2_with fail
                          go_meet
                          exact rmeet I10 G10
                        exact AllReadyH.nil
                      exact AllReadyH.nil
                    exact AllReadyH.nil
                  exact AllReadyH.nil
                exact AllReadyH.nil
              exact AllReadyH.nil
            exact AllReadyH.nil
          refine AllReadyH.cons (o := { dst := some 5, op := .alloc 34, type := _, pos := _, after := _, guard := none }) rfl (fun K hK => ?_) ?_
          · go_simp
            refine hK.out _ _ trivial (fun _ => ?_)
            clear hK K
            have I4 := Lib.hid (I3.out.next ((Below.refl _ _).alloc (Nat.le_refl _) (.cells #[.int .i64 0, .int .i64 0, .int .i64 0, .int .i64 0, .int .i64 0, .int .i64 0, .int .i64 0, .int .i64 0, .int .i64 0, .int .i64 0, .int .i64 0, .int .u64 0] 34)))
            have G4 := Lib.hid (And.intro (Blk.new x3 #[.int .i64 0, .int .i64 0, .int .i64 0, .int .i64 0, .int .i64 0, .int .i64 0, .int .i64 0, .int .i64 0, .int .i64 0, .int .i64 0, .int .i64 0, .int .u64 0] 34 x3.heap.size rfl) I3.out.1.1)
            clear I3
            generalize (x3.alloc (.cells #[.int .i64 0, .int .i64 0, .int .i64 0, .int .i64 0, .int .i64 0, .int .i64 0, .int .i64 0, .int .i64 0, .int .i64 0, .int .i64 0, .int .i64 0, .int .u64 0] 34)) = x4 at *
            refine wpAnyH_ready (rs := [18]) (by kernel_rfl) (by simp) ?_
            refine AllReadyH.cons (o := { dst := some 30, op := .call { callee := .value (.func 50), args := #[.tmp 29, .const (.int .i64 40), .const (.int .i64 8)], argTypes := #[9, 3, 3] }, type := 22, pos := _, after := _, guard := none }) rfl (fun K hK => ?_) ?_
            · go_simp
              refine (HT2.out _).mono ?_
              rintro e x5 ⟨rfl, hb⟩
              refine hK.out _ _ trivial (fun _ => ?_)
              clear hK K
              have I5 := Lib.hid (I4.out.next hb)
              have G5 := Lib.hid (And.intro (G4.out.1.later hb) G4.out.2)
              clear hb I4 G4
              refine wpAnyH_take (i := 19) (oi := { dst := some 31, op := .convert 22 3 (.tmp 30), type := _, pos := _, after := _, guard := none }) (v := ?_) rfl (by kernel_rfl) (by kernel_rfl) (by kernel_rfl) (fun _ _ _ h => h) (Or.inl ⟨by rfl, ?_⟩) trivial ?_
              rotate_left
              · intro w _
                go_simp
                first | done | rfl
              simp only [Act.put, List.setIfInBounds_toArray, List.set_cons_zero, List.set_cons_succ]
              refine wpAnyH_ready (rs := [21]) (by kernel_rfl) (by simp) ?_
              refine AllReadyH.cons (o := { dst := some 33, op := .call { callee := .value (.func 50), args := #[.tmp 32, .const (.int .i64 48), .const (.int .i64 8)], argTypes := #[9, 3, 3] }, type := 22, pos := _, after := _, guard := none }) rfl (fun K hK => ?_) ?_
              · go_simp
                refine (HT3.out _).mono ?_
                rintro e x6 ⟨rfl, hb⟩
                refine hK.out _ _ trivial (fun _ => ?_)
                clear hK K
                have I6 := Lib.hid (I5.out.next hb)
                have G6 := Lib.hid (And.intro (G5.out.1.later hb) G5.out.2)
                clear hb I5 G5
                refine wpAnyH_take (i := 22) (oi := { dst := some 34, op := .convert 22 3 (.tmp 33), type := _, pos := _, after := _, guard := none }) (v := ?_) rfl (by kernel_rfl) (by kernel_rfl) (by kernel_rfl) (fun _ _ _ h => h) (Or.inl ⟨by rfl, ?_⟩) trivial ?_
                rotate_left
                · intro w _
                  go_simp
                  first | done | rfl
                simp only [Act.put, List.setIfInBounds_toArray, List.set_cons_zero, List.set_cons_succ]
                refine wpAnyH_ready (rs := [24]) (by kernel_rfl) (by simp) ?_
                refine AllReadyH.cons (o := { dst := some 36, op := .call { callee := .value (.func 50), args := #[.tmp 35, .const (.int .i64 56), .const (.int .i64 8)], argTypes := #[9, 3, 3] }, type := 22, pos := _, after := _, guard := none }) rfl (fun K hK => ?_) ?_
                · go_simp
                  refine (HT4.out _).mono ?_
                  rintro e x7 ⟨rfl, hb⟩
                  refine hK.out _ _ trivial (fun _ => ?_)
                  clear hK K
                  have I7 := Lib.hid (I6.out.next hb)
                  have G7 := Lib.hid (And.intro (G6.out.1.later hb) G6.out.2)
                  clear hb I6 G6
                  refine wpAnyH_take (i := 25) (oi := { dst := some 37, op := .convert 22 3 (.tmp 36), type := _, pos := _, after := _, guard := none }) (v := ?_) rfl (by kernel_rfl) (by kernel_rfl) (by kernel_rfl) (fun _ _ _ h => h) (Or.inl ⟨by rfl, ?_⟩) trivial ?_
                  rotate_left
                  · intro w _
                    go_simp
                    first | done | rfl
                  simp only [Act.put, List.setIfInBounds_toArray, List.set_cons_zero, List.set_cons_succ]
                  refine wpAnyH_ready (rs := [27]) (by kernel_rfl) (by simp) ?_
                  refine AllReadyH.cons (o := { dst := some 39, op := .call { callee := .value (.func 50), args := #[.tmp 38, .const (.int .i64 64), .const (.int .i64 8)], argTypes := #[9, 3, 3] }, type := 22, pos := _, after := _, guard := none }) rfl (fun K hK => ?_) ?_
                  · go_simp
                    refine (HT5.out _).mono ?_
                    rintro e x8 ⟨rfl, hb⟩
                    refine hK.out _ _ trivial (fun _ => ?_)
                    clear hK K
                    have I8 := Lib.hid (I7.out.next hb)
                    have G8 := Lib.hid (And.intro (G7.out.1.later hb) G7.out.2)
                    clear hb I7 G7
                    refine wpAnyH_take (i := 28) (oi := { dst := some 40, op := .convert 22 3 (.tmp 39), type := _, pos := _, after := _, guard := none }) (v := ?_) rfl (by kernel_rfl) (by kernel_rfl) (by kernel_rfl) (fun _ _ _ h => h) (Or.inl ⟨by rfl, ?_⟩) trivial ?_
                    rotate_left
                    · intro w _
                      go_simp
                      first | done | rfl
                    simp only [Act.put, List.setIfInBounds_toArray, List.set_cons_zero, List.set_cons_succ]
                    refine wpAnyH_ready (rs := [30]) (by kernel_rfl) (by simp) ?_
                    refine AllReadyH.cons (o := { dst := some 42, op := .call { callee := .value (.func 50), args := #[.tmp 41, .const (.int .i64 72), .const (.int .i64 8)], argTypes := #[9, 3, 3] }, type := 22, pos := _, after := _, guard := none }) rfl (fun K hK => ?_) ?_
                    · go_simp
                      refine (HT6.out _).mono ?_
                      rintro e x9 ⟨rfl, hb⟩
                      refine hK.out _ _ trivial (fun _ => ?_)
                      clear hK K
                      have I9 := Lib.hid (I8.out.next hb)
                      have G9 := Lib.hid (And.intro (G8.out.1.later hb) G8.out.2)
                      clear hb I8 G8
                      refine wpAnyH_take (i := 31) (oi := { dst := some 43, op := .convert 22 3 (.tmp 42), type := _, pos := _, after := _, guard := none }) (v := ?_) rfl (by kernel_rfl) (by kernel_rfl) (by kernel_rfl) (fun _ _ _ h => h) (Or.inl ⟨by rfl, ?_⟩) trivial ?_
                      rotate_left
                      · intro w _
                        go_simp
                        first | done | rfl
                      simp only [Act.put, List.setIfInBounds_toArray, List.set_cons_zero, List.set_cons_succ]
                      refine wpAnyH_ready (rs := [33]) (by kernel_rfl) (by simp) ?_
                      refine AllReadyH.cons (o := { dst := some 45, op := .call { callee := .value (.func 50), args := #[.tmp 44, .const (.int .i64 80), .const (.int .i64 8)], argTypes := #[9, 3, 3] }, type := 22, pos := _, after := _, guard := none }) rfl (fun K hK => ?_) ?_
                      · go_simp
                        refine (HT7.out _).mono ?_
                        rintro e x10 ⟨rfl, hb⟩
                        refine hK.out _ _ trivial (fun _ => ?_)
                        clear hK K
                        have I10 := Lib.hid (I9.out.next hb)
                        have G10 := Lib.hid (And.intro (G9.out.1.later hb) G9.out.2)
                        clear hb I9 G9
                        refine wpAnyH_take (i := 34) (oi := { dst := some 46, op := .convert 22 3 (.tmp 45), type := _, pos := _, after := _, guard := none }) (v := ?_) rfl (by kernel_rfl) (by kernel_rfl) (by kernel_rfl) (fun _ _ _ h => h) (Or.inl ⟨by rfl, ?_⟩) trivial ?_
                        rotate_left
                        · intro w _
                          go_simp
                          first | done | rfl
                        simp only [Act.put, List.setIfInBounds_toArray, List.set_cons_zero, List.set_cons_succ]
                        refine wpAnyH_take (i := 35) (oi := _) (v := ?_) rfl (by kernel_rfl) (by kernel_rfl) (by kernel_rfl) (fun _ _ _ h => h) (Or.inl ⟨by rfl, ?_⟩) trivial ?_
                        rotate_left
                        · intro w _
                          go_simp
                          first | done | rfl
                        simp only [Act.put, List.setIfInBounds_toArray, List.set_cons_zero, List.set_cons_succ]
                        obtain ⟨r0, f0⟩ := G10.out.1.2 0 _ rfl
                        obtain ⟨r1, f1⟩ := G10.out.1.2 1 _ rfl
                        obtain ⟨r2, f2⟩ := G10.out.1.2 2 _ rfl
                        obtain ⟨r3, f3⟩ := G10.out.1.2 3 _ rfl
                        obtain ⟨r4, f4⟩ := G10.out.1.2 4 _ rfl
                        obtain ⟨r5, f5⟩ := G10.out.1.2 5 _ rfl
                        obtain ⟨r6, f6⟩ := G10.out.1.2 6 _ rfl
                        obtain ⟨r7, f7⟩ := G10.out.1.2 7 _ rfl
                        obtain ⟨r8, f8⟩ := G10.out.1.2 8 _ rfl
                        obtain ⟨r9, f9⟩ := G10.out.1.2 9 _ rfl
                        obtain ⟨r10, f10⟩ := G10.out.1.2 10 _ rfl
                        obtain ⟨r11, f11⟩ := G10.out.1.2 11 _ rfl
                        refine wpAnyH_ready (rs := [37]) (by kernel_rfl) (by simp) ?_
                        refine AllReadyH.cons (o := _) rfl (fun K hK => ?_) ?_
                        · go_simp
                          refine hK.out _ _ trivial (fun _ => ?_)
                          clear hK K
                          refine wpAnyH_done (by kernel_rfl) ?_ _
                          refine NoPanic.normal ?_
                          go_wp2_with fail
                          go_meet
                          exact rmeet I10 G10
                        exact AllReadyH.nil
                      exact AllReadyH.nil
                    exact AllReadyH.nil
                  exact AllReadyH.nil
                exact AllReadyH.nil
              exact AllReadyH.nil
            exact AllReadyH.nil
          exact AllReadyH.nil
        refine AllReadyH.cons (o := { dst := some 5, op := .alloc 34, type := _, pos := _, after := _, guard := none }) rfl (fun K hK => ?_) ?_
        · go_simp
          refine hK.out _ _ trivial (fun _ => ?_)
          clear hK K
          have I3 := Lib.hid (I2.out.next ((Below.refl _ _).alloc (Nat.le_refl _) (.cells #[.int .i64 0, .int .i64 0, .int .i64 0, .int .i64 0, .int .i64 0, .int .i64 0, .int .i64 0, .int .i64 0, .int .i64 0, .int .i64 0, .int .i64 0, .int .u64 0] 34)))
          have G3 := Lib.hid (And.intro (Blk.new x2 #[.int .i64 0, .int .i64 0, .int .i64 0, .int .i64 0, .int .i64 0, .int .i64 0, .int .i64 0, .int .i64 0, .int .i64 0, .int .i64 0, .int .i64 0, .int .u64 0] 34 x2.heap.size rfl) I2.out.1.1)
          clear I2
          generalize (x2.alloc (.cells #[.int .i64 0, .int .i64 0, .int .i64 0, .int .i64 0, .int .i64 0, .int .i64 0, .int .i64 0, .int .i64 0, .int .i64 0, .int .i64 0, .int .i64 0, .int .u64 0] 34)) = x3 at *
          refine wpAnyH_ready (rs := [15]) (by kernel_rfl) (by simp) ?_
          refine AllReadyH.cons (o := { dst := some 27, op := .call { callee := .value (.func 50), args := #[.tmp 26, .const (.int .i64 32), .const (.int .i64 8)], argTypes := #[9, 3, 3] }, type := 22, pos := _, after := _, guard := none }) rfl (fun K hK => ?_) ?_
          · go_simp
            refine (HT1.out _).mono ?_
            rintro e x4 ⟨rfl, hb⟩
            refine hK.out _ _ trivial (fun _ => ?_)
            clear hK K
            have I4 := Lib.hid (I3.out.next hb)
            have G4 := Lib.hid (And.intro (G3.out.1.later hb) G3.out.2)
            clear hb I3 G3
            refine wpAnyH_take (i := 16) (oi := { dst := some 28, op := .convert 22 3 (.tmp 27), type := _, pos := _, after := _, guard := none }) (v := ?_) rfl (by kernel_rfl) (by kernel_rfl) (by kernel_rfl) (fun _ _ _ h => h) (Or.inl ⟨by rfl, ?_⟩) trivial ?_
            rotate_left
            · intro w _
              go_simp
              first | done | rfl
            simp only [Act.put, List.setIfInBounds_toArray, List.set_cons_zero, List.set_cons_succ]
            refine wpAnyH_ready (rs := [18]) (by kernel_rfl) (by simp) ?_
            refine AllReadyH.cons (o := { dst := some 30, op := .call { callee := .value (.func 50), args := #[.tmp 29, .const (.int .i64 40), .const (.int .i64 8)], argTypes := #[9, 3, 3] }, type := 22, pos := _, after := _, guard := none }) rfl (fun K hK => ?_) ?_
            · go_simp
              refine (HT2.out _).mono ?_
              rintro e x5 ⟨rfl, hb⟩
              refine hK.out _ _ trivial (fun _ => ?_)
              clear hK K
              have I5 := Lib.hid (I4.out.next hb)
              have G5 := Lib.hid (And.intro (G4.out.1.later hb) G4.out.2)
              clear hb I4 G4
              refine wpAnyH_take (i := 19) (oi := { dst := some 31, op := .convert 22 3 (.tmp 30), type := _, pos := _, after := _, guard := none }) (v := ?_) rfl (by kernel_rfl) (by kernel_rfl) (by kernel_rfl) (fun _ _ _ h => h) (Or.inl ⟨by rfl, ?_⟩) trivial ?_
              rotate_left
              · intro w _
                go_simp
                first | done | rfl
              simp only [Act.put, List.setIfInBounds_toArray, List.set_cons_zero, List.set_cons_succ]
              refine wpAnyH_ready (rs := [21]) (by kernel_rfl) (by simp) ?_
              refine AllReadyH.cons (o := { dst := some 33, op := .call { callee := .value (.func 50), args := #[.tmp 32, .const (.int .i64 48), .const (.int .i64 8)], argTypes := #[9, 3, 3] }, type := 22, pos := _, after := _, guard := none }) rfl (fun K hK => ?_) ?_
              · go_simp
                refine (HT3.out _).mono ?_
                rintro e x6 ⟨rfl, hb⟩
                refine hK.out _ _ trivial (fun _ => ?_)
                clear hK K
                have I6 := Lib.hid (I5.out.next hb)
                have G6 := Lib.hid (And.intro (G5.out.1.later hb) G5.out.2)
                clear hb I5 G5
                refine wpAnyH_take (i := 22) (oi := { dst := some 34, op := .convert 22 3 (.tmp 33), type := _, pos := _, after := _, guard := none }) (v := ?_) rfl (by kernel_rfl) (by kernel_rfl) (by kernel_rfl) (fun _ _ _ h => h) (Or.inl ⟨by rfl, ?_⟩) trivial ?_
                rotate_left
                · intro w _
                  go_simp
                  first | done | rfl
                simp only [Act.put, List.setIfInBounds_toArray, List.set_cons_zero, List.set_cons_succ]
                refine wpAnyH_ready (rs := [24]) (by kernel_rfl) (by simp) ?_
                refine AllReadyH.cons (o := { dst := some 36, op := .call { callee := .value (.func 50), args := #[.tmp 35, .const (.int .i64 56), .const (.int .i64 8)], argTypes := #[9, 3, 3] }, type := 22, pos := _, after := _, guard := none }) rfl (fun K hK => ?_) ?_
                · go_simp
                  refine (HT4.out _).mono ?_
                  rintro e x7 ⟨rfl, hb⟩
                  refine hK.out _ _ trivial (fun _ => ?_)
                  clear hK K
                  have I7 := Lib.hid (I6.out.next hb)
                  have G7 := Lib.hid (And.intro (G6.out.1.later hb) G6.out.2)
                  clear hb I6 G6
                  refine wpAnyH_take (i := 25) (oi := { dst := some 37, op := .convert 22 3 (.tmp 36), type := _, pos := _, after := _, guard := none }) (v := ?_) rfl (by kernel_rfl) (by kernel_rfl) (by kernel_rfl) (fun _ _ _ h => h) (Or.inl ⟨by rfl, ?_⟩) trivial ?_
                  rotate_left
                  · intro w _
                    go_simp
                    first | done | rfl
                  simp only [Act.put, List.setIfInBounds_toArray, List.set_cons_zero, List.set_cons_succ]
                  refine wpAnyH_ready (rs := [27]) (by kernel_rfl) (by simp) ?_
                  refine AllReadyH.cons (o := { dst := some 39, op := .call { callee := .value (.func 50), args := #[.tmp 38, .const (.int .i64 64), .const (.int .i64 8)], argTypes := #[9, 3, 3] }, type := 22, pos := _, after := _, guard := none }) rfl (fun K hK => ?_) ?_
                  · go_simp
                    refine (HT5.out _).mono ?_
                    rintro e x8 ⟨rfl, hb⟩
                    refine hK.out _ _ trivial (fun _ => ?_)
                    clear hK K
                    have I8 := Lib.hid (I7.out.next hb)
                    have G8 := Lib.hid (And.intro (G7.out.1.later hb) G7.out.2)
                    clear hb I7 G7
                    refine wpAnyH_take (i := 28) (oi := { dst := some 40, op := .convert 22 3 (.tmp 39), type := _, pos := _, after := _, guard := none }) (v := ?_) rfl (by kernel_rfl) (by kernel_rfl) (by kernel_rfl) (fun _ _ _ h => h) (Or.inl ⟨by rfl, ?_⟩) trivial ?_
                    rotate_left
                    · intro w _
                      go_simp
                      first | done | rfl
                    simp only [Act.put, List.setIfInBounds_toArray, List.set_cons_zero, List.set_cons_succ]
                    refine wpAnyH_ready (rs := [30]) (by kernel_rfl) (by simp) ?_
                    refine AllReadyH.cons (o := { dst := some 42, op := .call { callee := .value (.func 50), args := #[.tmp 41, .const (.int .i64 72), .const (.int .i64 8)], argTypes := #[9, 3, 3] }, type := 22, pos := _, after := _, guard := none }) rfl (fun K hK => ?_) ?_
                    · go_simp
                      refine (HT6.out _).mono ?_
                      rintro e x9 ⟨rfl, hb⟩
                      refine hK.out _ _ trivial (fun _ => ?_)
                      clear hK K
                      have I9 := Lib.hid (I8.out.next hb)
                      have G9 := Lib.hid (And.intro (G8.out.1.later hb) G8.out.2)
                      clear hb I8 G8
                      refine wpAnyH_take (i := 31) (oi := { dst := some 43, op := .convert 22 3 (.tmp 42), type := _, pos := _, after := _, guard := none }) (v := ?_) rfl (by kernel_rfl) (by kernel_rfl) (by kernel_rfl) (fun _ _ _ h => h) (Or.inl ⟨by rfl, ?_⟩) trivial ?_
                      rotate_left
                      · intro w _
                        go_simp
                        first | done | rfl
                      simp only [Act.put, List.setIfInBounds_toArray, List.set_cons_zero, List.set_cons_succ]
                      refine wpAnyH_ready (rs := [33]) (by kernel_rfl) (by simp) ?_
                      refine AllReadyH.cons (o := { dst := some 45, op := .call { callee := .value (.func 50), args := #[.tmp 44, .const (.int .i64 80), .const (.int .i64 8)], argTypes := #[9, 3, 3] }, type := 22, pos := _, after := _, guard := none }) rfl (fun K hK => ?_) ?_
                      · go_simp
                        refine (HT7.out _).mono ?_
                        rintro e x10 ⟨rfl, hb⟩
                        refine hK.out _ _ trivial (fun _ => ?_)
                        clear hK K
                        have I10 := Lib.hid (I9.out.next hb)
                        have G10 := Lib.hid (And.intro (G9.out.1.later hb) G9.out.2)
                        clear hb I9 G9
                        refine wpAnyH_take (i := 34) (oi := { dst := some 46, op := .convert 22 3 (.tmp 45), type := _, pos := _, after := _, guard := none }) (v := ?_) rfl (by kernel_rfl) (by kernel_rfl) (by kernel_rfl) (fun _ _ _ h => h) (Or.inl ⟨by rfl, ?_⟩) trivial ?_
                        rotate_left
                        · intro w _
                          go_simp
                          first | done | rfl
                        simp only [Act.put, List.setIfInBounds_toArray, List.set_cons_zero, List.set_cons_succ]
                        refine wpAnyH_take (i := 35) (oi := _) (v := ?_) rfl (by kernel_rfl) (by kernel_rfl) (by kernel_rfl) (fun _ _ _ h => h) (Or.inl ⟨by rfl, ?_⟩) trivial ?_
                        rotate_left
                        · intro w _
                          go_simp
                          first | done | rfl
                        simp only [Act.put, List.setIfInBounds_toArray, List.set_cons_zero, List.set_cons_succ]
                        obtain ⟨r0, f0⟩ := G10.out.1.2 0 _ rfl
                        obtain ⟨r1, f1⟩ := G10.out.1.2 1 _ rfl
                        obtain ⟨r2, f2⟩ := G10.out.1.2 2 _ rfl
                        obtain ⟨r3, f3⟩ := G10.out.1.2 3 _ rfl
                        obtain ⟨r4, f4⟩ := G10.out.1.2 4 _ rfl
                        obtain ⟨r5, f5⟩ := G10.out.1.2 5 _ rfl
                        obtain ⟨r6, f6⟩ := G10.out.1.2 6 _ rfl
                        obtain ⟨r7, f7⟩ := G10.out.1.2 7 _ rfl
                        obtain ⟨r8, f8⟩ := G10.out.1.2 8 _ rfl
                        obtain ⟨r9, f9⟩ := G10.out.1.2 9 _ rfl
                        obtain ⟨r10, f10⟩ := G10.out.1.2 10 _ rfl
                        obtain ⟨r11, f11⟩ := G10.out.1.2 11 _ rfl
                        refine wpAnyH_ready (rs := [37]) (by kernel_rfl) (by simp) ?_
                        refine AllReadyH.cons (o := _) rfl (fun K hK => ?_) ?_
                        · go_simp
                          refine hK.out _ _ trivial (fun _ => ?_)
                          clear hK K
                          refine wpAnyH_done (by kernel_rfl) ?_ _
                          refine NoPanic.normal ?_
                          go_wp2_with fail
                          go_meet
                          exact rmeet I10 G10
                        exact AllReadyH.nil
                      exact AllReadyH.nil
                    exact AllReadyH.nil
                  exact AllReadyH.nil
                exact AllReadyH.nil
              exact AllReadyH.nil
            exact AllReadyH.nil
          exact AllReadyH.nil
        exact AllReadyH.nil
      refine AllReadyH.cons (o := { dst := some 5, op := .alloc 34, type := _, pos := _, after := _, guard := none }) rfl (fun K hK => ?_) ?_
      · go_simp
        refine hK.out _ _ trivial (fun _ => ?_)
        clear hK K
        have I2 := Lib.hid (I1.out.next ((Below.refl _ _).alloc (Nat.le_refl _) (.cells #[.int .i64 0, .int .i64 0, .int .i64 0, .int .i64 0, .int .i64 0, .int .i64 0, .int .i64 0, .int .i64 0, .int .i64 0, .int .i64 0, .int .i64 0, .int .u64 0] 34)))
        have G2 := Lib.hid (And.intro (Blk.new x1 #[.int .i64 0, .int .i64 0, .int .i64 0, .int .i64 0, .int .i64 0, .int .i64 0, .int .i64 0, .int .i64 0, .int .i64 0, .int .i64 0, .int .i64 0, .int .u64 0] 34 x1.heap.size rfl) I1.out.1.1)
        clear I1
        generalize (x1.alloc (.cells #[.int .i64 0, .int .i64 0, .int .i64 0, .int .i64 0, .int .i64 0, .int .i64 0, .int .i64 0, .int .i64 0, .int .i64 0, .int .i64 0, .int .i64 0, .int .u64 0] 34)) = x2 at *
        refine wpAnyH_ready (rs := [12]) (by kernel_rfl) (by simp) ?_
        refine AllReadyH.cons (o := { dst := some 24, op := .call { callee := .value (.func 50), args := #[.tmp 23, .const (.int .i64 24), .const (.int .i64 8)], argTypes := #[9, 3, 3] }, type := 22, pos := _, after := _, guard := none }) rfl (fun K hK => ?_) ?_
        · go_simp
          refine (HT0.out _).mono ?_
          rintro e x3 ⟨rfl, hb⟩
          refine hK.out _ _ trivial (fun _ => ?_)
          clear hK K
          have I3 := Lib.hid (I2.out.next hb)
          have G3 := Lib.hid (And.intro (G2.out.1.later hb) G2.out.2)
          clear hb I2 G2
          refine wpAnyH_take (i := 13) (oi := { dst := some 25, op := .convert 22 3 (.tmp 24), type := _, pos := _, after := _, guard := none }) (v := ?_) rfl (by kernel_rfl) (by kernel_rfl) (by kernel_rfl) (fun _ _ _ h => h) (Or.inl ⟨by rfl, ?_⟩) trivial ?_
          rotate_left
          · intro w _
            go_simp
            first | done | rfl
          simp only [Act.put, List.setIfInBounds_toArray, List.set_cons_zero, List.set_cons_succ]
          refine wpAnyH_ready (rs := [15]) (by kernel_rfl) (by simp) ?_
          refine AllReadyH.cons (o := { dst := some 27, op := .call { callee := .value (.func 50), args := #[.tmp 26, .const (.int .i64 32), .const (.int .i64 8)], argTypes := #[9, 3, 3] }, type := 22, pos := _, after := _, guard := none }) rfl (fun K hK => ?_) ?_
          · go_simp
            refine (HT1.out _).mono ?_
            rintro e x4 ⟨rfl, hb⟩
            refine hK.out _ _ trivial (fun _ => ?_)
            clear hK K
            have I4 := Lib.hid (I3.out.next hb)
            have G4 := Lib.hid (And.intro (G3.out.1.later hb) G3.out.2)
            clear hb I3 G3
            refine wpAnyH_take (i := 16) (oi := { dst := some 28, op := .convert 22 3 (.tmp 27), type := _, pos := _, after := _, guard := none }) (v := ?_) rfl (by kernel_rfl) (by kernel_rfl) (by kernel_rfl) (fun _ _ _ h => h) (Or.inl ⟨by rfl, ?_⟩) trivial ?_
            rotate_left
            · intro w _
              go_simp
              first | done | rfl
            simp only [Act.put, List.setIfInBounds_toArray, List.set_cons_zero, List.set_cons_succ]
            refine wpAnyH_ready (rs := [18]) (by kernel_rfl) (by simp) ?_
            refine AllReadyH.cons (o := { dst := some 30, op := .call { callee := .value (.func 50), args := #[.tmp 29, .const (.int .i64 40), .const (.int .i64 8)], argTypes := #[9, 3, 3] }, type := 22, pos := _, after := _, guard := none }) rfl (fun K hK => ?_) ?_
            · go_simp
              refine (HT2.out _).mono ?_
              rintro e x5 ⟨rfl, hb⟩
              refine hK.out _ _ trivial (fun _ => ?_)
              clear hK K
              have I5 := Lib.hid (I4.out.next hb)
              have G5 := Lib.hid (And.intro (G4.out.1.later hb) G4.out.2)
              clear hb I4 G4
              refine wpAnyH_take (i := 19) (oi := { dst := some 31, op := .convert 22 3 (.tmp 30), type := _, pos := _, after := _, guard := none }) (v := ?_) rfl (by kernel_rfl) (by kernel_rfl) (by kernel_rfl) (fun _ _ _ h => h) (Or.inl ⟨by rfl, ?_⟩) trivial ?_
              rotate_left
              · intro w _
                go_simp
                first | done | rfl
              simp only [Act.put, List.setIfInBounds_toArray, List.set_cons_zero, List.set_cons_succ]
              refine wpAnyH_ready (rs := [21]) (by kernel_rfl) (by simp) ?_
              refine AllReadyH.cons (o := { dst := some 33, op := .call { callee := .value (.func 50), args := #[.tmp 32, .const (.int .i64 48), .const (.int .i64 8)], argTypes := #[9, 3, 3] }, type := 22, pos := _, after := _, guard := none }) rfl (fun K hK => ?_) ?_
              · go_simp
                refine (HT3.out _).mono ?_
                rintro e x6 ⟨rfl, hb⟩
                refine hK.out _ _ trivial (fun _ => ?_)
                clear hK K
                have I6 := Lib.hid (I5.out.next hb)
                have G6 := Lib.hid (And.intro (G5.out.1.later hb) G5.out.2)
                clear hb I5 G5
                refine wpAnyH_take (i := 22) (oi := { dst := some 34, op := .convert 22 3 (.tmp 33), type := _, pos := _, after := _, guard := none }) (v := ?_) rfl (by kernel_rfl) (by kernel_rfl) (by kernel_rfl) (fun _ _ _ h => h) (Or.inl ⟨by rfl, ?_⟩) trivial ?_
                rotate_left
                · intro w _
                  go_simp
                  first | done | rfl
                simp only [Act.put, List.setIfInBounds_toArray, List.set_cons_zero, List.set_cons_succ]
                refine wpAnyH_ready (rs := [24]) (by kernel_rfl) (by simp) ?_
                refine AllReadyH.cons (o := { dst := some 36, op := .call { callee := .value (.func 50), args := #[.tmp 35, .const (.int .i64 56), .const (.int .i64 8)], argTypes := #[9, 3, 3] }, type := 22, pos := _, after := _, guard := none }) rfl (fun K hK => ?_) ?_
                · go_simp
                  refine (HT4.out _).mono ?_
                  rintro e x7 ⟨rfl, hb⟩
                  refine hK.out _ _ trivial (fun _ => ?_)
                  clear hK K
                  have I7 := Lib.hid (I6.out.next hb)
                  have G7 := Lib.hid (And.intro (G6.out.1.later hb) G6.out.2)
                  clear hb I6 G6
                  refine wpAnyH_take (i := 25) (oi := { dst := some 37, op := .convert 22 3 (.tmp 36), type := _, pos := _, after := _, guard := none }) (v := ?_) rfl (by kernel_rfl) (by kernel_rfl) (by kernel_rfl) (fun _ _ _ h => h) (Or.inl ⟨by rfl, ?_⟩) trivial ?_
                  rotate_left
                  · intro w _
                    go_simp
                    first | done | rfl
                  simp only [Act.put, List.setIfInBounds_toArray, List.set_cons_zero, List.set_cons_succ]
                  refine wpAnyH_ready (rs := [27]) (by kernel_rfl) (by simp) ?_
                  refine AllReadyH.cons (o := { dst := some 39, op := .call { callee := .value (.func 50), args := #[.tmp 38, .const (.int .i64 64), .const (.int .i64 8)], argTypes := #[9, 3, 3] }, type := 22, pos := _, after := _, guard := none }) rfl (fun K hK => ?_) ?_
                  · go_simp
                    refine (HT5.out _).mono ?_
                    rintro e x8 ⟨rfl, hb⟩
                    refine hK.out _ _ trivial (fun _ => ?_)
                    clear hK K
                    have I8 := Lib.hid (I7.out.next hb)
                    have G8 := Lib.hid (And.intro (G7.out.1.later hb) G7.out.2)
                    clear hb I7 G7
                    refine wpAnyH_take (i := 28) (oi := { dst := some 40, op := .convert 22 3 (.tmp 39), type := _, pos := _, after := _, guard := none }) (v := ?_) rfl (by kernel_rfl) (by kernel_rfl) (by kernel_rfl) (fun _ _ _ h => h) (Or.inl ⟨by rfl, ?_⟩) trivial ?_
                    rotate_left
                    · intro w _
                      go_simp
                      first | done | rfl
                    simp only [Act.put, List.setIfInBounds_toArray, List.set_cons_zero, List.set_cons_succ]
                    refine wpAnyH_ready (rs := [30]) (by kernel_rfl) (by simp) ?_
                    refine AllReadyH.cons (o := { dst := some 42, op := .call { callee := .value (.func 50), args := #[.tmp 41, .const (.int .i64 72), .const (.int .i64 8)], argTypes := #[9, 3, 3] }, type := 22, pos := _, after := _, guard := none }) rfl (fun K hK => ?_) ?_
                    · go_simp
                      refine (HT6.out _).mono ?_
                      rintro e x9 ⟨rfl, hb⟩
                      refine hK.out _ _ trivial (fun _ => ?_)
                      clear hK K
                      have I9 := Lib.hid (I8.out.next hb)
                      have G9 := Lib.hid (And.intro (G8.out.1.later hb) G8.out.2)
                      clear hb I8 G8
                      refine wpAnyH_take (i := 31) (oi := { dst := some 43, op := .convert 22 3 (.tmp 42), type := _, pos := _, after := _, guard := none }) (v := ?_) rfl (by kernel_rfl) (by kernel_rfl) (by kernel_rfl) (fun _ _ _ h => h) (Or.inl ⟨by rfl, ?_⟩) trivial ?_
                      rotate_left
                      · intro w _
                        go_simp
                        first | done | rfl
                      simp only [Act.put, List.setIfInBounds_toArray, List.set_cons_zero, List.set_cons_succ]
                      refine wpAnyH_ready (rs := [33]) (by kernel_rfl) (by simp) ?_
                      refine AllReadyH.cons (o := { dst := some 45, op := .call { callee := .value (.func 50), args := #[.tmp 44, .const (.int .i64 80), .const (.int .i64 8)], argTypes := #[9, 3, 3] }, type := 22, pos := _, after := _, guard := none }) rfl (fun K hK => ?_) ?_
                      · go_simp
                        refine (HT7.out _).mono ?_
                        rintro e x10 ⟨rfl, hb⟩
                        refine hK.out _ _ trivial (fun _ => ?_)
                        clear hK K
                        have I10 := Lib.hid (I9.out.next hb)
                        have G10 := Lib.hid (And.intro (G9.out.1.later hb) G9.out.2)
                        clear hb I9 G9
                        refine wpAnyH_take (i := 34) (oi := { dst := some 46, op := .convert 22 3 (.tmp 45), type := _, pos := _, after := _, guard := none }) (v := ?_) rfl (by kernel_rfl) (by kernel_rfl) (by kernel_rfl) (fun _ _ _ h => h) (Or.inl ⟨by rfl, ?_⟩) trivial ?_
                        rotate_left
                        · intro w _
                          go_simp
                          first | done | rfl
                        simp only [Act.put, List.setIfInBounds_toArray, List.set_cons_zero, List.set_cons_succ]
                        refine wpAnyH_take (i := 35) (oi := _) (v := ?_) rfl (by kernel_rfl) (by kernel_rfl) (by kernel_rfl) (fun _ _ _ h => h) (Or.inl ⟨by rfl, ?_⟩) trivial ?_
                        rotate_left
                        · intro w _
                          go_simp
                          first | done | rfl
                        simp only [Act.put, List.setIfInBounds_toArray, List.set_cons_zero, List.set_cons_succ]
                        obtain ⟨r0, f0⟩ := G10.out.1.2 0 _ rfl
                        obtain ⟨r1, f1⟩ := G10.out.1.2 1 _ rfl
                        obtain ⟨r2, f2⟩ := G10.out.1.2 2 _ rfl
                        obtain ⟨r3, f3⟩ := G10.out.1.2 3 _ rfl
                        obtain ⟨r4, f4⟩ := G10.out.1.2 4 _ rfl
                        obtain ⟨r5, f5⟩ := G10.out.1.2 5 _ rfl
                        obtain ⟨r6, f6⟩ := G10.out.1.2 6 _ rfl
                        obtain ⟨r7, f7⟩ := G10.out.1.2 7 _ rfl
                        obtain ⟨r8, f8⟩ := G10.out.1.2 8 _ rfl
                        obtain ⟨r9, f9⟩ := G10.out.1.2 9 _ rfl
                        obtain ⟨r10, f10⟩ := G10.out.1.2 10 _ rfl
                        obtain ⟨r11, f11⟩ := G10.out.1.2 11 _ rfl
                        refine wpAnyH_ready (rs := [37]) (by kernel_rfl) (by simp) ?_
                        refine AllReadyH.cons (o := _) rfl (fun K hK => ?_) ?_
                        · go_simp
                          refine hK.out _ _ trivial (fun _ => ?_)
                          clear hK K
                          refine wpAnyH_done (by kernel_rfl) ?_ _
                          refine NoPanic.normal ?_
                          go_wp2_with fail
                          go_meet
                          exact rmeet I10 G10
                        exact AllReadyH.nil
                      exact AllReadyH.nil
                    exact AllReadyH.nil
                  exact AllReadyH.nil
                exact AllReadyH.nil
              exact AllReadyH.nil
            exact AllReadyH.nil
          exact AllReadyH.nil
        exact AllReadyH.nil
      exact AllReadyH.nil
    refine AllReadyH.cons (o := { dst := some 5, op := .alloc 34, type := _, pos := _, after := _, guard := none }) rfl (fun K hK => ?_) ?_
    · go_simp
      refine hK.out _ _ trivial (fun _ => ?_)
      clear hK K
      have I1 := Lib.hid (I0.out.next ((Below.refl _ _).alloc (Nat.le_refl _) (.cells #[.int .i64 0, .int .i64 0, .int .i64 0, .int .i64 0, .int .i64 0, .int .i64 0, .int .i64 0, .int .i64 0, .int .i64 0, .int .i64 0, .int .i64 0, .int .u64 0] 34)))
      have G1 := Lib.hid (And.intro (Blk.new x0 #[.int .i64 0, .int .i64 0, .int .i64 0, .int .i64 0, .int .i64 0, .int .i64 0, .int .i64 0, .int .i64 0, .int .i64 0, .int .i64 0, .int .i64 0, .int .u64 0] 34 x0.heap.size rfl) I0.out.1.1)
      clear I0
      generalize (x0.alloc (.cells #[.int .i64 0, .int .i64 0, .int .i64 0, .int .i64 0, .int .i64 0, .int .i64 0, .int .i64 0, .int .i64 0, .int .i64 0, .int .i64 0, .int .i64 0, .int .u64 0] 34)) = x1 at *
      refine wpAnyH_ready (rs := [10]) (by kernel_rfl) (by simp) ?_
      refine AllReadyH.cons (o := { dst := some 22, op := .call { callee := .value (.func 50), args := #[.tmp 21, .const (.int .i64 16), .const (.int .i64 8)], argTypes := #[9, 3, 3] }, type := 22, pos := _, after := _, guard := none }) rfl (fun K hK => ?_) ?_
      · go_simp
        refine (HTP.out _).mono ?_
        rintro e x2 ⟨rfl, hb⟩
        refine hK.out _ _ trivial (fun _ => ?_)
        clear hK K
        have I2 := Lib.hid (I1.out.next hb)
        have G2 := Lib.hid (And.intro (G1.out.1.later hb) G1.out.2)
        clear hb I1 G1
        refine wpAnyH_ready (rs := [12]) (by kernel_rfl) (by simp) ?_
        refine AllReadyH.cons (o := { dst := some 24, op := .call { callee := .value (.func 50), args := #[.tmp 23, .const (.int .i64 24), .const (.int .i64 8)], argTypes := #[9, 3, 3] }, type := 22, pos := _, after := _, guard := none }) rfl (fun K hK => ?_) ?_
        · go_simp
          refine (HT0.out _).mono ?_
          rintro e x3 ⟨rfl, hb⟩
          refine hK.out _ _ trivial (fun _ => ?_)
          clear hK K
          have I3 := Lib.hid (I2.out.next hb)
          have G3 := Lib.hid (And.intro (G2.out.1.later hb) G2.out.2)
          clear hb I2 G2
          refine wpAnyH_take (i := 13) (oi := { dst := some 25, op := .convert 22 3 (.tmp 24), type := _, pos := _, after := _, guard := none }) (v := ?_) rfl (by kernel_rfl) (by kernel_rfl) (by kernel_rfl) (fun _ _ _ h => h) (Or.inl ⟨by rfl, ?_⟩) trivial ?_
          rotate_left
          · intro w _
            go_simp
            first | done | rfl
          simp only [Act.put, List.setIfInBounds_toArray, List.set_cons_zero, List.set_cons_succ]
          refine wpAnyH_ready (rs := [15]) (by kernel_rfl) (by simp) ?_
          refine AllReadyH.cons (o := { dst := some 27, op := .call { callee := .value (.func 50), args := #[.tmp 26, .const (.int .i64 32), .const (.int .i64 8)], argTypes := #[9, 3, 3] }, type := 22, pos := _, after := _, guard := none }) rfl (fun K hK => ?_) ?_
          · go_simp
            refine (HT1.out _).mono ?_
            rintro e x4 ⟨rfl, hb⟩
            refine hK.out _ _ trivial (fun _ => ?_)
            clear hK K
            have I4 := Lib.hid (I3.out.next hb)
            have G4 := Lib.hid (And.intro (G3.out.1.later hb) G3.out.2)
            clear hb I3 G3
            refine wpAnyH_take (i := 16) (oi := { dst := some 28, op := .convert 22 3 (.tmp 27), type := _, pos := _, after := _, guard := none }) (v := ?_) rfl (by kernel_rfl) (by kernel_rfl) (by kernel_rfl) (fun _ _ _ h => h) (Or.inl ⟨by rfl, ?_⟩) trivial ?_
            rotate_left
            · intro w _
              go_simp
              first | done | rfl
            simp only [Act.put, List.setIfInBounds_toArray, List.set_cons_zero, List.set_cons_succ]
            refine wpAnyH_ready (rs := [18]) (by kernel_rfl) (by simp) ?_
            refine AllReadyH.cons (o := { dst := some 30, op := .call { callee := .value (.func 50), args := #[.tmp 29, .const (.int .i64 40), .const (.int .i64 8)], argTypes := #[9, 3, 3] }, type := 22, pos := _, after := _, guard := none }) rfl (fun K hK => ?_) ?_
            · go_simp
              refine (HT2.out _).mono ?_
              rintro e x5 ⟨rfl, hb⟩
              refine hK.out _ _ trivial (fun _ => ?_)
              clear hK K
              have I5 := Lib.hid (I4.out.next hb)
              have G5 := Lib.hid (And.intro (G4.out.1.later hb) G4.out.2)
              clear hb I4 G4
              refine wpAnyH_take (i := 19) (oi := { dst := some 31, op := .convert 22 3 (.tmp 30), type := _, pos := _, after := _, guard := none }) (v := ?_) rfl (by kernel_rfl) (by kernel_rfl) (by kernel_rfl) (fun _ _ _ h => h) (Or.inl ⟨by rfl, ?_⟩) trivial ?_
              rotate_left
              · intro w _
                go_simp
                first | done | rfl
              simp only [Act.put, List.setIfInBounds_toArray, List.set_cons_zero, List.set_cons_succ]
              refine wpAnyH_ready (rs := [21]) (by kernel_rfl) (by simp) ?_
              refine AllReadyH.cons (o := { dst := some 33, op := .call { callee := .value (.func 50), args := #[.tmp 32, .const (.int .i64 48), .const (.int .i64 8)], argTypes := #[9, 3, 3] }, type := 22, pos := _, after := _, guard := none }) rfl (fun K hK => ?_) ?_
              · go_simp
                refine (HT3.out _).mono ?_
                rintro e x6 ⟨rfl, hb⟩
                refine hK.out _ _ trivial (fun _ => ?_)
                clear hK K
                have I6 := Lib.hid (I5.out.next hb)
                have G6 := Lib.hid (And.intro (G5.out.1.later hb) G5.out.2)
                clear hb I5 G5
                refine wpAnyH_take (i := 22) (oi := { dst := some 34, op := .convert 22 3 (.tmp 33), type := _, pos := _, after := _, guard := none }) (v := ?_) rfl (by kernel_rfl) (by kernel_rfl) (by kernel_rfl) (fun _ _ _ h => h) (Or.inl ⟨by rfl, ?_⟩) trivial ?_
                rotate_left
                · intro w _
                  go_simp
                  first | done | rfl
                simp only [Act.put, List.setIfInBounds_toArray, List.set_cons_zero, List.set_cons_succ]
                refine wpAnyH_ready (rs := [24]) (by kernel_rfl) (by simp) ?_
                refine AllReadyH.cons (o := { dst := some 36, op := .call { callee := .value (.func 50), args := #[.tmp 35, .const (.int .i64 56), .const (.int .i64 8)], argTypes := #[9, 3, 3] }, type := 22, pos := _, after := _, guard := none }) rfl (fun K hK => ?_) ?_
                · go_simp
                  refine (HT4.out _).mono ?_
                  rintro e x7 ⟨rfl, hb⟩
                  refine hK.out _ _ trivial (fun _ => ?_)
                  clear hK K
                  have I7 := Lib.hid (I6.out.next hb)
                  have G7 := Lib.hid (And.intro (G6.out.1.later hb) G6.out.2)
                  clear hb I6 G6
                  refine wpAnyH_take (i := 25) (oi := { dst := some 37, op := .convert 22 3 (.tmp 36), type := _, pos := _, after := _, guard := none }) (v := ?_) rfl (by kernel_rfl) (by kernel_rfl) (by kernel_rfl) (fun _ _ _ h => h) (Or.inl ⟨by rfl, ?_⟩) trivial ?_
                  rotate_left
                  · intro w _
                    go_simp
                    first | done | rfl
                  simp only [Act.put, List.setIfInBounds_toArray, List.set_cons_zero, List.set_cons_succ]
                  refine wpAnyH_ready (rs := [27]) (by kernel_rfl) (by simp) ?_
                  refine AllReadyH.cons (o := { dst := some 39, op := .call { callee := .value (.func 50), args := #[.tmp 38, .const (.int .i64 64), .const (.int .i64 8)], argTypes := #[9, 3, 3] }, type := 22, pos := _, after := _, guard := none }) rfl (fun K hK => ?_) ?_
                  · go_simp
                    refine (HT5.out _).mono ?_
                    rintro e x8 ⟨rfl, hb⟩
                    refine hK.out _ _ trivial (fun _ => ?_)
                    clear hK K
                    have I8 := Lib.hid (I7.out.next hb)
                    have G8 := Lib.hid (And.intro (G7.out.1.later hb) G7.out.2)
                    clear hb I7 G7
                    refine wpAnyH_take (i := 28) (oi := { dst := some 40, op := .convert 22 3 (.tmp 39), type := _, pos := _, after := _, guard := none }) (v := ?_) rfl (by kernel_rfl) (by kernel_rfl) (by kernel_rfl) (fun _ _ _ h => h) (Or.inl ⟨by rfl, ?_⟩) trivial ?_
                    rotate_left
                    · intro w _
                      go_simp
                      first | done | rfl
                    simp only [Act.put, List.setIfInBounds_toArray, List.set_cons_zero, List.set_cons_succ]
                    refine wpAnyH_ready (rs := [30]) (by kernel_rfl) (by simp) ?_
                    refine AllReadyH.cons (o := { dst := some 42, op := .call { callee := .value (.func 50), args := #[.tmp 41, .const (.int .i64 72), .const (.int .i64 8)], argTypes := #[9, 3, 3] }, type := 22, pos := _, after := _, guard := none }) rfl (fun K hK => ?_) ?_
                    · go_simp
                      refine (HT6.out _).mono ?_
                      rintro e x9 ⟨rfl, hb⟩
                      refine hK.out _ _ trivial (fun _ => ?_)
                      clear hK K
                      have I9 := Lib.hid (I8.out.next hb)
                      have G9 := Lib.hid (And.intro (G8.out.1.later hb) G8.out.2)
                      clear hb I8 G8
                      refine wpAnyH_take (i := 31) (oi := { dst := some 43, op := .convert 22 3 (.tmp 42), type := _, pos := _, after := _, guard := none }) (v := ?_) rfl (by kernel_rfl) (by kernel_rfl) (by kernel_rfl) (fun _ _ _ h => h) (Or.inl ⟨by rfl, ?_⟩) trivial ?_
                      rotate_left
                      · intro w _
                        go_simp
                        first | done | rfl
                      simp only [Act.put, List.setIfInBounds_toArray, List.set_cons_zero, List.set_cons_succ]
                      refine wpAnyH_ready (rs := [33]) (by kernel_rfl) (by simp) ?_
                      refine AllReadyH.cons (o := { dst := some 45, op := .call { callee := .value (.func 50), args := #[.tmp 44, .const (.int .i64 80), .const (.int .i64 8)], argTypes := #[9, 3, 3] }, type := 22, pos := _, after := _, guard := none }) rfl (fun K hK => ?_) ?_
                      · go_simp
                        refine (HT7.out _).mono ?_
                        rintro e x10 ⟨rfl, hb⟩
                        refine hK.out _ _ trivial (fun _ => ?_)
                        clear hK K
                        have I10 := Lib.hid (I9.out.next hb)
                        have G10 := Lib.hid (And.intro (G9.out.1.later hb) G9.out.2)
                        clear hb I9 G9
                        refine wpAnyH_take (i := 34) (oi := { dst := some 46, op := .convert 22 3 (.tmp 45), type := _, pos := _, after := _, guard := none }) (v := ?_) rfl (by kernel_rfl) (by kernel_rfl) (by kernel_rfl) (fun _ _ _ h => h) (Or.inl ⟨by rfl, ?_⟩) trivial ?_
                        rotate_left
                        · intro w _
                          go_simp
                          first | done | rfl
                        simp only [Act.put, List.setIfInBounds_toArray, List.set_cons_zero, List.set_cons_succ]
                        refine wpAnyH_take (i := 35) (oi := _) (v := ?_) rfl (by kernel_rfl) (by kernel_rfl) (by kernel_rfl) (fun _ _ _ h => h) (Or.inl ⟨by rfl, ?_⟩) trivial ?_
                        rotate_left
                        · intro w _
                          go_simp
                          first | done | rfl
                        simp only [Act.put, List.setIfInBounds_toArray, List.set_cons_zero, List.set_cons_succ]
                        obtain ⟨r0, f0⟩ := G10.out.1.2 0 _ rfl
                        obtain ⟨r1, f1⟩ := G10.out.1.2 1 _ rfl
                        obtain ⟨r2, f2⟩ := G10.out.1.2 2 _ rfl
                        obtain ⟨r3, f3⟩ := G10.out.1.2 3 _ rfl
                        obtain ⟨r4, f4⟩ := G10.out.1.2 4 _ rfl
                        obtain ⟨r5, f5⟩ := G10.out.1.2 5 _ rfl
                        obtain ⟨r6, f6⟩ := G10.out.1.2 6 _ rfl
                        obtain ⟨r7, f7⟩ := G10.out.1.2 7 _ rfl
                        obtain ⟨r8, f8⟩ := G10.out.1.2 8 _ rfl
                        obtain ⟨r9, f9⟩ := G10.out.1.2 9 _ rfl
                        obtain ⟨r10, f10⟩ := G10.out.1.2 10 _ rfl
                        obtain ⟨r11, f11⟩ := G10.out.1.2 11 _ rfl
                        refine wpAnyH_ready (rs := [37]) (by kernel_rfl) (by simp) ?_
                        refine AllReadyH.cons (o := _) rfl (fun K hK => ?_) ?_
                        · go_simp
                          refine hK.out _ _ trivial (fun _ => ?_)
                          clear hK K
                          refine wpAnyH_done (by kernel_rfl) ?_ _
                          refine NoPanic.normal ?_
                          go_wp2_with fail
                          go_meet
                          exact rmeet I10 G10
                        exact AllReadyH.nil
                      exact AllReadyH.nil
                    exact AllReadyH.nil
                  exact AllReadyH.nil
                exact AllReadyH.nil
              exact AllReadyH.nil
            exact AllReadyH.nil
          exact AllReadyH.nil
        exact AllReadyH.nil
      exact AllReadyH.nil
    exact AllReadyH.nil
  case rest =>
    clear HT0 HT1 HT2 HT3 HT4 HT5 HT6 HT7 HTP
    obtain ⟨g, rfl, hB, hG, hgl⟩ := hcut
    obtain ⟨P, hP⟩ : ∃ P : Int, P = VP := ⟨_, rfl⟩
    have HP : Hid (P = up l) := Lib.hid (hP.trans HP.out)
    rw [← hP] at hG
    have wk : ∀ x : Int, 0 ≤ x → x ≤ 255 → IntKind.i64.wrap x = x := fun x h1 h2 => by rw [IntKind.wrap_i64]; omega
    rw [wk K0 k0 k0', wk K1 k1 k1', wk K2 k2 k2', IntWalk.i64_left (V0 : Int), hw0, IntWalk.i64_left (V1 : Int), hw1, IntWalk.i64_left (V2 : Int), hw2, IntWalk.i64_left (V3 : Int), hw3, IntWalk.i64_left (V4 : Int), hw4, IntWalk.i64_left (V5 : Int), hw5, IntWalk.i64_left (V6 : Int), hw6, IntWalk.i64_left (V7 : Int), hw7] at hG
    clear hP wk hw0 hw1 hw2 hw3 hw4 hw5 hw6 hw7 hb0 hb1 hb2 k0 k0' k1 k1' k2 k2' hs0 hs1 hs2
    have H := Lib.hid (show BG w g #[.int .i64 K0, .int .i64 K1, .int .i64 K2, .int .i64 N0, .int .i64 N1, .int .i64 N2, .int .i64 N3, .int .i64 N4, .int .i64 N5, .int .i64 N6, .int .i64 N7, .int .u64 P] wc from ⟨hB, hG.row, hgl⟩)
    clear hB hG
    have HE : Hid (unHdr (nats s) 8 = #[.int .i64 K0, .int .i64 K1, .int .i64 K2, .int .i64 N0, .int .i64 N1, .int .i64 N2, .int .i64 N3, .int .i64 N4, .int .i64 N5, .int .i64 N6, .int .i64 N7, .int .u64 P]) := Lib.hid (by rw [← HL0.out, HK.out.1, HK.out.2.1, HK.out.2.2, HN.out.1, HN.out.2.1, HN.out.2.2.1, HN.out.2.2.2.1, HN.out.2.2.2.2.1, HN.out.2.2.2.2.2.1, HN.out.2.2.2.2.2.2.1, HN.out.2.2.2.2.2.2.2, HP.out]; rfl)
    have HUE : Hid (unE s = packE K0 K1 K2 N0 N1 N2 N3 N4 N5 N6 N7 (s.extract 128 s.size)) := Lib.hid (by unfold unE; rw [← HL0.out, HK.out.1, HK.out.2.1, HK.out.2.2, HN.out.1, HN.out.2.1, HN.out.2.2.1, HN.out.2.2.2.1, HN.out.2.2.2.2.1, HN.out.2.2.2.2.2.1, HN.out.2.2.2.2.2.2.1, HN.out.2.2.2.2.2.2.2])
    have HUS : Hid (unS s = packS K0 K1 K2 N0 N1 N2 N3 N4 N5 N6 N7 P (s.extract 128 s.size)) := Lib.hid (by unfold unS; rw [← HL0.out, HK.out.1, HK.out.2.1, HK.out.2.2, HN.out.1, HN.out.2.1, HN.out.2.2.1, HN.out.2.2.2.1, HN.out.2.2.2.2.1, HN.out.2.2.2.2.2.1, HN.out.2.2.2.2.2.2.1, HN.out.2.2.2.2.2.2.2, HP.out])
    have HPK := Lib.hid (fun W => rpack_any K0 K1 K2 N0 N1 N2 N3 N4 N5 N6 N7 P (s.extract 128 s.size) (by rw [HP.out]; exact up_bd l HL8.out) W)
    obtain ⟨E, hE⟩ : ∃ x, x = packE K0 K1 K2 N0 N1 N2 N3 N4 N5 N6 N7 (s.extract 128 s.size) := ⟨_, rfl⟩
    obtain ⟨S, hS⟩ : ∃ x, x = packS K0 K1 K2 N0 N1 N2 N3 N4 N5 N6 N7 P (s.extract 128 s.size) := ⟨_, rfl⟩
    rw [← hE] at HUE HPK
    rw [← hS] at HUS HPK
    clear hE hS
    go_wp2_with fail
    have l0 : ∀ W, BG w g #[.int .i64 K0, .int .i64 K1, .int .i64 K2, .int .i64 N0, .int .i64 N1, .int .i64 N2, .int .i64 N3, .int .i64 N4, .int .i64 N5, .int .i64 N6, .int .i64 N7, .int .u64 P] W → W.cell? ⟨g, 0, none⟩ = some (.int .i64 K0) := fun W h => h.2.1.2 0 _ rfl
    have l1 : ∀ W, BG w g #[.int .i64 K0, .int .i64 K1, .int .i64 K2, .int .i64 N0, .int .i64 N1, .int .i64 N2, .int .i64 N3, .int .i64 N4, .int .i64 N5, .int .i64 N6, .int .i64 N7, .int .u64 P] W → W.cell? ⟨g, 1, none⟩ = some (.int .i64 K1) := fun W h => h.2.1.2 1 _ rfl
    have l2 : ∀ W, BG w g #[.int .i64 K0, .int .i64 K1, .int .i64 K2, .int .i64 N0, .int .i64 N1, .int .i64 N2, .int .i64 N3, .int .i64 N4, .int .i64 N5, .int .i64 N6, .int .i64 N7, .int .u64 P] W → W.cell? ⟨g, 2, none⟩ = some (.int .i64 K2) := fun W h => h.2.1.2 2 _ rfl
    have l3 : ∀ W, BG w g #[.int .i64 K0, .int .i64 K1, .int .i64 K2, .int .i64 N0, .int .i64 N1, .int .i64 N2, .int .i64 N3, .int .i64 N4, .int .i64 N5, .int .i64 N6, .int .i64 N7, .int .u64 P] W → W.cell? ⟨g, 3, none⟩ = some (.int .i64 N0) := fun W h => h.2.1.2 3 _ rfl
    have l4 : ∀ W, BG w g #[.int .i64 K0, .int .i64 K1, .int .i64 K2, .int .i64 N0, .int .i64 N1, .int .i64 N2, .int .i64 N3, .int .i64 N4, .int .i64 N5, .int .i64 N6, .int .i64 N7, .int .u64 P] W → W.cell? ⟨g, 4, none⟩ = some (.int .i64 N1) := fun W h => h.2.1.2 4 _ rfl
    have l5 : ∀ W, BG w g #[.int .i64 K0, .int .i64 K1, .int .i64 K2, .int .i64 N0, .int .i64 N1, .int .i64 N2, .int .i64 N3, .int .i64 N4, .int .i64 N5, .int .i64 N6, .int .i64 N7, .int .u64 P] W → W.cell? ⟨g, 5, none⟩ = some (.int .i64 N2) := fun W h => h.2.1.2 5 _ rfl
    have l6 : ∀ W, BG w g #[.int .i64 K0, .int .i64 K1, .int .i64 K2, .int .i64 N0, .int .i64 N1, .int .i64 N2, .int .i64 N3, .int .i64 N4, .int .i64 N5, .int .i64 N6, .int .i64 N7, .int .u64 P] W → W.cell? ⟨g, 6, none⟩ = some (.int .i64 N3) := fun W h => h.2.1.2 6 _ rfl
    have l7 : ∀ W, BG w g #[.int .i64 K0, .int .i64 K1, .int .i64 K2, .int .i64 N0, .int .i64 N1, .int .i64 N2, .int .i64 N3, .int .i64 N4, .int .i64 N5, .int .i64 N6, .int .i64 N7, .int .u64 P] W → W.cell? ⟨g, 7, none⟩ = some (.int .i64 N4) := fun W h => h.2.1.2 7 _ rfl
    have l8 : ∀ W, BG w g #[.int .i64 K0, .int .i64 K1, .int .i64 K2, .int .i64 N0, .int .i64 N1, .int .i64 N2, .int .i64 N3, .int .i64 N4, .int .i64 N5, .int .i64 N6, .int .i64 N7, .int .u64 P] W → W.cell? ⟨g, 8, none⟩ = some (.int .i64 N5) := fun W h => h.2.1.2 8 _ rfl
    have l9 : ∀ W, BG w g #[.int .i64 K0, .int .i64 K1, .int .i64 K2, .int .i64 N0, .int .i64 N1, .int .i64 N2, .int .i64 N3, .int .i64 N4, .int .i64 N5, .int .i64 N6, .int .i64 N7, .int .u64 P] W → W.cell? ⟨g, 9, none⟩ = some (.int .i64 N6) := fun W h => h.2.1.2 9 _ rfl
    have l10 : ∀ W, BG w g #[.int .i64 K0, .int .i64 K1, .int .i64 K2, .int .i64 N0, .int .i64 N1, .int .i64 N2, .int .i64 N3, .int .i64 N4, .int .i64 N5, .int .i64 N6, .int .i64 N7, .int .u64 P] W → W.cell? ⟨g, 10, none⟩ = some (.int .i64 N7) := fun W h => h.2.1.2 10 _ rfl
    have l11 : ∀ W, BG w g #[.int .i64 K0, .int .i64 K1, .int .i64 K2, .int .i64 N0, .int .i64 N1, .int .i64 N2, .int .i64 N3, .int .i64 N4, .int .i64 N5, .int .i64 N6, .int .i64 N7, .int .u64 P] W → W.cell? ⟨g, 11, none⟩ = some (.int .u64 P) := fun W h => h.2.1.2 11 _ rfl
    go_region_held3 (BG w g #[.int .i64 K0, .int .i64 K1, .int .i64 K2, .int .i64 N0, .int .i64 N1, .int .i64 N2, .int .i64 N3, .int .i64 N4, .int .i64 N5, .int .i64 N6, .int .i64 N7, .int .u64 P]) (first | exact H.out.drew | exact BG.next (by assumption) hbx) ((go_at_call 19; refine (HPK.out _).mono ?_; rintro e wx ⟨rfl, hbx⟩))
    all_goals
      have HX := Lib.hid (show BG w g #[.int .i64 K0, .int .i64 K1, .int .i64 K2, .int .i64 N0, .int .i64 N1, .int .i64 N2, .int .i64 N3, .int .i64 N4, .int .i64 N5, .int .i64 N6, .int .i64 N7, .int .u64 P] _ by assumption)
      clear l0 l1 l2 l3 l4 l5 l6 l7 l8 l9 l10 l11
      have hne := HX.out.2.2
      have hne1 : g ≠ w.heap.size := by omega
      have hne2 : w.heap.size ≠ g := by omega
      have hX := HX.out
      have c0 : wx.cell? ⟨g, 0, none⟩ = some (.int .i64 K0) := hX.2.1.2 0 _ rfl
      obtain ⟨r0, f0⟩ := hX.1.1.2 0 _ rfl
      replace r0 : wx.cell? ⟨w.heap.size, 0, none⟩ = some (.int .i64 0) := r0
      have c1 : wx.cell? ⟨g, 1, none⟩ = some (.int .i64 K1) := hX.2.1.2 1 _ rfl
      obtain ⟨r1, f1⟩ := hX.1.1.2 1 _ rfl
      replace r1 : wx.cell? ⟨w.heap.size, 1, none⟩ = some (.int .i64 0) := r1
      have c2 : wx.cell? ⟨g, 2, none⟩ = some (.int .i64 K2) := hX.2.1.2 2 _ rfl
      obtain ⟨r2, f2⟩ := hX.1.1.2 2 _ rfl
      replace r2 : wx.cell? ⟨w.heap.size, 2, none⟩ = some (.int .i64 0) := r2
      have c3 : wx.cell? ⟨g, 3, none⟩ = some (.int .i64 N0) := hX.2.1.2 3 _ rfl
      obtain ⟨r3, f3⟩ := hX.1.1.2 3 _ rfl
      replace r3 : wx.cell? ⟨w.heap.size, 3, none⟩ = some (.int .i64 0) := r3
      have c4 : wx.cell? ⟨g, 4, none⟩ = some (.int .i64 N1) := hX.2.1.2 4 _ rfl
      obtain ⟨r4, f4⟩ := hX.1.1.2 4 _ rfl
      replace r4 : wx.cell? ⟨w.heap.size, 4, none⟩ = some (.int .i64 0) := r4
      have c5 : wx.cell? ⟨g, 5, none⟩ = some (.int .i64 N2) := hX.2.1.2 5 _ rfl
      obtain ⟨r5, f5⟩ := hX.1.1.2 5 _ rfl
      replace r5 : wx.cell? ⟨w.heap.size, 5, none⟩ = some (.int .i64 0) := r5
      have c6 : wx.cell? ⟨g, 6, none⟩ = some (.int .i64 N3) := hX.2.1.2 6 _ rfl
      obtain ⟨r6, f6⟩ := hX.1.1.2 6 _ rfl
      replace r6 : wx.cell? ⟨w.heap.size, 6, none⟩ = some (.int .i64 0) := r6
      have c7 : wx.cell? ⟨g, 7, none⟩ = some (.int .i64 N4) := hX.2.1.2 7 _ rfl
      obtain ⟨r7, f7⟩ := hX.1.1.2 7 _ rfl
      replace r7 : wx.cell? ⟨w.heap.size, 7, none⟩ = some (.int .i64 0) := r7
      have c8 : wx.cell? ⟨g, 8, none⟩ = some (.int .i64 N5) := hX.2.1.2 8 _ rfl
      obtain ⟨r8, f8⟩ := hX.1.1.2 8 _ rfl
      replace r8 : wx.cell? ⟨w.heap.size, 8, none⟩ = some (.int .i64 0) := r8
      have c9 : wx.cell? ⟨g, 9, none⟩ = some (.int .i64 N6) := hX.2.1.2 9 _ rfl
      obtain ⟨r9, f9⟩ := hX.1.1.2 9 _ rfl
      replace r9 : wx.cell? ⟨w.heap.size, 9, none⟩ = some (.int .i64 0) := r9
      have c10 : wx.cell? ⟨g, 10, none⟩ = some (.int .i64 N7) := hX.2.1.2 10 _ rfl
      obtain ⟨r10, f10⟩ := hX.1.1.2 10 _ rfl
      replace r10 : wx.cell? ⟨w.heap.size, 10, none⟩ = some (.int .i64 0) := r10
      have c11 : wx.cell? ⟨g, 11, none⟩ = some (.int .u64 P) := hX.2.1.2 11 _ rfl
      obtain ⟨r11, f11⟩ := hX.1.1.2 11 _ rfl
      replace r11 : wx.cell? ⟨w.heap.size, 11, none⟩ = some (.int .u64 0) := r11
      clear hX
      by_cases hE0 : E = 0
      · by_cases hSs : S = s
        · have HY : Hid (unOk s = true) := Lib.hid (decide_eq_true ⟨h, HUE.out.trans hE0, HUS.out.trans hSs⟩)
          subst hE0 hSs
          go_wp2_with fail
          go_region
          go_wp2_with fail
          exact bodyPost_ret (v := .tuple #[.agg #[.int .i64 K0, .int .i64 K1, .int .i64 K2, .int .i64 N0, .int .i64 N1, .int .i64 N2, .int .i64 N3, .int .i64 N4, .int .i64 N5, .int .i64 N6, .int .i64 N7, .int .u64 P], .string (S.extract 128 S.size), .int .i64 0]) (by simp [results, Try.results43, go_sem, r0, r1, r2, r3, r4, r5, r6, r7, r8, r9, r10, r11]) rfl (UnPost.yes HY.out HE.out (((((((((((((HX.out.1.2.setCell (p := ⟨w.heap.size, 0, none⟩) (Nat.le_refl _) _).setCell (p := ⟨w.heap.size, 1, none⟩) (Nat.le_refl _) _).setCell (p := ⟨w.heap.size, 2, none⟩) (Nat.le_refl _) _).setCell (p := ⟨w.heap.size, 3, none⟩) (Nat.le_refl _) _).setCell (p := ⟨w.heap.size, 4, none⟩) (Nat.le_refl _) _).setCell (p := ⟨w.heap.size, 5, none⟩) (Nat.le_refl _) _).setCell (p := ⟨w.heap.size, 6, none⟩) (Nat.le_refl _) _).setCell (p := ⟨w.heap.size, 7, none⟩) (Nat.le_refl _) _).setCell (p := ⟨w.heap.size, 8, none⟩) (Nat.le_refl _) _).setCell (p := ⟨w.heap.size, 9, none⟩) (Nat.le_refl _) _).setCell (p := ⟨w.heap.size, 10, none⟩) (Nat.le_refl _) _).setCell (p := ⟨w.heap.size, 11, none⟩) (Nat.le_refl _) _).drew))
        · have HY : Hid (unOk s = false) := Lib.hid (decide_eq_false (fun h => hSs (HUS.out.symm.trans h.2.2)))
          subst hE0
          have hs : (S.toList == s.toList) = false := by
            rw [beq_eq_false_iff_ne, toList_data, toList_data]
            exact fun h => hSs (ByteArray.ext (Array.toList_inj.1 h))
          clear hSs
          go_wp2_with fail
          exact bodyPost_ret (v := .tuple #[.agg #[.int .i64 0, .int .i64 0, .int .i64 0, .int .i64 0, .int .i64 0, .int .i64 0, .int .i64 0, .int .i64 0, .int .i64 0, .int .i64 0, .int .i64 0, .int .u64 0], .string ⟨#[]⟩, .int .i64 4]) (by simp [results, Try.results43, go_sem, r0, r1, r2, r3, r4, r5, r6, r7, r8, r9, r10, r11]) rfl (UnPost.no HY.out ((((((((((((HX.out.1.2.setCell (p := ⟨w.heap.size, 0, none⟩) (Nat.le_refl _) _).setCell (p := ⟨w.heap.size, 1, none⟩) (Nat.le_refl _) _).setCell (p := ⟨w.heap.size, 2, none⟩) (Nat.le_refl _) _).setCell (p := ⟨w.heap.size, 3, none⟩) (Nat.le_refl _) _).setCell (p := ⟨w.heap.size, 4, none⟩) (Nat.le_refl _) _).setCell (p := ⟨w.heap.size, 5, none⟩) (Nat.le_refl _) _).setCell (p := ⟨w.heap.size, 6, none⟩) (Nat.le_refl _) _).setCell (p := ⟨w.heap.size, 7, none⟩) (Nat.le_refl _) _).setCell (p := ⟨w.heap.size, 8, none⟩) (Nat.le_refl _) _).setCell (p := ⟨w.heap.size, 9, none⟩) (Nat.le_refl _) _).setCell (p := ⟨w.heap.size, 10, none⟩) (Nat.le_refl _) _).setCell (p := ⟨w.heap.size, 11, none⟩) (Nat.le_refl _) _))
      · have HY : Hid (unOk s = false) := Lib.hid (decide_eq_false (fun h => hE0 (HUE.out.symm.trans h.2.1)))
        have hE1 : (E == 0) = false := by simp [hE0]
        have hE2 : (E != 0) = true := by simp [hE0]
        clear hE0
        go_wp2_with fail
        exact bodyPost_ret (v := .tuple #[.agg #[.int .i64 0, .int .i64 0, .int .i64 0, .int .i64 0, .int .i64 0, .int .i64 0, .int .i64 0, .int .i64 0, .int .i64 0, .int .i64 0, .int .i64 0, .int .u64 0], .string ⟨#[]⟩, .int .i64 4]) (by simp [results, Try.results43, go_sem, r0, r1, r2, r3, r4, r5, r6, r7, r8, r9, r10, r11]) rfl (UnPost.no HY.out ((((((((((((HX.out.1.2.setCell (p := ⟨w.heap.size, 0, none⟩) (Nat.le_refl _) _).setCell (p := ⟨w.heap.size, 1, none⟩) (Nat.le_refl _) _).setCell (p := ⟨w.heap.size, 2, none⟩) (Nat.le_refl _) _).setCell (p := ⟨w.heap.size, 3, none⟩) (Nat.le_refl _) _).setCell (p := ⟨w.heap.size, 4, none⟩) (Nat.le_refl _) _).setCell (p := ⟨w.heap.size, 5, none⟩) (Nat.le_refl _) _).setCell (p := ⟨w.heap.size, 6, none⟩) (Nat.le_refl _) _).setCell (p := ⟨w.heap.size, 7, none⟩) (Nat.le_refl _) _).setCell (p := ⟨w.heap.size, 8, none⟩) (Nat.le_refl _) _).setCell (p := ⟨w.heap.size, 9, none⟩) (Nat.le_refl _) _).setCell (p := ⟨w.heap.size, 10, none⟩) (Nat.le_refl _) _).setCell (p := ⟨w.heap.size, 11, none⟩) (Nat.le_refl _) _))
end Go.Proofs.Ytmebodjofcomlaa

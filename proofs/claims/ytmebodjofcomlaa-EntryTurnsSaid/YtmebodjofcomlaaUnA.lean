/- head.Unpack: bytes that are a header's, or none's. -/
import Derived.Test.YtmebodjofcomlaaHeadT
namespace Go.Proofs.Ytmebodjofcomlaa
open Go.RowKit
def unHdr (l : List Nat) (n : Nat) : Array Value := #[.int .i64 (uk l 0), .int .i64 (uk l 1), .int .i64 (uk l 2), .int .i64 (if 0 < n then un l 0 else 0), .int .i64 (if 1 < n then un l 1 else 0), .int .i64 (if 2 < n then un l 2 else 0), .int .i64 (if 3 < n then un l 3 else 0),
  .int .i64 (if 4 < n then un l 4 else 0), .int .i64 (if 5 < n then un l 5 else 0), .int .i64 (if 6 < n then un l 6 else 0), .int .i64 (if 7 < n then un l 7 else 0), .int .u64 (up l)]
def UnPost (s : ByteArray) (w : World) (e : Ending) (w' : World) : Prop := e = .returned (if unOk s = true then .tuple #[.agg (unHdr (nats s) 8), .string (s.extract 128 s.size), .int .i64 0] else .tuple #[.agg #[.int .i64 0, .int .i64 0, .int .i64 0, .int .i64 0, .int .i64 0, .int .i64 0, .int .i64 0, .int .i64 0, .int .i64 0, .int .i64 0, .int .i64 0, .int .u64 0], .string ⟨#[]⟩, .int .i64 4]) ∧ Below w.heap.size w w'
theorem UnPost.yes {s : ByteArray} {w w' : World} {hd : Array Value} (h : unOk s = true) (hE : unHdr (nats s) 8 = hd) (hb : Below w.heap.size w w') : UnPost s w (.returned (.tuple #[.agg hd, .string (s.extract 128 s.size), .int .i64 0])) w' := by
  subst hE
  exact ⟨by rw [if_pos h], hb⟩
theorem UnPost.no {s : ByteArray} {w w' : World} (h : unOk s = false) (hb : Below w.heap.size w w') : UnPost s w (.returned (.tuple #[.agg #[.int .i64 0, .int .i64 0, .int .i64 0, .int .i64 0, .int .i64 0, .int .i64 0, .int .i64 0, .int .i64 0, .int .i64 0, .int .i64 0, .int .i64 0, .int .u64 0], .string ⟨#[]⟩, .int .i64 4])) w' := ⟨by rw [if_neg (by rw [h]; simp)], hb⟩
def hdr0 : Array Value := #[.int .i64 0, .int .i64 0, .int .i64 0, .int .i64 0, .int .i64 0, .int .i64 0, .int .i64 0, .int .i64 0, .int .i64 0, .int .i64 0, .int .i64 0, .int .u64 0]
theorem unHdr_set (l : List Nat) (n : Nat) (hn : n < 8) : (unHdr l n).setIfInBounds (3 + n) (.int .i64 (un l n)) = unHdr l (n + 1) := by
  rcases (show n = 0 ∨ n = 1 ∨ n = 2 ∨ n = 3 ∨ n = 4 ∨ n = 5 ∨ n = 6 ∨ n = 7 from by omega) with rfl | rfl | rfl | rfl | rfl | rfl | rfl | rfl <;> rfl
theorem takeR_cut (l : List Nat) (a : Nat) (h : a + 8 ≤ 128) (hl : 128 ≤ l.length) : takeR (l.take 128) a 8 = (((valN ((l.drop a).take 8) : Nat) : Int), 0) := by
  have e := takeR_ok (l.take 128) a 8 (by decide) (by decide) (by rw [List.length_take]; omega)
  rw [show ((l.take 128).drop a).take 8 = (l.drop a).take 8 by rw [List.drop_take, List.take_take, Nat.min_eq_left (by omega)]] at e
  exact e
theorem Holds.other {w : World} {b o n cap : Nat} {l : List Nat} (h : Holds w (.slice (some ⟨b, o, none⟩) n cap) l) (p : Addr) (hp : p.block ≠ b) (v : Value) : Holds (w.setCell p v) (.slice (some ⟨b, o, none⟩) n cap) l := by
  obtain ⟨h1, q, c, hv, hn, hc⟩ := h
  refine ⟨h1, q, c, hv, hn, fun a ha i x hx => ?_⟩
  have hb : (a.add i).block = b := by
    injection hv with e1
    subst e1
    have hadd : (⟨b, o, none⟩ : Addr).add i = ⟨b, o + i, none⟩ := by unfold Addr.add; split <;> simp_all
    injection ha with ha
    subst ha
    rw [hadd]
  exact (World.cell?_setCell_other w _ _ _ (by intro e; exact hp (by rw [← e] at hb; exact hb))).trans (hc a ha i x hx)
theorem take_cut (p : Option Addr) (cap a : Nat) (l : List Nat) (w : World) (hb : Holds w (.slice p 128 cap) (l.take 128)) (hcap : 128 ≤ cap) (h : a + 8 ≤ 128) (hl : 128 ≤ l.length) (x : Int) (hx : x = a) :
    Calls Try.prog 40 #[.slice p 128 cap, .int .i64 x, .int .i64 8] w fun e w' => e = .returned (.tuple #[.int .u64 (valN ((l.drop a).take 8)), .int .i64 0]) ∧ Below w.heap.size w w' := by
  subst hx
  have hn : (l.take 128).length = 128 := by rw [List.length_take]; omega
  have := take_any p cap a 8 (l.take 128) w (by rw [hn]; exact hb) (by rw [hn]; exact hcap) (by rw [hn]; decide) (by omega)
  rw [takeR_cut l a h hl, hn] at this
  exact this
set_option maxHeartbeats 4000000 in
theorem unpack_try (s : ByteArray) (w : World) (h : 128 ≤ s.size) (hl : s.size ≤ 140737488355328) :
    Calls Try.prog 22 #[.string s] w (UnPost s w) := by
  have hcv := fun (W : World) => run_bytes_of_string (P := Try.prog) W 9 44 5 (s.extract 0 128) Try.underlying9 Try.underlying44 Try.underlying5
  have h' : ¬ ((s.size : Int) < 128) := by omega
  have h'' : (128 : Int) ≤ s.size := by omega
  go_enter Try.func22, Try.ntmps22
  go_wp2_with fail
  clear hcv
  generalize hgc : grownCap _ 128 0 5 = gc
  have hC2 : 128 ≤ gc := by rw [← hgc]; exact grownCap_ge _ _ _ _
  clear hgc
  obtain ⟨w1, hw1, hB0, hR, hBB, hsz⟩ : ∃ w1, w1 = ((w.alloc (.cells hdr0 34)).alloc (.cells (bytesRow (s.extract 0 128) gc) 5 ((bytesRow (s.extract 0 128) gc).size, (bytesRow (s.extract 0 128) gc).size + 1))).drew ∧ Below w.heap.size w w1 ∧ Blk w1 w.heap.size hdr0 ∧ BB w1 (w.heap.size + 1) ((nats s).take 128) ∧ w1.heap.size = w.heap.size + 2 := by
    refine ⟨_, rfl, (((Below.refl _ _).alloc (Nat.le_refl _) _).alloc (by simp) _).drew, ((Blk.new w hdr0 _ _ rfl).alloc _).drew, ?_, by simp⟩
    have := bb_row (w.alloc (.cells hdr0 34)) (s.extract 0 128) gc 5 ((bytesRow (s.extract 0 128) gc).size + 1)
    rw [nats_extract, List.drop_zero] at this
    simpa using this.drew
  have hW := Lib.hid hw1
  unfold hdr0 at hw1
  rw [← hw1]
  clear hw1
  have hin : ∀ i, i < 3 → w1.cell? ⟨w.heap.size + 1, 8 + i, none⟩ = some (.int .u8 (uk (nats s) i)) ∧ 0 ≤ uk (nats s) i ∧ uk (nats s) i ≤ 255 := by
    intro i hi
    have := (hBB.at_ (8 + i) (by rw [List.length_take, nats_length]; omega)).1
    rw [List.getD_eq_getElem?_getD, List.getElem?_take_of_lt (by omega), ← List.getD_eq_getElem?_getD] at this
    refine ⟨this, by unfold uk; omega, ?_⟩
    have := nats_lt s _ (List.getElem_mem (show 8 + i < (nats s).length by rw [nats_length]; omega))
    unfold uk
    rw [List.getD_eq_getElem?_getD, List.getElem?_eq_getElem (by rw [nats_length]; omega)]
    exact Int.ofNat_le.2 (Nat.le_of_lt_succ this)
  obtain ⟨g0, b0, b0'⟩ := hin 0 (by decide)
  obtain ⟨g1, b1, b1'⟩ := hin 1 (by decide)
  obtain ⟨g2, b2, b2'⟩ := hin 2 (by decide)
  have hH1 : Holds w1 (.slice (some ⟨w.heap.size + 1, 0, none⟩) 128 gc) ((nats s).take 128) := by
    have := hBB.holds (fun x hx => nats_lt s x (List.mem_of_mem_take hx)) 128 gc (by rw [List.length_take, nats_length]; omega)
    rwa [List.take_take, Nat.min_self] at this
  have H1 := Lib.hid (And.intro hB0 (And.intro hR hH1))
  have HSZ := Lib.hid hsz
  clear hB0 hR hBB hH1 hin
  obtain ⟨K0, hK0⟩ : ∃ x, x = uk (nats s) 0 := ⟨_, rfl⟩
  obtain ⟨K1, hK1⟩ : ∃ x, x = uk (nats s) 1 := ⟨_, rfl⟩
  obtain ⟨K2, hK2⟩ : ∃ x, x = uk (nats s) 2 := ⟨_, rfl⟩
  rw [← hK0] at g0 b0 b0'
  rw [← hK1] at g1 b1 b1'
  rw [← hK2] at g2 b2 b2'
  have HK := Lib.hid (And.intro hK0 (And.intro hK1 hK2))
  clear hK0 hK1 hK2
  have hlt : w.heap.size + 1 < w1.heap.size := by omega
  have hlt0 : w.heap.size < w1.heap.size := by omega
  clear hsz
  go_region
  go_wp2_with fail
  have hln : 128 ≤ (nats s).length := by rw [nats_length]; exact h
  have HL8 := Lib.hid (nats_lt s)
  obtain ⟨l, hl0⟩ : ∃ l, l = nats s := ⟨_, rfl⟩
  rw [← hl0] at H1 hln HK HL8
  have HL0 := Lib.hid hl0
  clear hl0
  clear g0 g1 g2 b0 b0' b1 b1' b2 b2'
  obtain ⟨g, hg⟩ : ∃ g, g = w1.heap.size := ⟨_, rfl⟩
  have HG := Lib.hid hg
  rw [← hg] at hlt hlt0 ⊢
  obtain ⟨w2, hw2, hB, hR, hH, hN⟩ : ∃ w2, w2 = (w1.alloc (.cells #[.int .i64 K0, .int .i64 K1, .int .i64 K2, .int .i64 0, .int .i64 0, .int .i64 0, .int .i64 0, .int .i64 0, .int .i64 0, .int .i64 0, .int .i64 0, .int .u64 0] 34)).drew ∧ Below w.heap.size w w2 ∧ Blk w2 w.heap.size hdr0 ∧ Holds w2 (.slice (some ⟨w.heap.size + 1, 0, none⟩) 128 gc) (l.take 128) ∧ Blk w2 g #[.int .i64 K0, .int .i64 K1, .int .i64 K2, .int .i64 0, .int .i64 0, .int .i64 0, .int .i64 0, .int .i64 0, .int .i64 0, .int .i64 0, .int .i64 0, .int .u64 0] :=
    ⟨_, rfl, (H1.out.1.alloc H1.out.1.size _).drew, (H1.out.2.1.alloc _).drew, (H1.out.2.2.later ((Below.refl _ _).alloc (Nat.le_refl _) _).drew), by rw [hg]; exact (Blk.new w1 _ _ _ rfl).drew⟩
  rw [← hw2]
  clear hw2 H1 hg
  refine (take_cut _ gc 16 l _ hH hC2 (by decide) hln 16 rfl).mono ?_
  rintro e w3 ⟨rfl, hb3⟩
  have H3 := Lib.hid (And.intro (hB.trans (hb3.mono hB.size)) (And.intro (hR.later hb3) (And.intro (hH.later hb3) (hN.later hb3))))
  clear hB hR hH hN hb3
  obtain ⟨P, hP⟩ : ∃ P : Int, P = (valN ((l.drop 16).take 8) : Nat) := ⟨_, rfl⟩
  rw [← hP]
  have HP : Hid (P = up l) := hP
  clear hP
  have gx := H3.out.2.2.2.2 11 _ rfl
  obtain ⟨gx1, gx2⟩ := gx
  have hne : w.heap.size ≠ g := by omega
  have hne1 : w.heap.size + 1 ≠ g := by omega
  have HNE := Lib.hid (And.intro hne hne1)
  clear hne hne1
  go_wp2_with fail
  obtain ⟨w4, hw4, hB, hR, hH, hN⟩ : ∃ w4, w4 = w3.setCell ⟨g, 11, none⟩ (.int .u64 P) ∧ Below w.heap.size w w4 ∧ Blk w4 w.heap.size hdr0 ∧ Holds w4 (.slice (some ⟨w.heap.size + 1, 0, none⟩) 128 gc) (l.take 128) ∧ Blk w4 g (unHdr l 0) := by
    refine ⟨_, rfl, H3.out.1.setCell (p := ⟨g, 11, none⟩) (by show w.heap.size ≤ g; omega) _, H3.out.2.1.other _ (Ne.symm HNE.out.1) _, H3.out.2.2.1.other _ (Ne.symm HNE.out.2) _, ?_⟩
    have := H3.out.2.2.2.set_ 11 (.int .u64 P)
    obtain ⟨e0, e1, e2⟩ := HK.out
    rw [e0, e1, e2, HP.out] at this
    rw [HP.out]
    exact this
  rw [← hw4]
  clear hw4 gx1 gx2 H3
  refine (numbers_any _ _).mono ?_
  rintro e w5 ⟨rfl, hb5⟩
  have H5 := Lib.hid (And.intro (hB.trans (hb5.mono hB.size)) (And.intro (hR.later hb5) (And.intro (hH.later hb5) (hN.later hb5))))
  clear hB hR hH hN hb5
  go_wp2_with fail
  go_loopw [41] (fun i wr => ∃ n : Nat, n ≤ 8 ∧ i = .int .i64 n ∧ Hid (Below w.heap.size w wr ∧ Blk wr w.heap.size hdr0 ∧ Holds wr (.slice (some ⟨w.heap.size + 1, 0, none⟩) 128 gc) (l.take 128) ∧ Blk wr g (unHdr l n))) (fun i _ => 8 - (intOf i).toNat)
  case atStart => exact ⟨0, by omega, rfl, H5⟩
  case round =>
    clear H5
    obtain ⟨n, hn, rfl, H⟩ := hrel
    by_cases hlt : n < 8
    · obtain ⟨ik, cx⟩ : (∀ w2, (Instr.index 57 (.agg #[.pointer (some ⟨g, 3, none⟩), .pointer (some ⟨g, 4, none⟩), .pointer (some ⟨g, 5, none⟩), .pointer (some ⟨g, 6, none⟩), .pointer (some ⟨g, 7, none⟩), .pointer (some ⟨g, 8, none⟩), .pointer (some ⟨g, 9, none⟩), .pointer (some ⟨g, 10, none⟩)]) (.int .i64 n)).run Try.prog w2 = .ok (.pointer (some ⟨g, 3 + n, none⟩)) w2) ∧
          (wr.cell? ⟨g, 3 + n, none⟩ = some (.int .i64 0) ∧ wr.frozen? ⟨g, 3 + n, none⟩ = false) := by
        rcases (show n = 0 ∨ n = 1 ∨ n = 2 ∨ n = 3 ∨ n = 4 ∨ n = 5 ∨ n = 6 ∨ n = 7 from by omega) with rfl | rfl | rfl | rfl | rfl | rfl | rfl | rfl
        · exact ⟨fun _ => by kernel_rfl, H.out.2.2.2.2 3 _ rfl⟩
        · exact ⟨fun _ => by kernel_rfl, H.out.2.2.2.2 4 _ rfl⟩
        · exact ⟨fun _ => by kernel_rfl, H.out.2.2.2.2 5 _ rfl⟩
        · exact ⟨fun _ => by kernel_rfl, H.out.2.2.2.2 6 _ rfl⟩
        · exact ⟨fun _ => by kernel_rfl, H.out.2.2.2.2 7 _ rfl⟩
        · exact ⟨fun _ => by kernel_rfl, H.out.2.2.2.2 8 _ rfl⟩
        · exact ⟨fun _ => by kernel_rfl, H.out.2.2.2.2 9 _ rfl⟩
        · exact ⟨fun _ => by kernel_rfl, H.out.2.2.2.2 10 _ rfl⟩
      obtain ⟨c1, c2⟩ := cx
      go_wp2_with fail
      refine (take_cut _ gc (24 + 8 * n) l _ H.out.2.2.1 hC2 (by omega) hln _ (by omega)).mono ?_
      rintro e w6 ⟨rfl, hb6⟩
      have H6 := Lib.hid (And.intro (H.out.1.trans (hb6.mono H.out.1.size)) (And.intro (H.out.2.1.later hb6) (And.intro (H.out.2.2.1.later hb6) (H.out.2.2.2.later hb6))))
      have c1' := (hb6.cell (p := ⟨g, 3 + n, none⟩) H.out.2.2.2.1).trans c1
      have c2' := (hb6.frozen (p := ⟨g, 3 + n, none⟩) H.out.2.2.2.1).trans c2
      clear hb6 c1 c2 H
      obtain ⟨V, hV⟩ : ∃ V : Int, V = (valN ((l.drop (24 + 8 * n)).take 8) : Nat) := ⟨_, rfl⟩
      rw [← hV]
      have HV := Lib.hid (show wrap64 V = un l n by rw [hV, ← IntWalk.i64_left]; rfl)
      clear hV
      go_wp2_with fail
      go_roundw
      case rel =>
        refine ⟨n + 1, by omega, by go_num, Lib.hid ⟨H6.out.1.setCell (p := ⟨g, 3 + n, none⟩) (by show w.heap.size ≤ g; omega) _, H6.out.2.1.other _ (Ne.symm HNE.out.1) _, H6.out.2.2.1.other _ (Ne.symm HNE.out.2) _, ?_⟩⟩
        have := H6.out.2.2.2.set_ (3 + n) (.int .i64 (un l n))
        rw [unHdr_set l n hlt, ← HV.out] at this
        exact this
      case measure => simp [intOf]; omega
    · obtain rfl : n = 8 := by omega
      obtain ⟨N0, hN0⟩ : ∃ x, x = un l 0 := ⟨_, rfl⟩
      obtain ⟨N1, hN1⟩ : ∃ x, x = un l 1 := ⟨_, rfl⟩
      obtain ⟨N2, hN2⟩ : ∃ x, x = un l 2 := ⟨_, rfl⟩
      obtain ⟨N3, hN3⟩ : ∃ x, x = un l 3 := ⟨_, rfl⟩
      obtain ⟨N4, hN4⟩ : ∃ x, x = un l 4 := ⟨_, rfl⟩
      obtain ⟨N5, hN5⟩ : ∃ x, x = un l 5 := ⟨_, rfl⟩
      obtain ⟨N6, hN6⟩ : ∃ x, x = un l 6 := ⟨_, rfl⟩
      obtain ⟨N7, hN7⟩ : ∃ x, x = un l 7 := ⟨_, rfl⟩
      have c0 : wr.cell? ⟨g, 0, none⟩ = some (.int .i64 K0) := by rw [HK.out.1]; exact (H.out.2.2.2.2 0 _ rfl).1
      have c1 : wr.cell? ⟨g, 1, none⟩ = some (.int .i64 K1) := by rw [HK.out.2.1]; exact (H.out.2.2.2.2 1 _ rfl).1
      have c2 : wr.cell? ⟨g, 2, none⟩ = some (.int .i64 K2) := by rw [HK.out.2.2]; exact (H.out.2.2.2.2 2 _ rfl).1
      have c3 : wr.cell? ⟨g, 3, none⟩ = some (.int .i64 N0) := by rw [hN0]; exact (H.out.2.2.2.2 3 _ rfl).1
      have c4 : wr.cell? ⟨g, 4, none⟩ = some (.int .i64 N1) := by rw [hN1]; exact (H.out.2.2.2.2 4 _ rfl).1
      have c5 : wr.cell? ⟨g, 5, none⟩ = some (.int .i64 N2) := by rw [hN2]; exact (H.out.2.2.2.2 5 _ rfl).1
      have c6 : wr.cell? ⟨g, 6, none⟩ = some (.int .i64 N3) := by rw [hN3]; exact (H.out.2.2.2.2 6 _ rfl).1
      have c7 : wr.cell? ⟨g, 7, none⟩ = some (.int .i64 N4) := by rw [hN4]; exact (H.out.2.2.2.2 7 _ rfl).1
      have c8 : wr.cell? ⟨g, 8, none⟩ = some (.int .i64 N5) := by rw [hN5]; exact (H.out.2.2.2.2 8 _ rfl).1
      have c9 : wr.cell? ⟨g, 9, none⟩ = some (.int .i64 N6) := by rw [hN6]; exact (H.out.2.2.2.2 9 _ rfl).1
      have c10 : wr.cell? ⟨g, 10, none⟩ = some (.int .i64 N7) := by rw [hN7]; exact (H.out.2.2.2.2 10 _ rfl).1
      have c11 : wr.cell? ⟨g, 11, none⟩ = some (.int .u64 P) := by rw [HP.out]; exact (H.out.2.2.2.2 11 _ rfl).1
      have HN := Lib.hid (And.intro hN0 (And.intro hN1 (And.intro hN2 (And.intro hN3 (And.intro hN4 (And.intro hN5 (And.intro hN6 hN7)))))))
      clear hN0 hN1 hN2 hN3 hN4 hN5 hN6 hN7
      have HE : Hid (unHdr (nats s) 8 = #[.int .i64 K0, .int .i64 K1, .int .i64 K2, .int .i64 N0, .int .i64 N1, .int .i64 N2, .int .i64 N3, .int .i64 N4, .int .i64 N5, .int .i64 N6, .int .i64 N7, .int .u64 P]) := Lib.hid (by rw [← HL0.out, HK.out.1, HK.out.2.1, HK.out.2.2, HN.out.1, HN.out.2.1, HN.out.2.2.1, HN.out.2.2.2.1, HN.out.2.2.2.2.1, HN.out.2.2.2.2.2.1, HN.out.2.2.2.2.2.2.1, HN.out.2.2.2.2.2.2.2, HP.out]; rfl)
      have HUE : Hid (unE s = packE K0 K1 K2 N0 N1 N2 N3 N4 N5 N6 N7 (s.extract 128 s.size)) := Lib.hid (by unfold unE; rw [← HL0.out, HK.out.1, HK.out.2.1, HK.out.2.2, HN.out.1, HN.out.2.1, HN.out.2.2.1, HN.out.2.2.2.1, HN.out.2.2.2.2.1, HN.out.2.2.2.2.2.1, HN.out.2.2.2.2.2.2.1, HN.out.2.2.2.2.2.2.2])
      have HUS : Hid (unS s = packS K0 K1 K2 N0 N1 N2 N3 N4 N5 N6 N7 P (s.extract 128 s.size)) := Lib.hid (by unfold unS; rw [← HL0.out, HK.out.1, HK.out.2.1, HK.out.2.2, HN.out.1, HN.out.2.1, HN.out.2.2.1, HN.out.2.2.2.1, HN.out.2.2.2.2.1, HN.out.2.2.2.2.2.1, HN.out.2.2.2.2.2.2.1, HN.out.2.2.2.2.2.2.2, HP.out])
      go_wp2_with fail
      refine (pack_any K0 K1 K2 N0 N1 N2 N3 N4 N5 N6 N7 P (s.extract 128 s.size) (by rw [HP.out]; exact up_bd l HL8.out) _).mono ?_
      rintro e w7 ⟨rfl, hb7⟩
      have hR7 := H.out.2.1.later hb7
      replace c0 := (hb7.cell (p := ⟨g, 0, none⟩) H.out.2.2.2.1).trans c0
      replace c1 := (hb7.cell (p := ⟨g, 1, none⟩) H.out.2.2.2.1).trans c1
      replace c2 := (hb7.cell (p := ⟨g, 2, none⟩) H.out.2.2.2.1).trans c2
      replace c3 := (hb7.cell (p := ⟨g, 3, none⟩) H.out.2.2.2.1).trans c3
      replace c4 := (hb7.cell (p := ⟨g, 4, none⟩) H.out.2.2.2.1).trans c4
      replace c5 := (hb7.cell (p := ⟨g, 5, none⟩) H.out.2.2.2.1).trans c5
      replace c6 := (hb7.cell (p := ⟨g, 6, none⟩) H.out.2.2.2.1).trans c6
      replace c7 := (hb7.cell (p := ⟨g, 7, none⟩) H.out.2.2.2.1).trans c7
      replace c8 := (hb7.cell (p := ⟨g, 8, none⟩) H.out.2.2.2.1).trans c8
      replace c9 := (hb7.cell (p := ⟨g, 9, none⟩) H.out.2.2.2.1).trans c9
      replace c10 := (hb7.cell (p := ⟨g, 10, none⟩) H.out.2.2.2.1).trans c10
      replace c11 := (hb7.cell (p := ⟨g, 11, none⟩) H.out.2.2.2.1).trans c11
      obtain ⟨r0, f0⟩ := hR7.2 0 _ rfl
      replace r0 : w7.cell? ⟨w.heap.size, 0, none⟩ = some (.int .i64 0) := r0
      obtain ⟨r1, f1⟩ := hR7.2 1 _ rfl
      replace r1 : w7.cell? ⟨w.heap.size, 1, none⟩ = some (.int .i64 0) := r1
      obtain ⟨r2, f2⟩ := hR7.2 2 _ rfl
      replace r2 : w7.cell? ⟨w.heap.size, 2, none⟩ = some (.int .i64 0) := r2
      obtain ⟨r3, f3⟩ := hR7.2 3 _ rfl
      replace r3 : w7.cell? ⟨w.heap.size, 3, none⟩ = some (.int .i64 0) := r3
      obtain ⟨r4, f4⟩ := hR7.2 4 _ rfl
      replace r4 : w7.cell? ⟨w.heap.size, 4, none⟩ = some (.int .i64 0) := r4
      obtain ⟨r5, f5⟩ := hR7.2 5 _ rfl
      replace r5 : w7.cell? ⟨w.heap.size, 5, none⟩ = some (.int .i64 0) := r5
      obtain ⟨r6, f6⟩ := hR7.2 6 _ rfl
      replace r6 : w7.cell? ⟨w.heap.size, 6, none⟩ = some (.int .i64 0) := r6
      obtain ⟨r7, f7⟩ := hR7.2 7 _ rfl
      replace r7 : w7.cell? ⟨w.heap.size, 7, none⟩ = some (.int .i64 0) := r7
      obtain ⟨r8, f8⟩ := hR7.2 8 _ rfl
      replace r8 : w7.cell? ⟨w.heap.size, 8, none⟩ = some (.int .i64 0) := r8
      obtain ⟨r9, f9⟩ := hR7.2 9 _ rfl
      replace r9 : w7.cell? ⟨w.heap.size, 9, none⟩ = some (.int .i64 0) := r9
      obtain ⟨r10, f10⟩ := hR7.2 10 _ rfl
      replace r10 : w7.cell? ⟨w.heap.size, 10, none⟩ = some (.int .i64 0) := r10
      obtain ⟨r11, f11⟩ := hR7.2 11 _ rfl
      replace r11 : w7.cell? ⟨w.heap.size, 11, none⟩ = some (.int .u64 0) := r11
      have HB7 := Lib.hid (H.out.1.trans (hb7.mono H.out.1.size))
      clear hb7 hR7 H
      obtain ⟨E, hE⟩ : ∃ x, x = packE K0 K1 K2 N0 N1 N2 N3 N4 N5 N6 N7 (s.extract 128 s.size) := ⟨_, rfl⟩
      obtain ⟨S, hS⟩ : ∃ x, x = packS K0 K1 K2 N0 N1 N2 N3 N4 N5 N6 N7 P (s.extract 128 s.size) := ⟨_, rfl⟩
      rw [← hE, ← hS]
      rw [← hE] at HUE
      rw [← hS] at HUS
      clear hE hS
      have hgn : g ≠ w.heap.size := by omega
      have hgn' : w.heap.size ≠ g := by omega
      by_cases hE0 : E = 0
      · by_cases hSs : S = s
        · have HY : Hid (unOk s = true) := Lib.hid (decide_eq_true ⟨h, HUE.out.trans hE0, HUS.out.trans hSs⟩)
          subst hE0 hSs
          go_wp2_with fail
          exact bodyPost_ret (v := .tuple #[.agg #[.int .i64 K0, .int .i64 K1, .int .i64 K2, .int .i64 N0, .int .i64 N1, .int .i64 N2, .int .i64 N3, .int .i64 N4, .int .i64 N5, .int .i64 N6, .int .i64 N7, .int .u64 P], .string (S.extract 128 S.size), .int .i64 0]) (by simp [results, Try.results22, go_sem, r0, r1, r2, r3, r4, r5, r6, r7, r8, r9, r10, r11]) rfl (UnPost.yes HY.out HE.out ((((((((((((HB7.out.setCell (p := ⟨w.heap.size, 0, none⟩) (Nat.le_refl _) _).setCell (p := ⟨w.heap.size, 1, none⟩) (Nat.le_refl _) _).setCell (p := ⟨w.heap.size, 2, none⟩) (Nat.le_refl _) _).setCell (p := ⟨w.heap.size, 3, none⟩) (Nat.le_refl _) _).setCell (p := ⟨w.heap.size, 4, none⟩) (Nat.le_refl _) _).setCell (p := ⟨w.heap.size, 5, none⟩) (Nat.le_refl _) _).setCell (p := ⟨w.heap.size, 6, none⟩) (Nat.le_refl _) _).setCell (p := ⟨w.heap.size, 7, none⟩) (Nat.le_refl _) _).setCell (p := ⟨w.heap.size, 8, none⟩) (Nat.le_refl _) _).setCell (p := ⟨w.heap.size, 9, none⟩) (Nat.le_refl _) _).setCell (p := ⟨w.heap.size, 10, none⟩) (Nat.le_refl _) _).setCell (p := ⟨w.heap.size, 11, none⟩) (Nat.le_refl _) _))
        · have HY : Hid (unOk s = false) := Lib.hid (decide_eq_false (fun h => hSs (HUS.out.symm.trans h.2.2)))
          subst hE0
          have hs : (S.toList == s.toList) = false := by
            rw [beq_eq_false_iff_ne, toList_data, toList_data]
            exact fun h => hSs (ByteArray.ext (Array.toList_inj.1 h))
          clear hSs
          go_wp2_with fail
          exact bodyPost_ret (v := .tuple #[.agg #[.int .i64 0, .int .i64 0, .int .i64 0, .int .i64 0, .int .i64 0, .int .i64 0, .int .i64 0, .int .i64 0, .int .i64 0, .int .i64 0, .int .i64 0, .int .u64 0], .string ⟨#[]⟩, .int .i64 4]) (by simp [results, Try.results22, go_sem, r0, r1, r2, r3, r4, r5, r6, r7, r8, r9, r10, r11]) rfl (UnPost.no HY.out ((((((((((((HB7.out.setCell (p := ⟨w.heap.size, 0, none⟩) (Nat.le_refl _) _).setCell (p := ⟨w.heap.size, 1, none⟩) (Nat.le_refl _) _).setCell (p := ⟨w.heap.size, 2, none⟩) (Nat.le_refl _) _).setCell (p := ⟨w.heap.size, 3, none⟩) (Nat.le_refl _) _).setCell (p := ⟨w.heap.size, 4, none⟩) (Nat.le_refl _) _).setCell (p := ⟨w.heap.size, 5, none⟩) (Nat.le_refl _) _).setCell (p := ⟨w.heap.size, 6, none⟩) (Nat.le_refl _) _).setCell (p := ⟨w.heap.size, 7, none⟩) (Nat.le_refl _) _).setCell (p := ⟨w.heap.size, 8, none⟩) (Nat.le_refl _) _).setCell (p := ⟨w.heap.size, 9, none⟩) (Nat.le_refl _) _).setCell (p := ⟨w.heap.size, 10, none⟩) (Nat.le_refl _) _).setCell (p := ⟨w.heap.size, 11, none⟩) (Nat.le_refl _) _))
      · have HY : Hid (unOk s = false) := Lib.hid (decide_eq_false (fun h => hE0 (HUE.out.symm.trans h.2.1)))
        have hE1 : (E == 0) = false := by simp [hE0]
        have hE2 : (E != 0) = true := by simp [hE0]
        clear hE0
        go_wp2_with fail
        exact bodyPost_ret (v := .tuple #[.agg #[.int .i64 0, .int .i64 0, .int .i64 0, .int .i64 0, .int .i64 0, .int .i64 0, .int .i64 0, .int .i64 0, .int .i64 0, .int .i64 0, .int .i64 0, .int .u64 0], .string ⟨#[]⟩, .int .i64 4]) (by simp [results, Try.results22, go_sem, r0, r1, r2, r3, r4, r5, r6, r7, r8, r9, r10, r11]) rfl (UnPost.no HY.out ((((((((((((HB7.out.setCell (p := ⟨w.heap.size, 0, none⟩) (Nat.le_refl _) _).setCell (p := ⟨w.heap.size, 1, none⟩) (Nat.le_refl _) _).setCell (p := ⟨w.heap.size, 2, none⟩) (Nat.le_refl _) _).setCell (p := ⟨w.heap.size, 3, none⟩) (Nat.le_refl _) _).setCell (p := ⟨w.heap.size, 4, none⟩) (Nat.le_refl _) _).setCell (p := ⟨w.heap.size, 5, none⟩) (Nat.le_refl _) _).setCell (p := ⟨w.heap.size, 6, none⟩) (Nat.le_refl _) _).setCell (p := ⟨w.heap.size, 7, none⟩) (Nat.le_refl _) _).setCell (p := ⟨w.heap.size, 8, none⟩) (Nat.le_refl _) _).setCell (p := ⟨w.heap.size, 9, none⟩) (Nat.le_refl _) _).setCell (p := ⟨w.heap.size, 10, none⟩) (Nat.le_refl _) _).setCell (p := ⟨w.heap.size, 11, none⟩) (Nat.le_refl _) _))
end Go.Proofs.Ytmebodjofcomlaa

import Derived.Test.YtnpipiamojmbhaaTxtH
namespace Go.Proofs.Ytnpipiamojmbhaa
open Go.RowKit
/-- What taking a text answers: its bytes, the place behind it, the error. -/
def textR (l : List Nat) (at_ most : Int) : List Nat × Int × Int :=
  if (takeR l at_ 2).2 ≠ 0 then ([], 0, (takeR l at_ 2).2) else if most < (takeR l at_ 2).1 then ([], 0, 5) else if (l.length : Int) - at_ - 2 < (takeR l at_ 2).1 then ([], 0, 3)
  else ((l.drop (at_.toNat + 2)).take (takeR l at_ 2).1.toNat, at_ + 2 + (takeR l at_ 2).1, 0)
def TextPost (r : List Nat × Int × Int) (w : World) (e : Ending) (w' : World) : Prop := e = .returned (.tuple #[.string (text r.1), .int .i64 r.2.1, .int .i64 r.2.2]) ∧ Below w.heap.size w w'
theorem text_nil : text [] = ⟨#[]⟩ := rfl
theorem textR_err (l : List Nat) (at_ most x y : Int) (h : takeR l at_ 2 = (x, y)) (hy : y ≠ 0) : textR l at_ most = ([], 0, y) := by unfold textR; rw [h]; rw [if_pos hy]
theorem textR_long (l : List Nat) (at_ most x : Int) (h : takeR l at_ 2 = (x, 0)) (hm : most < x) : textR l at_ most = ([], 0, 5) := by unfold textR; rw [h]; rw [if_neg (by simp), if_pos hm]
theorem textR_short (l : List Nat) (at_ most x : Int) (h : takeR l at_ 2 = (x, 0)) (hm : ¬ most < x) (hs : (l.length : Int) - at_ - 2 < x) : textR l at_ most = ([], 0, 3) := by unfold textR; rw [h]; rw [if_neg (by simp), if_neg hm, if_pos hs]
theorem textR_ok (l : List Nat) (at_ most x : Int) (h : takeR l at_ 2 = (x, 0)) (hm : ¬ most < x) (hs : ¬ (l.length : Int) - at_ - 2 < x) : textR l at_ most = ((l.drop (at_.toNat + 2)).take x.toNat, at_ + 2 + x, 0) := by unfold textR; rw [h]; rw [if_neg (by simp), if_neg hm, if_neg hs]
theorem takeR_two (l : List Nat) (at_ : Int) (hl : ∀ b ∈ l, b < 256) (x : Int) (h : takeR l at_ 2 = (x, 0)) : 0 ≤ x ∧ x ≤ 65535 ∧ 0 ≤ at_ ∧ at_ + 2 ≤ l.length := by
  unfold takeR at h
  by_cases h1 : (2 : Int) < 1 ∨ (8 : Int) < 2 ∨ at_ < 0
  · rw [if_pos h1] at h; simp at h
  · rw [if_neg h1] at h
    by_cases h2 : (l.length : Int) < at_ + 2
    · rw [if_pos h2] at h; simp at h
    · rw [if_neg h2] at h
      simp only [Prod.mk.injEq, and_true] at h
      have hv := valN_lt ((l.drop at_.toNat).take (2 : Int).toNat) (fun b hb => hl b (List.mem_of_mem_drop (List.mem_of_mem_take hb)))
      have hln : ((l.drop at_.toNat).take (2 : Int).toNat).length ≤ 2 := by rw [List.length_take]; exact Nat.min_le_left _ _
      have hp : 256 ^ ((l.drop at_.toNat).take (2 : Int).toNat).length ≤ 256 ^ 2 := Nat.pow_le_pow_right (by decide) hln
      omega
theorem takeR_snd (l : List Nat) (at_ size : Int) : (takeR l at_ size).2 = 0 ∨ (takeR l at_ size).2 = 1 ∨ (takeR l at_ size).2 = 3 := by
  unfold takeR; split
  · exact .inr (.inl rfl)
  · split
    · exact .inr (.inr rfl)
    · exact .inl rfl
/-- A slice of bytes cut out of another one. -/
theorem Holds.cut {w : World} {ad : Addr} {n cap : Nat} {l : List Nat} (h : Holds w (.slice (some ad) n cap) l) (a m c : Nat) (hm : a + m ≤ l.length) : Holds w (.slice (some (ad.add a)) m c) ((l.drop a).take m) := by
  obtain ⟨hn, _, hc⟩ := h.cells
  refine ⟨fun b hb => h.1 b (List.mem_of_mem_drop (List.mem_of_mem_take hb)), some (ad.add a), c, by rw [u8s_length, List.length_take, List.length_drop, Nat.min_eq_left (by omega)], fun e => (by cases e), fun x hx i b hb => ?_⟩
  injection hx with hx
  subst hx
  unfold u8s at hb
  rw [List.getElem?_map] at hb
  cases hz : ((l.drop a).take m)[i]? with
  | none => rw [hz] at hb; cases hb
  | some z =>
    rw [hz] at hb
    simp only [Option.map_some, Option.some.injEq] at hb
    have hi : i < m := by
      have := (List.getElem?_eq_some_iff.1 hz).1
      rw [List.length_take] at this
      omega
    rw [List.getElem?_take_of_lt hi, List.getElem?_drop] at hz
    have hlt := h.1 z (List.mem_of_getElem? hz)
    rw [Go.Deep.add_add, hc ad rfl (a + i) (.int .u8 (z : Int)) (by unfold cells8; rw [List.getElem?_map, hz]; rfl)]
    subst hb
    rw [UInt8.toNat_ofNat', Nat.mod_eq_of_lt hlt]
set_option maxHeartbeats 1000000 in
theorem taketext_any (p : Option Addr) (cap : Nat) (at_ most : Int) (l : List Nat) (w : World) (hb : Holds w (.slice p l.length cap) l) (hcap : l.length ≤ cap) (hlen : l.length ≤ 140737488351232) (ha : -9223372036854775808 ≤ at_ ∧ at_ ≤ 9223372036854775807) :
    Calls Try.prog 34 #[.slice p l.length cap, .int .i64 at_, .int .i64 most] w (TextPost (textR l at_ most) w) := by
  have ht := take_any p cap at_ 2 l w hb hcap (by omega) ha
  obtain ⟨⟨x, y⟩, hxy⟩ : ∃ r, r = takeR l at_ 2 := ⟨_, rfl⟩
  rw [← hxy] at ht
  have hy := takeR_snd l at_ 2
  rw [← hxy] at hy
  simp only at hy
  by_cases hy0 : y = 0
  · subst hy0
    obtain ⟨hx0, hx1, ha0, ha2⟩ := takeR_two l at_ hb.1 x hxy.symm
    obtain ⟨a, rfl⟩ := Int.eq_ofNat_of_zero_le ha0
    obtain ⟨n, rfl⟩ := Int.eq_ofNat_of_zero_le hx0
    have HT := Lib.hid ht
    clear hy
    by_cases hm : most < n
    · have HR := Lib.hid (textR_long l a most n hxy.symm hm)
      clear ht hb hxy
      go_enter Try.func34, Try.ntmps34
      go_wp2_with fail
      refine HT.out.mono ?_
      rintro e w1 ⟨rfl, hb1⟩
      go_wp2_with fail
      go_ret3
      exact ⟨by rw [HR.out]; rfl, hb1⟩
    · by_cases hs : (l.length : Int) - a - 2 < n
      · have HR := Lib.hid (textR_short l a most n hxy.symm hm hs)
        clear ht hb hxy
        go_enter Try.func34, Try.ntmps34
        go_wp2_with fail
        refine HT.out.mono ?_
        rintro e w1 ⟨rfl, hb1⟩
        go_wp2_with fail
        go_ret3
        exact ⟨by rw [HR.out]; rfl, hb1⟩
      · have HR := Lib.hid (textR_ok l a most n hxy.symm hm hs)
        cases hp : p with
        | none => have := (hb.cells).2.1 hp; subst this; simp at ha2; omega
        | some ad =>
          rw [hp] at hb HT
          by_cases hce : cap = a + 2
          · obtain rfl : n = 0 := by omega
            subst hce
            have hr := HR.out
            simp only [Int.toNat_natCast, List.take_zero] at hr
            have HQ := Lib.hid (show TextPost (textR l a most) w = TextPost ([], (a : Int) + 2 + ((0 : Nat) : Int), 0) w from by rw [hr])
            clear hr HR
            have HC := Lib.hid (show Holds w (.slice (some ad) 0 0) [] from ⟨fun b hb => (by cases hb), some ad, _, rfl, fun e => (by cases e), fun x hx i b hb => (by simp [u8s] at hb)⟩)
            have HB := Lib.hid hb
            clear ht hb hxy
            go_enter Try.func34, Try.ntmps34
            go_wp2_with fail
            refine HT.out.mono ?_
            rintro e w1 ⟨rfl, hb1⟩
            have r1 := run_str w1 _ 0 0 _ (HC.out.later hb1)
            go_wp2_with fail
            go_ret3
            rw [HQ.out]
            exact ⟨rfl, hb1⟩
          · have hr := HR.out
            simp only [Int.toNat_natCast] at hr
            have HQ := Lib.hid (show TextPost (textR l a most) w = TextPost ((l.drop (a + 2)).take n, (a : Int) + 2 + (n : Int), 0) w from by rw [hr])
            clear hr HR
            have hc := hb.cut (a + 2) n (cap - (a + 2)) (by omega)
            have hadd : ad.add (a + 2) = ⟨ad.block, ad.off + (a + 1 + 1), none⟩ := by unfold Addr.add; rw [if_neg (by omega)]
            rw [hadd] at hc
            have HC := Lib.hid hc
            have HB := Lib.hid hb
            clear ht hb hxy hc hadd
            go_enter Try.func34, Try.ntmps34
            go_wp2_with fail
            refine HT.out.mono ?_
            rintro e w1 ⟨rfl, hb1⟩
            have r1 := run_str w1 _ n (cap - (a + 2)) _ (HC.out.later hb1)
            go_wp2_with fail
            go_ret3
            rw [HQ.out]
            exact ⟨rfl, hb1⟩
  · have HR := Lib.hid (textR_err l at_ most x y hxy.symm hy0)
    have HT := Lib.hid ht
    have hyb : (y != 0) = true := by rw [bne_iff_ne]; exact hy0
    clear ht hb hxy hy
    go_enter Try.func34, Try.ntmps34
    go_wp2_with fail
    refine HT.out.mono ?_
    rintro e w1 ⟨rfl, hb1⟩
    go_wp2_with fail
    go_ret3
    exact ⟨by rw [HR.out]; rfl, hb1⟩
end Go.Proofs.Ytnpipiamojmbhaa

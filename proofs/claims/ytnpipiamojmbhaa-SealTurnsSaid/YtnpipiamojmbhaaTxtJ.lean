import Derived.Test.YtnpipiamojmbhaaTxtI
namespace Go.Proofs.Ytnpipiamojmbhaa
open Go.RowKit
theorem OwnB.empty (w : World) (B : Nat) (hB : B ≤ w.heap.size) : OwnB B (w.alloc (.cells #[] 5)) (.slice (some ⟨w.heap.size, 0, none⟩) 0 0) [] :=
  OwnB.of_block (l := []) (fun b hb => (by cases hb)) hB (heap_alloc_new w _) (by decide)
set_option maxHeartbeats 1000000 in
theorem reftaketext_any (p : Option Addr) (cap : Nat) (at_ most : Int) (l : List Nat) (w : World) (hb : Holds w (.slice p l.length cap) l) (hcap : l.length ≤ cap) (hlen : l.length ≤ 140737488351232) (ha : -9223372036854775808 ≤ at_ ∧ at_ ≤ 9223372036854775807) :
    Calls Try.prog 35 #[.slice p l.length cap, .int .i64 at_, .int .i64 most] w (TextPost (textR l at_ most) w) := by
  have ht := reftake_any p cap at_ 2 l w hb (by omega) ha (by omega)
  obtain ⟨⟨x, y⟩, hxy⟩ : ∃ r, r = takeR l at_ 2 := ⟨_, rfl⟩
  rw [← hxy] at ht
  by_cases hy0 : y = 0
  · subst hy0
    obtain ⟨hx0, hx1, ha0, ha2⟩ := takeR_two l at_ hb.1 x hxy.symm
    obtain ⟨a, rfl⟩ := Int.eq_ofNat_of_zero_le ha0
    obtain ⟨n, rfl⟩ := Int.eq_ofNat_of_zero_le hx0
    have HT := Lib.hid ht
    by_cases hm : most < n
    · have HR := Lib.hid (textR_long l a most n hxy.symm hm)
      clear ht hb hxy
      go_enter Try.func35, Try.ntmps35
      go_wp2_with fail
      refine HT.out.mono ?_
      rintro e w1 ⟨rfl, hb1⟩
      go_wp2_with fail
      go_ret3
      exact ⟨by rw [HR.out]; rfl, hb1⟩
    · cases hp : p with
      | none => have := (hb.cells).2.1 hp; subst this; simp at ha2; omega
      | some ad =>
        rw [hp] at hb HT
        have hcell : ∀ j, j < l.length → w.cell? (ad.add j) = some (.int .u8 ((l.getD j 0 : Nat) : Int)) := by
          intro j hj
          refine (hb.cells).2.2 ad rfl j _ ?_
          unfold cells8
          rw [List.getElem?_map, List.getD_eq_getElem?_getD, List.getElem?_eq_getElem hj]; rfl
        have hbt : ∀ j, l.getD j 0 < 256 := by
          intro j
          rw [List.getD_eq_getElem?_getD]
          rcases Nat.lt_or_ge j l.length with h | h
          · rw [List.getElem?_eq_getElem h]; exact hb.1 _ (List.getElem_mem h)
          · rw [List.getElem?_eq_none h]; decide
        have hshort := textR_short l a most n hxy.symm hm
        have hok := textR_ok l a most n hxy.symm hm
        simp only [Int.toNat_natCast] at hok
        have HCELL := Lib.hid hcell
        have HBT := Lib.hid hbt
        have HSH := Lib.hid hshort
        have HOK := Lib.hid hok
        clear hcell hbt hshort hok ht hb hxy hp
        go_enter Try.func35, Try.ntmps35
        go_wp2_with fail
        refine HT.out.mono ?_
        rintro e w1 ⟨rfl, hb1⟩
        go_wp2_with fail
        have hO := OwnB.empty w1 w.heap.size hb1.size
        go_loopw [11, 12] (fun s i wr => ∃ k : Nat, k ≤ n ∧ a + 2 + k ≤ l.length ∧ i = .int .i64 k ∧ OwnB w.heap.size wr s ((l.drop (a + 2)).take k) ∧ Below w.heap.size w wr) (fun _ i _ => n - (intOf i).toNat)
        case atStart => exact ⟨0, by omega, by omega, rfl, by simpa using hO, hb1.alloc hb1.size _⟩
        case round =>
          clear hO hb1
          obtain ⟨k, hk, hka, rfl, hO, hb1⟩ := hrel
          by_cases hlt : k < n
          · by_cases hend : a + 2 + k = l.length
            · have HQ := Lib.hid (HSH.out (by omega))
              have hge : (l.length : Int) ≤ (a : Int) + 2 + k := by omega
              clear hend
              go_wp2_with fail
              go_ret3
              exact ⟨by rw [HQ.out]; rfl, hb1⟩
            · have hcl := HCELL.out (a + 2 + k) (by omega)
              have hx8 := HBT.out (a + 2 + k)
              have HS := Lib.hid (show (l.drop (a + 2)).take (k + 1) = (l.drop (a + 2)).take k ++ [l.getD (a + 2 + k) 0] from by
                rw [List.take_add_one, List.getElem?_drop, List.getD_eq_getElem?_getD, List.getElem?_eq_getElem (by omega)]; rfl)
              have HLN := Lib.hid (show ((l.drop (a + 2)).take k).length = k from by rw [List.length_take, List.length_drop]; omega)
              obtain ⟨b, hbb⟩ : ∃ b, b = l.getD (a + 2 + k) 0 := ⟨_, rfl⟩
              rw [← hbb] at hcl hx8 HS
              clear hbb
              have hcw := cell_later hb1 hcl
              clear hcl
              go_wp2_with (with_reducible refine app1 rfl _ _ rfl _ _ rfl hO _ b ?hc hx8 rfl ?he hb1 hb1.size ?_)
              case hc => rfl
              case he => rw [HLN.out]; omega
              intro v2 w2 hO2 hb2
              go_wp2_with fail
              go_roundw
              case rel => exact ⟨k + 1, by omega, by omega, by go_num, by rw [HS.out]; exact hO2, hb2⟩
              case measure => simp [intOf]; omega
          · obtain rfl : k = n := by omega
            have hr := HOK.out (by omega)
            have HQ := Lib.hid (show TextPost (textR l a most) w = TextPost ((l.drop (a + 2)).take k, (a : Int) + 2 + (k : Int), 0) w from by rw [hr])
            clear hr
            obtain ⟨L, hL⟩ : ∃ L, L = (l.drop (a + 2)).take k := ⟨_, rfl⟩
            rw [← hL] at hO HQ
            clear hL
            obtain ⟨p3, c3, rfl, hc3⟩ := hO.slice
            have r1 := run_str wr _ _ c3 _ hO.holds
            go_wp2_with fail
            go_ret3
            rw [HQ.out]
            exact ⟨rfl, hb1⟩
  · have hy := takeR_snd l at_ 2
    have HR := Lib.hid (textR_err l at_ most x y hxy.symm hy0)
    have HT := Lib.hid ht
    have hyb : (y != 0) = true := by rw [bne_iff_ne]; exact hy0
    clear ht hb hxy hy
    go_enter Try.func35, Try.ntmps35
    go_wp2_with fail
    refine HT.out.mono ?_
    rintro e w1 ⟨rfl, hb1⟩
    go_wp2_with fail
    go_ret3
    exact ⟨by rw [HR.out]; rfl, hb1⟩
end Go.Proofs.Ytnpipiamojmbhaa

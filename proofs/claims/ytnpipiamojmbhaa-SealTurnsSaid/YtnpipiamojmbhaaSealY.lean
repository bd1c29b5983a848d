/- comptorref03.Mix; the walks of SealTears, SealTurns, SealMoves. -/
import Derived.Test.YtnpipiamojmbhaaSealX
namespace Go.Proofs.Ytnpipiamojmbhaa
open Go.RowKit
theorem OwnB.none' (w : World) (B : Nat) (hB : B ≤ w.heap.size) : OwnB B (w.alloc (.cells #[] 5)) (.slice (some ⟨w.heap.size, 0, none⟩) 0 0) [] :=
  OwnB.of_block (l := []) (fun b hb => (by cases hb)) hB (heap_alloc_new w _) (by decide)
def mixL (a o : List Nat) (cut : Nat) : List Nat := a.take cut ++ o.drop cut
theorem mixL_length (a o : List Nat) (cut : Nat) (hc : cut ≤ 384) (ha : a.length = 384) (ho : o.length = 384) : (mixL a o cut).length = 384 := by
  unfold mixL
  rw [List.length_append, List.length_take, List.length_drop]; omega
theorem mixL_take (a o : List Nat) (cut k x : Nat) (hc : cut ≤ 384) (ha : a.length = 384) (hx : (if k < cut then a[k]? else o[k]?) = some x) : (mixL a o cut).take (k + 1) = (mixL a o cut).take k ++ [x] := by
  have h : (mixL a o cut)[k]? = some x := by
    unfold mixL
    by_cases hk : k < cut
    · rw [if_pos hk] at hx
      rw [List.getElem?_append_left (by rw [List.length_take]; omega), List.getElem?_take_of_lt hk]
      exact hx
    · rw [if_neg hk] at hx
      rw [List.getElem?_append_right (by rw [List.length_take]; omega), List.length_take, List.getElem?_drop, show cut + (k - min cut a.length) = k by omega]
      exact hx
  obtain ⟨hlt, rfl⟩ := List.getElem?_eq_some_iff.1 h
  rw [List.take_succ_eq_append_getElem hlt]
set_option maxHeartbeats 4000000 in
set_option maxRecDepth 100000 in
theorem mix_any (a o : ByteArray) (cut : Nat) (w : World) (hc : cut ≤ 384) (ha : a.size = 384) (ho : o.size = 384) :
    Calls Try.prog 26 #[.string a, .string o, .int .i64 cut] w fun e w' => e = .returned (.string (text (mixL (nats a) (nats o) cut))) ∧ Below w.heap.size w w' := by
  have ha' : (a.size : Int) = 384 := by omega
  have ho' : (o.size : Int) = 384 := by omega
  have HA := Lib.hid ha'
  have HO := Lib.hid ho'
  clear ha' ho'
  have HM := Lib.hid (mixL_length (nats a) (nats o) cut hc (by rw [nats_length]; exact ha) (by rw [nats_length]; exact ho))
  have HT := Lib.hid (fun k x hx => mixL_take (nats a) (nats o) cut k x hc (by rw [nats_length]; exact ha) hx)
  obtain ⟨M, hM⟩ : ∃ M, M = mixL (nats a) (nats o) cut := ⟨_, rfl⟩
  rw [← hM] at HM HT ⊢
  clear hM
  have HA0 := Lib.hid ha
  have HO0 := Lib.hid ho
  clear ha ho
  go_enter Try.func26, Try.ntmps26
  go_wp2_with fail
  go_loopw [7, 8] (fun v i wr => ∃ k : Nat, k ≤ 384 ∧ i = .int .i64 k ∧ Hid (OwnB w.heap.size wr v (M.take k) ∧ Below w.heap.size w wr)) (fun _ i _ => 384 - (intOf i).toNat)
  case atStart => exact ⟨0, by omega, rfl, Lib.hid ⟨OwnB.none' w _ (Nat.le_refl _), (Below.refl _ _).alloc (Nat.le_refl _) _⟩⟩
  case round =>
    obtain ⟨k, hk, rfl, HR⟩ := hrel
    have HLN := Lib.hid (show (M.take k).length = k by rw [List.length_take, HM.out]; omega)
    by_cases hlt : k < 384
    · by_cases hkc : k < cut
      · have hka : k < a.size := by rw [HA0.out]; exact hlt
        have HS := Lib.hid (HT.out k (a[k]'hka).toNat (by rw [if_pos hkc]; exact nats_get a k hka))
        have hx8 := (a[k]'hka).toNat_lt
        obtain ⟨x, hx⟩ : ∃ x, x = (a[k]'hka).toNat := ⟨_, rfl⟩
        rw [← hx] at HS hx8
        have HX := Lib.hid hx
        clear hx
        go_wp2_with (with_reducible refine app1 rfl _ _ rfl _ _ rfl HR.out.1 _ x ?hc hx8 rfl ?he HR.out.2 HR.out.2.size ?_)
        case hc => rw [HX.out]
        case he => first | omega | (rw [HLN.out]; omega)
        intro v2 w2 hO2 hb2
        have HR2 := Lib.hid (show OwnB w.heap.size w2 v2 (M.take (k + 1)) ∧ Below w.heap.size w w2 from ⟨by rw [HS.out]; exact hO2, hb2⟩)
        clear hO2 hb2
        go_wp2_with fail
        go_roundw
        case rel => exact ⟨k + 1, by omega, by go_num, HR2⟩
        case measure => simp [intOf]; omega
      · have hko : k < o.size := by rw [HO0.out]; exact hlt
        have HS := Lib.hid (HT.out k (o[k]'hko).toNat (by rw [if_neg hkc]; exact nats_get o k hko))
        have hx8 := (o[k]'hko).toNat_lt
        have hkc' : ¬ (k : Int) < cut := by omega
        obtain ⟨x, hx⟩ : ∃ x, x = (o[k]'hko).toNat := ⟨_, rfl⟩
        rw [← hx] at HS hx8
        have HX := Lib.hid hx
        clear hx
        go_wp2_with (with_reducible refine app1 rfl _ _ rfl _ _ rfl HR.out.1 _ x ?hc hx8 rfl ?he HR.out.2 HR.out.2.size ?_)
        case hc => rw [HX.out]
        case he => first | omega | (rw [HLN.out]; omega)
        intro v2 w2 hO2 hb2
        have HR2 := Lib.hid (show OwnB w.heap.size w2 v2 (M.take (k + 1)) ∧ Below w.heap.size w w2 from ⟨by rw [HS.out]; exact hO2, hb2⟩)
        clear hO2 hb2
        go_wp2_with fail
        go_roundw
        case rel => exact ⟨k + 1, by omega, by go_num, HR2⟩
        case measure => simp [intOf]; omega
    · obtain rfl : k = 384 := by omega
      have hF := HR.out.1
      rw [List.take_of_length_le (by rw [HM.out]; exact Nat.le_refl _)] at hF
      have HH := hF.holds
      obtain ⟨q, cq, rfl, _⟩ := hF.slice'
      rw [HM.out] at HH ⊢
      have rt := run_text wr _ _ _ _ HH
      have HB := Lib.hid HR.out.2
      obtain ⟨T, hT⟩ : ∃ T, T = text M := ⟨_, rfl⟩
      rw [← hT] at rt
      have HTT := Lib.hid hT
      clear HR HLN hF HH hT
      go_wp2_with fail
      go_ret
      exact ⟨by rw [← HTT.out]; rfl, HB.out⟩
end Go.Proofs.Ytnpipiamojmbhaa

import Derived.Test.YtnpipiamojmbhaaTxtJ
namespace Go.Proofs.Ytnpipiamojmbhaa
open Go.RowKit
theorem refputtext_long (v : Value) (s : ByteArray) (w : World) (hl : 65535 < s.size) :
    Calls Try.prog 37 #[v, .string s] w fun e w' => e = .returned (.tuple #[.slice none 0 0, .int .i64 5]) ∧ w = w' := by
  go_enter Try.func37, Try.ntmps37
  go_wp2_with fail
  go_ret2
  exact ⟨rfl, rfl⟩
set_option maxHeartbeats 1000000 in
theorem refputtext_ok (p : Option Addr) (cap : Nat) (l : List Nat) (s : ByteArray) (w : World) (hb : Holds w (.slice p l.length cap) l) (hl : s.size ≤ 65535) (hlen : l.length + 65545 ≤ 140737488355328) :
    Calls Try.prog 37 #[.slice p l.length cap, .string s] w fun e w' => ∃ v', e = .returned (.tuple #[v', .int .i64 0]) ∧ OwnB w.heap.size w' v' (l ++ leN s.size 2 ++ nats s) ∧ Below w.heap.size w w' := by
  have hf : s.size / 256 ^ 2 = 0 := by omega
  have hp := refput_loop p cap l s.size 2 w hb (by omega) (by decide) (by decide) (by omega)
  have HP := Lib.hid hp
  have HF := Lib.hid hf
  have HN := Lib.hid (nats_length s)
  clear hp hb hf
  obtain ⟨L, hL⟩ : ∃ L, L = l ++ leN s.size 2 := ⟨_, rfl⟩
  have hLl : L.length = l.length + 2 := by rw [hL, List.length_append, leN_length]
  have HLL := Lib.hid hLl
  have HEQ := Lib.hid hL
  clear hLl hL
  go_enter Try.func37, Try.ntmps37
  go_wp2_with fail
  refine HP.out.mono ?_
  rintro e w1 ⟨hb1, hpost⟩
  rcases hpost with ⟨_, v1, rfl, hO1⟩ | ⟨hbad, _⟩
  · rw [← HEQ.out] at hO1
    go_wp2_with fail
    go_loopw [6, 8] (fun v i wr => ∃ k : Nat, k ≤ s.size ∧ i = .int .i64 k ∧ OwnB w.heap.size wr v (L ++ (nats s).take k) ∧ Below w.heap.size w wr) (fun _ i _ => s.size - (intOf i).toNat)
    case atStart => exact ⟨0, by omega, rfl, by simpa using hO1, hb1⟩
    case round =>
      clear hO1 hb1
      obtain ⟨k, hk, rfl, hO, hb1⟩ := hrel
      by_cases hlt : k < s.size
      · have HS := Lib.hid (nats_take s k hlt)
        have hx8 := (s[k]).toNat_lt
        have HLN := Lib.hid (show (L ++ (nats s).take k).length = L.length + k from by rw [List.length_append, List.length_take, HN.out]; omega)
        go_wp2_with (with_reducible refine app1 rfl _ _ rfl _ _ rfl hO _ (s[k]).toNat ?hc hx8 rfl ?he hb1 hb1.size ?_)
        case hc => rfl
        case he => rw [HLN.out, HLL.out]; omega
        intro v2 w2 hO2 hb2
        have HO2 := Lib.hid hO2
        clear hO2
        go_wp2_with fail
        go_roundw
        case rel => exact ⟨k + 1, by omega, by go_num, by rw [HS.out]; exact HO2.out, hb2⟩
        case measure => simp [intOf]; omega
      · obtain rfl : k = s.size := by omega
        have HT := Lib.hid (show (nats s).take s.size = nats s from List.take_of_length_le (by rw [HN.out]; exact Nat.le_refl _))
        have HO := Lib.hid hO
        clear hO
        go_wp2_with fail
        go_ret2
        refine ⟨_, rfl, ?_, hb1⟩
        have h := HO.out
        rw [HT.out, HEQ.out] at h
        exact h
  · exact absurd HF.out hbad
end Go.Proofs.Ytnpipiamojmbhaa

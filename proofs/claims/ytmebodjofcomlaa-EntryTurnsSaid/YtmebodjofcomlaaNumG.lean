import Derived.Test.YtmebodjofcomlaaNumF
namespace Go.Proofs.Ytmebodjofcomlaa
open Go.RowKit
/-- What taking a number answers. -/
def takeR (l : List Nat) (at_ size : Int) : Int × Int :=
  if size < 1 ∨ 8 < size ∨ at_ < 0 then (0, 1) else if (l.length : Int) < at_ + size then (0, 3) else (((valN ((l.drop at_.toNat).take size.toNat) : Nat) : Int), 0)
def TakePost (r : Int × Int) (w : World) (e : Ending) (w' : World) : Prop := e = .returned (.tuple #[.int .u64 r.1, .int .i64 r.2]) ∧ Below w.heap.size w w'
theorem takeR_arg (l : List Nat) (at_ size : Int) (h : size < 1 ∨ 8 < size ∨ at_ < 0) : takeR l at_ size = (0, 1) := by unfold takeR; rw [if_pos h]
theorem takeR_short (l : List Nat) (at_ size : Int) (h : ¬ (size < 1 ∨ 8 < size ∨ at_ < 0)) (h2 : (l.length : Int) < at_ + size) : takeR l at_ size = (0, 3) := by unfold takeR; rw [if_neg h, if_pos h2]
theorem takeR_ok (l : List Nat) (at_ size : Nat) (h1 : 1 ≤ size) (h8 : size ≤ 8) (h2 : at_ + size ≤ l.length) : takeR l at_ size = (((valN ((l.drop at_).take size) : Nat) : Int), 0) := by
  unfold takeR; rw [if_neg (by omega), if_neg (by omega)]; rfl
set_option maxHeartbeats 1000000 in
theorem take_any (p : Option Addr) (cap : Nat) (at_ size : Int) (l : List Nat) (w : World) (hb : Holds w (.slice p l.length cap) l) (hcap : l.length ≤ cap) (hlen : l.length ≤ 140737488355328) (ha : -9223372036854775808 ≤ at_ ∧ at_ ≤ 9223372036854775807) :
    Calls Try.prog 40 #[.slice p l.length cap, .int .i64 at_, .int .i64 size] w (TakePost (takeR l at_ size) w) := by
  by_cases harg : size < 1 ∨ 8 < size ∨ at_ < 0
  · have HR := Lib.hid (takeR_arg l at_ size harg)
    clear hb
    by_cases h1 : size < 1
    · go_enter Try.func40, Try.ntmps40
      go_wp2_with fail
      go_ret2
      exact ⟨by rw [HR.out]; rfl, Below.refl _ _⟩
    · by_cases h2 : 8 < size
      · go_enter Try.func40, Try.ntmps40
        go_wp2_with fail
        go_ret2
        exact ⟨by rw [HR.out]; rfl, Below.refl _ _⟩
      · have h3 : at_ < 0 := by omega
        clear harg
        go_enter Try.func40, Try.ntmps40
        go_wp2_with fail
        go_ret2
        exact ⟨by rw [HR.out]; rfl, Below.refl _ _⟩
  · obtain ⟨a, rfl⟩ := Int.eq_ofNat_of_zero_le (show 0 ≤ at_ from by omega)
    obtain ⟨s, rfl⟩ := Int.eq_ofNat_of_zero_le (show 0 ≤ size from by omega)
    have hs1 : 1 ≤ s := by omega
    have hs8 : s ≤ 8 := by omega
    by_cases hsh : l.length < a + s
    · have HR := Lib.hid (takeR_short l a s harg (by omega))
      clear harg hb
      by_cases hal : l.length < a
      · go_enter Try.func40, Try.ntmps40
        go_wp2_with fail
        go_ret2
        exact ⟨by rw [HR.out]; rfl, Below.refl _ _⟩
      · have hlt : (l.length : Int) - a < s := by omega
        go_enter Try.func40, Try.ntmps40
        go_wp2_with fail
        go_ret2
        exact ⟨by rw [HR.out]; rfl, Below.refl _ _⟩
    · have hR := takeR_ok l a s hs1 hs8 (by omega)
      cases hp : p with
      | none => have := (hb.cells).2.1 hp; subst this; simp at hsh; omega
      | some ad =>
        rw [hp] at hb
        refine (take_ok ad cap a s l w hb hcap hs1 hs8 (by omega) hlen).mono ?_
        rintro e w' ⟨he, hbel⟩
        exact ⟨by rw [hR]; exact he, hbel⟩
theorem valN_bound (l : List Nat) (h : ∀ b ∈ l, b < 256) (h8 : l.length ≤ 8) : valN l < 18446744073709551616 :=
  Nat.lt_of_lt_of_le (valN_lt l h) (Nat.le_trans (Nat.pow_le_pow_right (by decide) h8) (by decide))
set_option maxHeartbeats 1000000 in
theorem reftake_ok (ad : Addr) (cap at_ size : Nat) (l : List Nat) (w : World) (hb : Holds w (.slice (some ad) l.length cap) l) (hs : 1 ≤ size) (hs8 : size ≤ 8) (hin : at_ + size ≤ l.length) (hlen : l.length ≤ 140737488355328) :
    Calls Try.prog 55 #[.slice (some ad) l.length cap, .int .i64 at_, .int .i64 size] w fun e w' => e = .returned (.tuple #[.int .u64 (valN ((l.drop at_).take size)), .int .i64 0]) ∧ Below w.heap.size w w' := by
  obtain ⟨L, hL⟩ : ∃ L, L = (l.drop at_).take size := ⟨_, rfl⟩
  have hLl : L.length = size := by rw [hL, List.length_take, List.length_drop]; omega
  have hLb : ∀ b ∈ L, b < 256 := by rw [hL]; exact fun b h => hb.1 b (List.mem_of_mem_drop (List.mem_of_mem_take h))
  have hc : ∀ j, j < size → w.cell? (ad.add (at_ + j)) = some (.int .u8 ((L.getD j 0 : Nat) : Int)) := by
    intro j hj
    refine (hb.cells).2.2 ad rfl (at_ + j) _ ?_
    unfold cells8
    rw [List.getElem?_map]
    have : l[at_ + j]? = some (L.getD j 0) := by
      rw [List.getD_eq_getElem?_getD, hL, List.getElem?_take_of_lt hj, List.getElem?_drop]
      have : at_ + j < l.length := by omega
      rw [List.getElem?_eq_getElem this]; rfl
    rw [this]; rfl
  rw [← hL]
  have HC := Lib.hid hc
  have HLL := Lib.hid hLl
  have HLB := Lib.hid hLb
  clear hc hL hLl hLb hb
  go_enter Try.func55, Try.ntmps55
  go_wp2_with fail
  go_loop [8, 9] (fun n i => ∃ k : Nat, k ≤ size ∧ i = .int .i64 ((k : Int) - 1) ∧ n = .int .u64 (valN (L.drop k))) (fun _ i => (intOf i + 1).toNat)
  case atStart => exact ⟨size, by omega, rfl, by rw [List.drop_of_length_le (by rw [HLL.out]; exact Nat.le_refl _)]; rfl⟩
  case round =>
    obtain ⟨k, hk, rfl, rfl⟩ := hrel
    have hq := valN_bound (L.drop k) (fun b h => HLB.out b (List.mem_of_mem_drop h)) (by rw [List.length_drop, HLL.out]; omega)
    by_cases hk0 : k = 0
    · subst hk0
      have HZ := Lib.hid (show L.drop 0 = L from rfl)
      have hneg : ¬ (0 : Int) ≤ ((0 : Nat) : Int) - 1 := by omega
      go_wp2_with fail
      go_ret2
      exact ⟨by rw [← HZ.out]; rfl, Below.refl _ _⟩
    · obtain ⟨j, rfl⟩ : ∃ j, k = j + 1 := ⟨k - 1, by omega⟩
      have hcj := HC.out j (by omega)
      have hx : L.getD j 0 < 256 := by
        rw [List.getD_eq_getElem?_getD, List.getElem?_eq_getElem (by rw [HLL.out]; omega)]
        exact HLB.out _ (List.getElem_mem _)
      have hd : L.drop j = L.getD j 0 :: L.drop (j + 1) := by
        rw [List.drop_eq_getElem_cons (by rw [HLL.out]; omega), List.getD_eq_getElem?_getD, List.getElem?_eq_getElem (by rw [HLL.out]; omega)]
        rfl
      have hq2 := valN_bound (L.drop j) (fun b h => HLB.out b (List.mem_of_mem_drop h)) (by rw [List.length_drop, HLL.out]; omega)
      rw [hd, valN] at hq2
      have HD := Lib.hid (show valN (L.drop j) = L.getD j 0 + 256 * valN (L.drop (j + 1)) from by rw [hd, valN])
      clear hd
      obtain ⟨x, hxx⟩ : ∃ x, x = L.getD j 0 := ⟨_, rfl⟩
      obtain ⟨q, hqq⟩ : ∃ q, q = valN (L.drop (j + 1)) := ⟨_, rfl⟩
      rw [← hxx] at hx hcj HD hq2
      rw [← hqq] at hq HD hq2 ⊢
      clear hxx hqq hk0
      go_wp2_with fail
      go_round
      case rel => exact ⟨j, by omega, by go_num, by rw [HD.out]; go_num⟩
      case measure => simp [intOf]
set_option maxHeartbeats 1000000 in
theorem reftake_any (p : Option Addr) (cap : Nat) (at_ size : Int) (l : List Nat) (w : World) (hb : Holds w (.slice p l.length cap) l) (hlen : l.length ≤ 140737488355328) (ha : -9223372036854775808 ≤ at_ ∧ at_ ≤ 9223372036854775807) (hsz : -9223372036854775808 ≤ size ∧ size ≤ 9223372036854775807) :
    Calls Try.prog 55 #[.slice p l.length cap, .int .i64 at_, .int .i64 size] w (TakePost (takeR l at_ size) w) := by
  by_cases harg : size < 1 ∨ 8 < size ∨ at_ < 0
  · have HR := Lib.hid (takeR_arg l at_ size harg)
    clear hb
    by_cases h1 : size < 1
    · go_enter Try.func55, Try.ntmps55
      go_wp2_with fail
      go_ret2
      exact ⟨by rw [HR.out]; rfl, Below.refl _ _⟩
    · by_cases h2 : 8 < size
      · go_enter Try.func55, Try.ntmps55
        go_wp2_with fail
        go_ret2
        exact ⟨by rw [HR.out]; rfl, Below.refl _ _⟩
      · have h3 : at_ < 0 := by omega
        clear harg
        go_enter Try.func55, Try.ntmps55
        go_wp2_with fail
        go_ret2
        exact ⟨by rw [HR.out]; rfl, Below.refl _ _⟩
  · obtain ⟨a, rfl⟩ := Int.eq_ofNat_of_zero_le (show 0 ≤ at_ from by omega)
    obtain ⟨s, rfl⟩ := Int.eq_ofNat_of_zero_le (show 0 ≤ size from by omega)
    have hs1 : 1 ≤ s := by omega
    have hs8 : s ≤ 8 := by omega
    by_cases hsh : l.length < a + s
    · have HR := Lib.hid (takeR_short l a s harg (by omega))
      have hlt : (l.length : Int) - s < a := by omega
      clear harg hb
      go_enter Try.func55, Try.ntmps55
      go_wp2_with fail
      go_ret2
      exact ⟨by rw [HR.out]; rfl, Below.refl _ _⟩
    · have hR := takeR_ok l a s hs1 hs8 (by omega)
      cases hp : p with
      | none => have := (hb.cells).2.1 hp; subst this; simp at hsh; omega
      | some ad =>
        rw [hp] at hb
        refine (reftake_ok ad cap a s l w hb hs1 hs8 (by omega) hlen).mono ?_
        rintro e w' ⟨he, hbel⟩
        exact ⟨by rw [hR]; exact he, hbel⟩
end Go.Proofs.Ytmebodjofcomlaa

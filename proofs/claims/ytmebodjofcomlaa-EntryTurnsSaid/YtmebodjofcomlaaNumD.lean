import Derived.Test.YtmebodjofcomlaaNumC
import Derived.Laws.CopyOwn
namespace Go.Proofs.Ytmebodjofcomlaa
open Go.RowKit
theorem info_u8 : (Try.prog.info? 5).map (fun i => (i.zero, i.size, i.bytes)) = some (some (.int .u8 0), 1, 1) := by kernel_rfl
def cells8 (l : List Nat) : List Value := l.map fun (b : Nat) => Value.int .u8 (b : Int)
theorem cells8_length (l : List Nat) : (cells8 l).length = l.length := by simp [cells8]
theorem cells8_get (l : List Nat) (j : Nat) (v : Value) (h : (cells8 l)[j]? = some v) : ∃ b, l[j]? = some b ∧ v = .int .u8 (b : Int) := by
  unfold cells8 at h
  rw [List.getElem?_map] at h
  cases hz : l[j]? with
  | none => rw [hz] at h; cases h
  | some z => rw [hz] at h; simp only [Option.map_some, Option.some.injEq] at h; exact ⟨z, rfl, h.symm⟩
theorem cells8_one (l : List Nat) : ∀ v ∈ cells8 l, v.oneCell' = true := by
  intro v hv
  unfold cells8 at hv
  rw [List.mem_map] at hv
  obtain ⟨b, _, rfl⟩ := hv
  rfl
/-- A slice that owns the bytes l. -/
def OwnB (B : Nat) (w : World) (v : Value) (l : List Nat) : Prop := (∀ b ∈ l, b < 256) ∧ w.ownsRow B 5 1 v l.length (cells8 l)
theorem Holds.cells {w : World} {p : Option Addr} {n cap : Nat} {l : List Nat} (h : Holds w (.slice p n cap) l) : n = l.length ∧ (p = none → l = []) ∧ ∀ ad, p = some ad → ∀ j v, (cells8 l)[j]? = some v → w.cell? (ad.add j) = some v := by
  obtain ⟨h1, q, c, hv, hn, hc⟩ := h
  injection hv with e1 e2 e3
  subst e1
  rw [u8s_length] at e2
  refine ⟨e2, fun hp => ?_, fun ad had j v hj => ?_⟩
  · have := hn hp
    unfold u8s at this
    exact List.map_eq_nil_iff.1 this
  · obtain ⟨b, hb, rfl⟩ := cells8_get l j v hj
    have hlt := h1 b (List.mem_of_getElem? hb)
    have := hc ad had j (UInt8.ofNat b) (by unfold u8s; rw [List.getElem?_map, hb]; rfl)
    rw [this, UInt8.toNat_ofNat', Nat.mod_eq_of_lt hlt]
theorem OwnB.holds {B : Nat} {w : World} {v : Value} {l : List Nat} (h : OwnB B w v l) : Holds w v l := by
  obtain ⟨h1, h2⟩ := h
  refine ⟨h1, ?_⟩
  rcases h2.2 with ⟨rfl, hn⟩ | ⟨g, cap, cur, rfl, hr⟩
  · have : l = [] := List.eq_nil_of_length_eq_zero hn
    subst this
    exact (Holds.nil w).2
  · refine ⟨some ⟨g, 0, none⟩, cap, by rw [u8s_length], fun e => (by cases e), fun a ha i x hx => ?_⟩
    injection ha with ha
    subst ha
    unfold u8s at hx
    rw [List.getElem?_map] at hx
    cases hz' : l[i]? with
    | none => rw [hz'] at hx; cases hx
    | some z =>
      rw [hz'] at hx
      simp only [Option.map_some, Option.some.injEq] at hx
      have hm := h1 z (List.mem_of_getElem? hz')
      subst hx
      rw [h2.cells (g := g) rfl i (.int .u8 (z : Int)) (by unfold cells8; rw [List.getElem?_map, hz']; rfl), UInt8.toNat_ofNat', Nat.mod_eq_of_lt hm]
theorem OwnB.of_block {B : Nat} {w : World} {g : Nat} {l : List Nat} (h1 : ∀ b ∈ l, b < 256) (hB : B ≤ g) (hg : w.heap[g]? = some (.cells (cells8 l).toArray 5 (0, 0))) (hm : l.length ≤ maxLen) : OwnB B w (.slice (some ⟨g, 0, none⟩) l.length l.length) l :=
  ⟨h1, by rw [cells8_length, Nat.mul_one], .inr ⟨g, l.length, (cells8 l).toArray, rfl, hB, hg, Nat.le_refl _, hm, by simp [cells8_length], by rw [Nat.mul_one]; exact List.take_of_length_le (by simp [cells8_length])⟩⟩
set_option maxHeartbeats 1000000 in
theorem bytes_any (p : Option Addr) (cap : Nat) (l : List Nat) (w : World) (hb : Holds w (.slice p l.length cap) l) (hlen : l.length ≤ 140737488355328) :
    Calls Try.prog 53 #[.slice p l.length cap] w fun e w' => ∃ v', e = .returned v' ∧ OwnB w.heap.size w' v' l ∧ Below w.heap.size w w' := by
  obtain ⟨i0, hi, hz0, hz1, hz2⟩ := info_parts info_u8
  obtain ⟨_, hpn, hcl⟩ := hb.cells
  have h8 := hb.1
  have HP := Lib.hid hpn
  have HC := Lib.hid hcl
  have H8 := Lib.hid h8
  have HB := Lib.hid hb
  clear hb hpn hcl h8
  have hmx : l.length ≤ maxLen := by unfold maxLen; omega
  have hby : i0.bytes * l.length ≤ 281474976710656 := by rw [hz2]; omega
  go_enter Try.func53, Try.ntmps53
  go_wp2_with (with_reducible refine wpList_make_full _ rfl _ _ 44 rfl w.heap.size 5 i0 (.int .u8 0) 1 Try.underlying44 hi hz0 hz1 .i64 .i64 _ _ l.length rfl rfl rfl rfl hby hmx (Nat.le_refl _) ?_)
  intro w1 hown hg
  have hbel : Below w.heap.size w w1 := (Below.refl _ _).grown hg (Nat.le_refl _) (fun k hk => by cases hk)
  obtain ⟨cur, hcur, hsz⟩ : ∃ cur : List Value, w1.heap[w.heap.size]? = some (.cells cur.toArray 5 (0, 0)) ∧ cur.length = l.length := by
    rcases hown.2 with ⟨e, _⟩ | ⟨g, c, cur, e, _, hh, _, _, hs, _⟩
    · cases e
    · injection e with e1 e2 e3
      injection e1 with e1
      injection e1 with e1
      subst e1 e3
      exact ⟨cur.toList, by rw [Array.toArray_toList]; exact hh, by simpa using hs⟩
  clear hown hg
  have HSZ := Lib.hid hsz
  have HCUR := Lib.hid hcur
  clear hsz hcur
  have hsi : (Try.prog.info? 5).map (·.size) = some 1 := by rw [hi]; simp [hz1]
  have HSI := Lib.hid hsi
  clear hsi
  have H1 := Lib.hid (show (cells8 l).length = Nat.min l.length l.length from by rw [cells8_length]; simp)
  have H2 := Lib.hid (show 0 < (cells8 l).length → (some (⟨w.heap.size, 0, none⟩ : Addr)) = some ⟨w.heap.size, 0, none⟩ ∧ ∃ ad, p = some ad ∧ ∀ (j : Nat) v, (cells8 l)[j]? = some v → w1.cell? (ad.add j) = some v from by
    intro hpos
    refine ⟨rfl, ?_⟩
    cases hp : p with
    | none => rw [HP.out hp] at hpos; simp [cells8] at hpos
    | some ad => exact ⟨ad, rfl, fun j v hj => cell_later hbel (HC.out ad hp j v hj)⟩)
  have H3 := Lib.hid (show 0 + (cells8 l).length ≤ cur.length from by rw [cells8_length, HSZ.out]; omega)
  go_wp2_with (with_reducible refine wpList_copy_splice rfl _ _ 44 44 rfl 5 Try.underlying44 HSI.out (some ⟨w.heap.size, 0, none⟩) p l.length l.length l.length cap rfl rfl w.heap.size 0 cur 5 HCUR.out (cells8 l) H1.out H2.out H3.out (cells8_one l) w.heap.size w hbel (Nat.le_refl _) ?_)
  intro w2 hrow hb2
  have hspl : splice cur 0 (cells8 l) = cells8 l := by
    unfold splice
    rw [List.take_zero, List.nil_append, cells8_length, Nat.zero_add, List.drop_of_length_le (by rw [HSZ.out]; exact Nat.le_refl _), List.append_nil]
  have hr := hrow.out
  rw [hspl] at hr
  have HR := Lib.hid hr
  clear hr hrow hspl
  go_wp2_with fail
  go_ret
  exact ⟨_, rfl, OwnB.of_block H8.out (Nat.le_refl _) HR.out hmx, hb2⟩
end Go.Proofs.Ytmebodjofcomlaa

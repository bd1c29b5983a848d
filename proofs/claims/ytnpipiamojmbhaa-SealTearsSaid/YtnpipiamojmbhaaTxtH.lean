import Derived.Test.YtnpipiamojmbhaaNumG
namespace Go.Proofs.Ytnpipiamojmbhaa
open Go.RowKit
theorem ret_bool {a b : Bool} (h : a = b) : Ending.returned (.bool a) = .returned (.bool b) := by rw [h]
theorem run_str (w : World) (p : Option Addr) (n cap : Nat) (l : List Nat) (h : Holds w (.slice p n cap) l) : (convert 28 9 (.slice p n cap)).run Try.prog w = .ok (.string (text l)) w := by
  obtain ⟨hn, hp, hc⟩ := h.cells
  subst hn
  cases p with
  | none =>
    have := hp rfl
    subst this
    exact run_convert_bytes_nil w 28 5 Try.underlying28 Try.underlying5 _ _ _ Try.underlying9
  | some ad =>
    have := run_convert_bytes_back (P := Try.prog) w 28 9 5 ad cap (u8s l) Try.underlying28 Try.underlying5 Try.underlying9 (fun j hj => by
      have hj' : j < l.length := by simpa [u8s] using hj
      have hlt := h.1 l[j] (List.getElem_mem hj')
      rw [hc ad rfl j (.int .u8 ((l[j] : Nat) : Int)) (by unfold cells8; rw [List.getElem?_map, List.getElem?_eq_getElem hj']; rfl)]
      simp only [u8s, List.getElem_map, UInt8.toNat_ofNat']
      rw [Nat.mod_eq_of_lt hlt])
    rw [u8s_length] at this
    exact this
theorem puttext_long (v : Value) (s : ByteArray) (w : World) (hl : 65535 < s.size) :
    Calls Try.prog 30 #[v, .string s] w fun e w' => e = .returned (.tuple #[.slice none 0 0, .int .i64 5]) ∧ w = w' := by
  go_enter Try.func30, Try.ntmps30
  go_wp2_with fail
  go_ret2
  exact ⟨rfl, rfl⟩
theorem BB.row_ (w : World) (s : ByteArray) (cap t n : Nat) : BB (w.alloc (.cells (bytesRow s cap) t ((bytesRow s cap).size, n))) w.heap.size (nats s) := by
  intro j x hx
  have hj : j < s.size := by
    have := (List.getElem?_eq_some_iff.1 hx).1
    rwa [nats_length] at this
  have hb := heap_alloc_new w (.cells (bytesRow s cap) t ((bytesRow s cap).size, n))
  have hj' : j < s.data.size := hj
  have hrow : (bytesRow s cap)[j]? = some (.int .u8 (x : Int)) := by
    rw [nats_get s j hj] at hx
    injection hx with hx
    subst hx
    unfold bytesRow
    rw [Array.getElem?_append_left (by simpa using hj')]
    rw [Array.getElem?_map, Array.getElem?_eq_getElem hj']
    rfl
  refine ⟨by rw [cell_of_row _ _ _ _ _ _ hb]; exact hrow, ?_⟩
  have hlt : j < (bytesRow s cap).size := by
    rcases Nat.lt_or_ge j (bytesRow s cap).size with h | h
    · exact h
    · rw [Array.getElem?_eq_none h] at hrow; cases hrow
  unfold World.frozen?
  rw [hb]
  simp
  omega
theorem BB.pair (w : World) (a b t : Nat) : BB (w.alloc (.cells #[.int .u8 (a : Int), .int .u8 (b : Int)] t)) w.heap.size [a, b] := by
  intro j x hx
  have hb := heap_alloc_new w (.cells #[.int .u8 (a : Int), .int .u8 (b : Int)] t)
  refine ⟨?_, ?_⟩
  · rw [cell_of_row _ _ _ _ _ _ hb]
    match j, hx with
    | 0, hx => simp at hx; subst hx; rfl
    | 1, hx => simp at hx; subst hx; rfl
  · unfold World.frozen?
    rw [hb]
    simp
/-- The three parts of a text behind bytes. -/
theorem parts3 (w : World) (v0 v1 v2 : Value) (l : List Nat) (a b gc m t5 t22 : Nat) (s : ByteArray) (ha : a < 256) (hb : b < 256) (h0 : Holds w v0 l) (hm : m = (bytesRow s gc).size + 1)
    (h1 : v1 = .slice (some ⟨w.heap.size, 0, none⟩) 2 2) (h2 : v2 = .slice (some ⟨w.heap.size + 1, 0, none⟩) s.size gc) (W : World)
    (hW : W = ((((w.alloc (.cells #[.int .u8 (a : Int), .int .u8 (b : Int)] t5)).alloc (.cells (bytesRow s gc) t5 ((bytesRow s gc).size, m))).alloc (.cells #[v0, v1, v2] t22)).drew)) :
    Holds W v0 l ∧ Holds W v1 [a, b] ∧ Holds W v2 (nats s) ∧ W.cell? ⟨w.heap.size + 1 + 1, 0, none⟩ = some v0 ∧ W.cell? ⟨w.heap.size + 1 + 1, 1, none⟩ = some v1 ∧ W.cell? ⟨w.heap.size + 1 + 1, 2, none⟩ = some v2 ∧ Below w.heap.size w W := by
  subst hW h1 h2 hm
  have b1 : Below w.heap.size w (w.alloc (.cells #[.int .u8 (a : Int), .int .u8 (b : Int)] t5)) := (Below.refl _ _).alloc (Nat.le_refl _) _
  generalize hw1 : w.alloc (.cells #[.int .u8 (a : Int), .int .u8 (b : Int)] t5) = w1 at *
  have s1 : w1.heap.size = w.heap.size + 1 := by rw [← hw1]; simp
  have B1 : BB w1 w.heap.size [a, b] := by rw [← hw1]; exact BB.pair w a b t5
  have b2 : Below w1.heap.size w1 (w1.alloc (.cells (bytesRow s gc) t5 ((bytesRow s gc).size, (bytesRow s gc).size + 1))) := (Below.refl _ _).alloc (Nat.le_refl _) _
  have B2 := BB.row_ w1 s gc t5 ((bytesRow s gc).size + 1)
  generalize hw2 : w1.alloc (.cells (bytesRow s gc) t5 ((bytesRow s gc).size, (bytesRow s gc).size + 1)) = w2 at *
  have s2 : w2.heap.size = w.heap.size + 1 + 1 := by rw [← hw2]; simp [s1]
  have b3 := fun o => ((Below.refl w2.heap.size w2).alloc (Nat.le_refl _) o).drew
  rw [s1] at B2
  have H1 := B1.holds (fun x hx => by simp at hx; omega) 2 2 (by simp)
  have H2 := B2.holds (nats_lt s) s.size gc (by rw [nats_length]; exact Nat.le_refl _)
  rw [List.take_of_length_le (by rw [nats_length]; exact Nat.le_refl _)] at H2
  have hcell := fun cs i v h => new_cell w2 cs t22 i v h
  rw [s2] at hcell
  refine ⟨((h0.later b1).later b2).later (b3 _), (H1.later b2).later (b3 _), H2.later (b3 _), hcell _ 0 _ rfl, hcell _ 1 _ rfl, hcell _ 2 _ rfl, ?_⟩
  exact (b1.trans (b2.mono (by omega))).trans ((b3 _).mono (by omega))
theorem leN_two (n : Nat) (h : n ≤ 65535) : leN n 2 = [n % 256, n / 256] := by
  have e : n / 256 % 256 = n / 256 := by omega
  simp [leN, List.range_succ, e]
set_option maxHeartbeats 1000000 in
theorem puttext_ok (p : Option Addr) (cap : Nat) (l : List Nat) (s : ByteArray) (w : World) (hb : Holds w (.slice p l.length cap) l) (hl : s.size ≤ 65535) (hlen : l.length + 65537 ≤ 140737488355328) :
    Calls Try.prog 30 #[.slice p l.length cap, .string s] w fun e w' => ∃ v', e = .returned (.tuple #[v', .int .i64 0]) ∧ Fresh w.heap.size w' v' (l ++ leN s.size 2 ++ nats s) ∧ Below w.heap.size w w' := by
  have hcv := fun (W : World) => run_bytes_of_string (P := Try.prog) W 9 28 5 s Try.underlying9 Try.underlying28 Try.underlying5
  have HB := Lib.hid hb
  clear hb
  go_enter Try.func30, Try.ntmps30
  go_wp2_with fail
  clear hcv
  generalize grownCap _ s.size 0 5 = gc
  obtain ⟨h0, h1, h2, c0, c1, c2, hbel⟩ := parts3 w _ _ _ l (s.size % 256) (s.size / 256) gc _ 5 28 s (Nat.mod_lt _ (by decide)) (by omega) HB.out rfl rfl rfl _ rfl
  simp only [Int.natCast_emod, Int.natCast_ediv] at h0 h1 h2 c0 c1 c2 hbel
  refine (join3 _ _ _ _ _ _ _ _ h0 h1 h2 c0 c1 c2 (by rw [nats_length]; simp; omega)).mono ?_
  have hsz := hbel.size
  have HBEL := Lib.hid hbel
  clear h0 h1 h2 c0 c1 c2 hbel
  rintro e w2 ⟨v', rfl, hF, hb2⟩
  rw [← leN_two s.size hl] at hF
  have HF := Lib.hid hF
  have HB2 := Lib.hid hb2
  clear hF hb2
  go_wp2_with fail
  go_ret2
  exact ⟨v', rfl, HF.out.mono hsz, HBEL.out.trans (HB2.out.mono hsz)⟩
theorem Fresh.slice {B : Nat} {w : World} {v : Value} {l : List Nat} (h : Fresh B w v l) : ∃ g cap, v = .slice (some ⟨g, 0, none⟩) l.length cap ∧ l.length ≤ cap := by
  obtain ⟨_, g, cap, zs, hv, _, hc, _⟩ := h
  rw [u8s_length] at hv hc
  exact ⟨g, cap, hv, hc⟩
theorem OwnB.slice {B : Nat} {w : World} {v : Value} {l : List Nat} (h : OwnB B w v l) : ∃ p cap, v = .slice p l.length cap ∧ l.length ≤ cap := by
  rcases h.2.2 with ⟨rfl, hn⟩ | ⟨g, cap, cur, rfl, _, _, hc, _⟩
  · exact ⟨none, 0, by rw [hn], by omega⟩
  · exact ⟨_, cap, rfl, hc⟩
end Go.Proofs.Ytnpipiamojmbhaa

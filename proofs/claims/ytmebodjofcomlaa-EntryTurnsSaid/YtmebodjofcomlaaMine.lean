/- A slice of bytes in a block of one's own, its spare cells there and free: what 'append' leaves; append of bytes and of zeros. -/
import Derived.Test.YtmebodjofcomlaaNumE
import Derived.ArgAppend
import Derived.Lib.AppendZeros
namespace Go.Proofs.Ytmebodjofcomlaa
open Go.RowKit
def Mine (B : Nat) (w : World) (v : Value) (L : List Nat) : Prop := (∀ b ∈ L, b < 256) ∧ ∃ g cap, v = .slice (some ⟨g, 0, none⟩) L.length cap ∧ B ≤ g ∧ g < w.heap.size ∧ L.length ≤ cap ∧ cap ≤ maxLen ∧
  (∀ j u, (cells8 L)[j]? = some u → w.cell? ⟨g, j, none⟩ = some u) ∧ ∀ j, j < cap → (w.cell? ⟨g, j, none⟩).isSome = true ∧ w.frozen? ⟨g, j, none⟩ = false
theorem lit_add (g j : Nat) : (⟨g, 0, none⟩ : Addr).add j = ⟨g, j, none⟩ := by unfold Addr.add; split <;> simp_all
theorem Mine.holds {B : Nat} {w : World} {v : Value} {L : List Nat} (h : Mine B w v L) : Holds w v L := by
  obtain ⟨h1, g, cap, rfl, _, _, _, _, hc, _⟩ := h
  refine ⟨h1, some ⟨g, 0, none⟩, cap, by rw [u8s_length], fun e => (by cases e), fun a ha i x hx => ?_⟩
  injection ha with ha
  subst ha
  rw [lit_add]
  refine hc i _ ?_
  unfold u8s at hx
  rw [List.getElem?_map] at hx
  cases hz : L[i]? with
  | none => rw [hz] at hx; cases hx
  | some b =>
    rw [hz] at hx
    simp only [Option.map_some, Option.some.injEq] at hx
    subst hx
    have hb := h1 b (List.mem_of_getElem? hz)
    unfold cells8
    rw [List.getElem?_map, hz, Option.map_some, UInt8.toNat_ofNat', Nat.mod_eq_of_lt (by omega)]
theorem Mine.mono {B B' : Nat} {w : World} {v : Value} {L : List Nat} (h : Mine B w v L) (hB : B' ≤ B) : Mine B' w v L := by
  obtain ⟨h1, g, cap, hv, hg, r⟩ := h
  exact ⟨h1, g, cap, hv, Nat.le_trans hB hg, r⟩
theorem Mine.later {B : Nat} {w w' : World} {v : Value} {L : List Nat} (h : Mine B w v L) (hb : Below w.heap.size w w') : Mine B w' v L := by
  obtain ⟨h1, g, cap, hv, hg, hlt, h2, h3, h4, h5⟩ := h
  exact ⟨h1, g, cap, hv, hg, Nat.lt_of_lt_of_le hlt hb.size, h2, h3, fun j u hu => (hb.cell (p := ⟨g, j, none⟩) hlt).trans (h4 j u hu), fun j hj => by rw [hb.cell (p := ⟨g, j, none⟩) hlt, hb.frozen (p := ⟨g, j, none⟩) hlt]; exact h5 j hj⟩
theorem zero_list (m : Nat) : (Builtin.zeroCells #[Value.int .u8 0] m).toList = cells8 (List.replicate m 0) := by
  have e : cells8 (List.replicate m 0) = List.replicate m (Value.int .u8 0) := by simp [cells8]
  rw [e, List.eq_replicate_iff]
  refine ⟨by simp [Builtin.zeroCells], fun b hb => ?_⟩
  simp only [Builtin.zeroCells, Array.toList_map, List.mem_map] at hb
  obtain ⟨i, _, rfl⟩ := hb
  show #[Value.int .u8 0][i % 1]! = _
  rw [Nat.mod_one]
  rfl
theorem run_zeros_room {P : Program} (w : World) (t tn ty e : TypeId) (i : TypeInfo) (kn : IntKind) (ht : P.underlying t = some (.slice e)) (htn : P.underlying tn = some (.int kn)) (hi : P.info? e = some i) (hz : i.zero = some (.int .u8 0)) (hsz : i.size = 1) (hby : i.bytes = 1)
    (g n cap m : Nat) (k : IntKind) (hm : m ≤ 140737488355328) (hroom : n + m ≤ cap) (hc : ∀ j, j < cap → (w.cell? ⟨g, j, none⟩).isSome = true ∧ w.frozen? ⟨g, j, none⟩ = false) :
    (Builtin.append_ #[t, tn] ty #[.slice (some ⟨g, 0, none⟩) n cap, .int k m]).run P w = .ok (.slice (some ⟨g, 0, none⟩) (n + m) cap) (w.setCells g n (cells8 (List.replicate m 0))) := by
  have hw : IntKind.i64.wrap (m : Int) = m := by rw [IntKind.wrap_i64]; omega
  have hneg : ¬ ((m : Int) < 0) := by omega
  have h48 : ¬ (281474976710656 < (m : Int)) := by omega
  have hst := run_storeCells_cells (P := P) g n (cells8 (List.replicate m 0)) 0 w (fun j hj => (hc (n + 0 + j) (by rw [cells8_length, List.length_replicate] at hj; omega)).1) (fun j hj => (hc (n + 0 + j) (by rw [cells8_length, List.length_replicate] at hj; omega)).2) (cells8_one _)
  simp only [Nat.add_zero] at hst
  by_cases h0 : m = 0
  · subst h0
    have hw0 : IntKind.i64.wrap 0 = 0 := by decide
    simp [Builtin.append_, run_underlying ht, run_underlying htn, sizeOf, typeInfo, hi, hby, asInt, asIntOf, hw0, show n ≤ cap from hroom, lit_add, storeCells, cells8, World.setCells]
  · rw [← zero_list] at hst ⊢
    simp [Builtin.append_, run_underlying ht, run_underlying htn, sizeOf, typeInfo, zeroValue, hi, hz, hsz, hby, asInt, asIntOf, hw, hneg, h48, h0, hroom, lit_add, hst, Value.cells]
theorem run_zeros_grow {P : Program} (w : World) (t tn ty e : TypeId) (i : TypeInfo) (kn : IntKind) (ht : P.underlying t = some (.slice e)) (htn : P.underlying tn = some (.int kn)) (hi : P.info? e = some i) (hz : i.zero = some (.int .u8 0)) (hsz : i.size = 1) (hby : i.bytes = 1)
    (g n cap m : Nat) (k : IntKind) (olds : List Value) (hlo : olds.length = n) (holds : ∀ j v, olds[j]? = some v → w.cell? ⟨g, j, none⟩ = some v) (hlen : n + m ≤ 140737488355328) (hgr : cap < n + m) :
    ∃ c r, n + m ≤ c ∧ c ≤ maxLen ∧ r = c - (n + m) ∧ (Builtin.append_ #[t, tn] ty #[.slice (some ⟨g, 0, none⟩) n cap, .int k m]).run P w = .ok (.slice (some ⟨w.heap.size, 0, none⟩) (n + m) c) (w.drew.alloc (.cells (olds ++ cells8 (List.replicate m 0) ++ cells8 (List.replicate r 0)).toArray e)) := by
  have hw : IntKind.i64.wrap (m : Int) = m := by rw [IntKind.wrap_i64]; omega
  have hneg : ¬ ((m : Int) < 0) := by omega
  have h48 : ¬ (281474976710656 < (m : Int)) := by omega
  have hfit := growslice_fits (bytes := 1) hgr (by omega)
  have hn : ¬ (n + m ≤ cap) := by omega
  have h63' : ¬ (9223372036854775807 < ((n : Int) + (m : Int))) := by omega
  have h48' : ¬ (281474976710656 < Builtin.nextslicecap (n + m) cap) := by omega
  have hfo := run_firstCells_some (P := P) w.drew 1 n ⟨g, 0, none⟩ n cap olds (by omega) (fun j v hj => by rw [lit_add]; simpa using holds j v hj)
  have hge := grownCap_ge w (n + m) cap e
  have hcm : grownCap w (n + m) cap e ≤ maxLen := grownCap_le_maxLen w (n + m) cap e (by unfold maxLen; omega)
  refine ⟨grownCap w (n + m) cap e, _, hge, hcm, rfl, ?_⟩
  by_cases h0 : m = 0
  · subst h0
    have hw0 : IntKind.i64.wrap 0 = 0 := by decide
    have hn' : ¬ n ≤ cap := hn
    simp only [Nat.add_zero] at h48' hfo
    have h63'' : ¬ (9223372036854775807 < (n : Int)) := by omega
    have hq : (Question.appendCap n cap e).forced = false := rfl
    simp [Builtin.append_, run_underlying ht, run_underlying htn, sizeOf, typeInfo, zeroValue, hi, hz, hsz, hby, asInt, asIntOf, hw0, hn', h63'', h48', hq, hfo, newRow, grownCap, Value.cells]
    apply congrArg (fun x => w.drew.alloc (.cells x e))
    apply Array.ext'
    simp [zero_list, cells8]
  · have hq : (Question.appendCap (n + m) cap e).forced = false := rfl
    simp [Builtin.append_, run_underlying ht, run_underlying htn, sizeOf, typeInfo, zeroValue, hi, hz, hsz, hby, asInt, asIntOf, hw, hneg, h48, h0, hn, h63', h48', hq, hfo, newRow, grownCap, Value.cells]
    apply congrArg (fun x => w.drew.alloc (.cells x e))
    apply Array.ext'
    simp [zero_list]
theorem below_cells (B b : Nat) (hb : B ≤ b) (a : World) : ∀ (vs : List Value) (o : Nat) (w : World), Below B a w → Below B a (w.setCells b o vs)
  | [], _, _, h => h
  | v :: r, o, _, h => below_cells B b hb a r (o + 1) _ (h.setCell (p := ⟨b, o, none⟩) hb v)
theorem size_cells (b : Nat) : ∀ (vs : List Value) (o : Nat) (w : World), (w.setCells b o vs).heap.size = w.heap.size
  | [], _, _ => rfl
  | v :: r, o, _ => by rw [World.setCells, size_cells b r]; simp
theorem cells8_append (L T : List Nat) : cells8 (L ++ T) = cells8 L ++ cells8 T := by simp [cells8]
/-- The arm with room. -/
theorem mine_room {B : Nat} {w : World} {g cap : Nat} {L T : List Nat} (h8 : ∀ b ∈ L, b < 256) (hT : ∀ b ∈ T, b < 256) (hg : B ≤ g) (hlt : g < w.heap.size) (hcap : cap ≤ maxLen) (hroom : L.length + T.length ≤ cap)
    (hc : ∀ j u, (cells8 L)[j]? = some u → w.cell? ⟨g, j, none⟩ = some u) (hs : ∀ j, j < cap → (w.cell? ⟨g, j, none⟩).isSome = true ∧ w.frozen? ⟨g, j, none⟩ = false) :
    Mine B (w.setCells g L.length (cells8 T)) (.slice (some ⟨g, 0, none⟩) (L.length + T.length) cap) (L ++ T) := by
  have hin := World.cell?_setCells_in g (cells8 T) L.length w (fun j hj => (hs (L.length + j) (by rw [cells8_length] at hj; omega)).1)
  refine ⟨fun b hb => ?_, g, cap, by rw [List.length_append], hg, by rw [size_cells]; exact hlt, by rw [List.length_append]; exact hroom, hcap, fun j u hu => ?_, fun j hj => ?_⟩
  · rcases List.mem_append.1 hb with h | h
    · exact h8 b h
    · exact hT b h
  · rw [cells8_append] at hu
    by_cases hj : j < L.length
    · rw [List.getElem?_append_left (by rw [cells8_length]; exact hj)] at hu
      rw [World.cell?_setCells_out g _ _ _ _ (fun _ _ => Or.inl hj)]
      exact hc j u hu
    · rw [List.getElem?_append_right (by rw [cells8_length]; omega), cells8_length] at hu
      obtain ⟨hjl, hv⟩ := List.getElem?_eq_some_iff.1 hu
      have h := hin (j - L.length) hjl
      rw [show L.length + (j - L.length) = j by omega] at h
      rw [h, hv]
  · refine ⟨?_, by rw [World.frozen?_setCells]; exact (hs j hj).2⟩
    by_cases h1 : j < L.length
    · rw [World.cell?_setCells_out g _ _ _ _ (fun _ _ => Or.inl h1)]; exact (hs j hj).1
    · by_cases h2 : j < L.length + T.length
      · have h := hin (j - L.length) (by rw [cells8_length]; omega)
        rw [show L.length + (j - L.length) = j by omega] at h
        rw [h]; rfl
      · rw [World.cell?_setCells_out g _ _ _ _ (fun _ _ => Or.inr (by rw [cells8_length]; show _ ≤ j; omega))]; exact (hs j hj).1
/-- A row of one's own. -/
theorem mine_row {B : Nat} {w : World} {g cap : Nat} {L : List Nat} {cur : Array Value} {e : TypeId} (h8 : ∀ b ∈ L, b < 256) (hg : B ≤ g) (hr : w.heap[g]? = some (.cells cur e (0, 0))) (hl : L.length ≤ cap) (hcap : cap ≤ maxLen) (hsz : cur.size = cap)
    (htk : cur.toList.take L.length = cells8 L) : Mine B w (.slice (some ⟨g, 0, none⟩) L.length cap) L := by
  refine ⟨h8, g, cap, rfl, hg, (Array.getElem?_eq_some_iff.1 hr).1, hl, hcap, fun j u hu => ?_, fun j hj => ⟨?_, ?_⟩⟩
  · rw [cell_of_row _ _ _ _ _ _ hr]
    rw [← htk] at hu
    have hjl : j < L.length := by
      have := (List.getElem?_eq_some_iff.1 hu).1
      rw [List.length_take] at this; omega
    rw [List.getElem?_take_of_lt hjl] at hu
    rw [← Array.getElem?_toList]; exact hu
  · rw [cell_of_row _ _ _ _ _ _ hr, Array.getElem?_eq_getElem (by omega)]; rfl
  · simp [World.frozen?, hr]
theorem Fresh.mine {B : Nat} {w : World} {v : Value} {L : List Nat} (h : Fresh B w v L) (hL : 0 < L.length) : Mine B w v L := by
  have hh := h.holds
  obtain ⟨h1, g, cap, zs, hv, hg, hcap, hm, hzl, hz, hbs, hc, hf⟩ := h
  rw [u8s_length] at hv hcap
  subst hv
  obtain ⟨_, _, hcl⟩ := hh.cells
  have hlt : g < w.heap.size := by
    have := hc 0 (by omega)
    rcases Nat.lt_or_ge g w.heap.size with h | h
    · exact h
    · exfalso
      have e : w.cell? ⟨g, 0, none⟩ = none := by
        simp [World.cell?, Array.getElem?_eq_none h]
      rw [e] at this; cases this
  exact ⟨h1, g, cap, rfl, hg, hlt, hcap, hm, fun j u hu => by have := hcl _ rfl j u hu; rwa [lit_add] at this, fun j hj => ⟨by rw [hc j hj]; rfl, hf j hj⟩⟩
/-- 'append(b, xs...)' of bytes, b one's own. -/
theorem appM {wr w0 : World} {B : Nat} {ops : Array Oper} {rest : List Oper} {o : Oper} {a : Act} {Q : Exit → Act → World → Prop} (hgd : o.guard = none) (s x : Operand)
    (ho : o.op = .call { callee := .builtin .append, args := #[s, x], argTypes := #[44, 44] }) (v : Value) (L : List Nat) (hs : a.eval s = v) (hO : Mine B wr v L)
    (ad : Addr) (m c : Nat) (T : List Nat) (hx : a.eval x = .slice (some ad) m c) (hT : Holds wr (.slice (some ad) m c) T) (hlen : L.length + T.length ≤ 140737488355328) (hb0 : Below B w0 wr) (hB : B ≤ wr.heap.size)
    (h : ∀ v' w', Mine B w' v' (L ++ T) → Below B w0 w' → wpList Try.prog ops Q rest (a.put o.dst v') w') : wpList Try.prog ops Q (o :: rest) a wr := by
  obtain ⟨i0, hi, hz0, hz1, hz2⟩ := info_parts info_u8
  obtain ⟨hm, hn, hcl⟩ := hT.cells
  subst hm
  have h8T := hT.1
  obtain ⟨h8, g, cap, rfl, hg, hlt, hl, hcap, hc, hsp⟩ := hO
  refine wpList_append_arg wr hgd s x 44 ho 5 i0 (.int .u8 0) 1 1 Try.underlying44 hi hz0 hz1 hz2 rfl (by decide) g 0 L.length cap (cells8 L) hs (by rw [cells8_length, Nat.mul_one]) (fun j u hu => by rw [Nat.zero_add]; exact hc j u hu)
    ad T.length c (cells8 T) hx (by rw [cells8_length, Nat.mul_one]) (hcl ad rfl) (cells8_one T) (fun hr j hj => ?_) (by unfold maxLen; omega) (by omega) (fun hr => ?_) (fun hr v' w' hown hgr => ?_)
  · rw [cells8_length] at hj
    rw [Nat.zero_add, Nat.mul_one]
    exact hsp (L.length + j) (by omega)
  · rw [Nat.zero_add, Nat.mul_one]
    exact h _ _ (mine_room h8 h8T hg hlt hcap hr hc hsp) (below_cells B g hg w0 _ _ wr hb0)
  · refine h v' w' ?_ (hb0.grown hgr hB (fun k hk => by cases hk))
    have h8' : ∀ b ∈ L ++ T, b < 256 := fun b hb => by
      rcases List.mem_append.1 hb with h | h
      · exact h8 b h
      · exact h8T b h
    rcases hown.2 with ⟨rfl, hn0⟩ | ⟨g', cap', cur, rfl, hg', hr', hl', hm', hsz', htk⟩
    · omega
    · rw [← List.length_append] at hl' htk ⊢
      rw [Nat.mul_one] at hsz' htk
      exact mine_row h8' (Nat.le_trans hB hg') hr' hl' hm' hsz' (by rw [htk, cells8_append])
/-- 'append(b, make([]byte, m)...)', b one's own. -/
theorem appZ {wr w0 : World} {B : Nat} {ops : Array Oper} {rest : List Oper} {o : Oper} {a : Act} {Q : Exit → Act → World → Prop} (hgd : o.guard = none) (s x : Operand)
    (ho : o.op = .call { callee := .builtin .append, args := #[s, x], argTypes := #[44, 3] }) (v : Value) (L : List Nat) (hs : a.eval s = v) (hO : Mine B wr v L)
    (k : IntKind) (m : Nat) (hx : a.eval x = .int k m) (hlen : L.length + m ≤ 140737488355328) (hb0 : Below B w0 wr) (hB : B ≤ wr.heap.size)
    (h : ∀ v' w', Mine B w' v' (L ++ List.replicate m 0) → Below B w0 w' → wpList Try.prog ops Q rest (a.put o.dst v') w') : wpList Try.prog ops Q (o :: rest) a wr := by
  obtain ⟨i0, hi, hz0, hz1, hz2⟩ := info_parts info_u8
  obtain ⟨h8, g, cap, rfl, hg, hlt, hl, hcap, hc, hsp⟩ := hO
  have h8T : ∀ b ∈ List.replicate m 0, b < 256 := fun b hb => by rw [(List.mem_replicate.1 hb).2]; decide
  by_cases hr : L.length + m ≤ cap
  · have hrun := run_zeros_room (P := Try.prog) wr 44 3 o.type 5 i0 .i64 Try.underlying44 Try.underlying3 hi hz0 hz1 hz2 g L.length cap m k (by omega) hr hsp
    refine Lib.wpList_append_run wr hgd s x _ _ ho _ _ hs hx _ _ hrun (h _ _ ?_ (below_cells B g hg w0 _ _ wr hb0))
    have := mine_room (T := List.replicate m 0) h8 h8T hg hlt hcap (by rw [List.length_replicate]; exact hr) hc hsp
    rwa [List.length_replicate] at this
  · obtain ⟨c, r, hc1, hc2, rfl, hrun⟩ := run_zeros_grow (P := Try.prog) wr 44 3 o.type 5 i0 .i64 Try.underlying44 Try.underlying3 hi hz0 hz1 hz2 g L.length cap m k (cells8 L) (cells8_length L) hc hlen (by omega)
    refine Lib.wpList_append_run wr hgd s x _ _ ho _ _ hs hx _ _ hrun (h _ _ ?_ (hb0.drew.alloc hB _))
    have h8' : ∀ b ∈ L ++ List.replicate m 0, b < 256 := fun b hb => by
      rcases List.mem_append.1 hb with h | h
      · exact h8 b h
      · exact h8T b h
    have hll : (L ++ List.replicate m 0).length = L.length + m := by rw [List.length_append, List.length_replicate]
    have := mine_row (B := B) (cap := c) (L := L ++ List.replicate m 0) h8' hB (heap_alloc_new wr.drew (.cells (cells8 L ++ cells8 (List.replicate m 0) ++ cells8 (List.replicate (c - (L.length + m)) 0)).toArray 5)) (by omega) hc2
      (by simp only [List.size_toArray, List.length_append, cells8_length, List.length_replicate]; omega)
      (by rw [← cells8_append]; exact List.take_left' (by rw [cells8_length]))
    rwa [hll] at this
end Go.Proofs.Ytmebodjofcomlaa

/- Words for bytes in memory, and the plain law of four turned bytes. No program in sight. A block whose cells are known and free; '[]byte(s)'. The contract of bytes.Join at this dump, laid by the kit's tool (lay-shelf, lay-plain). A slice of bytes in a block of one's own, its spare cells there and free: what 'append' leaves; append of bytes and of zeros. 'string(b)'; rows of a block; what header bytes are. The plain law of the check sum: what the register does, bit by bit, byte by byte, by the table; sums of joined texts; four turned bytes are told. No program in sight. -/
import Derived.WalkKit
import Derived.WalkSpells
import Derived.Lib.Hide
import Derived.Deep.Draws
import Derived.Below
import Derived.RowKit3
import Derived.Ground.SlbNamesProg
import Derived.Shelf.Bytes.SlJoin
import Derived.Test.YtpbjjmenkoigjaaDoorProg
import Derived.WalkLawsBesides
import Derived.Laws.CopyOwn
import Derived.ArgAppend
import Derived.Lib.AppendZeros
import Derived.Deep.RegionLaw
import Derived.Deep.Slices
import Derived.RegionTactic
import Derived.BigRegion
import Derived.Deep.QuietTactic
import Derived.BigQuiet
import Derived.ChangeAlike
section
namespace Go.Proofs.YtpbjjmenkoigjaaDoor
open Go.RowKit
namespace Turn
def turned (l : List Nat) (a d : Nat) : Nat → List Nat
  | 0 => l
  | k + 1 => (turned l a d k).set (a + k) ((turned l a d k).getD (a + k) 0 ^^^ (d / 256 ^ k % 256))
theorem turned_len (l : List Nat) (a d : Nat) : ∀ k, (turned l a d k).length = l.length
  | 0 => rfl
  | k + 1 => by rw [turned, List.length_set]; exact turned_len l a d k
theorem get_at (p q : List Nat) (k : Nat) : (p ++ q).getD (p.length + k) 0 = q.getD k 0 := by
  simp [List.getD, List.getElem?_append_right]
theorem four (p q : List Nat) (b0 b1 b2 b3 d : Nat) : turned (p ++ (b0 :: b1 :: b2 :: b3 :: q)) p.length d 4 =
    p ++ ([b0 ^^^ (d % 256), b1 ^^^ (d / 256 % 256), b2 ^^^ (d / 65536 % 256), b3 ^^^ (d / 16777216 % 256)] ++ q) := by
  have s : ∀ (r : List Nat) (k x : Nat), (p ++ r).set (p.length + k) x = p ++ r.set k x := fun r k x => by
    rw [List.set_append_right _ _ (by omega), Nat.add_sub_cancel_left]
  simp only [turned, get_at, s]
  simp
theorem split (l : List Nat) (a : Nat) (h : a + 4 ≤ l.length) : ∃ p b0 b1 b2 b3 q, l = p ++ (b0 :: b1 :: b2 :: b3 :: q) ∧ p.length = a := by
  have hd : (l.drop a).length ≥ 4 := by rw [List.length_drop]; omega
  match hm : l.drop a, hd with
  | b0 :: b1 :: b2 :: b3 :: q, _ => exact ⟨l.take a, b0, b1, b2, b3, q, by rw [← hm, List.take_append_drop], by rw [List.length_take]; omega⟩
end Turn
theorem below_drewN {B : Nat} {a w : World} (h : Below B a w) (n : Nat) : Below B a (w.drewN n) := ⟨h.os, h.tape, h.output, h.size, h.block⟩
/-- The bytes of a text, as numbers; and a text of numbers. -/
def nats (s : ByteArray) : List Nat := s.data.toList.map UInt8.toNat
def text (l : List Nat) : ByteArray := ⟨(l.map UInt8.ofNat).toArray⟩
theorem nats_lt (s : ByteArray) : ∀ b ∈ nats s, b < 256 := by
  intro b hb
  simp only [nats, List.mem_map] at hb
  obtain ⟨c, _, rfl⟩ := hb
  exact c.toNat_lt
theorem nats_length (s : ByteArray) : (nats s).length = s.size := by simp [nats]
theorem nats_text (l : List Nat) (h : ∀ b ∈ l, b < 256) : nats (text l) = l := by
  simp only [nats, text, List.map_map]
  conv => rhs; rw [← List.map_id l]
  exact List.map_congr_left fun b hb => by
    show (UInt8.ofNat b).toNat = b
    rw [UInt8.toNat_ofNat']; exact Nat.mod_eq_of_lt (h b hb)
theorem text_nats (s : ByteArray) : text (nats s) = s := by
  obtain ⟨d⟩ := s
  simp only [nats, text, List.map_map]
  congr 1
  apply Array.toList_inj.1
  show (d.toList.map _) = d.toList
  conv => rhs; rw [← List.map_id d.toList]
  exact List.map_congr_left fun b _ => by simp
theorem text_size (l : List Nat) : (text l).size = l.length := by simp [text, ByteArray.size]
theorem nats_append (s t : ByteArray) : nats (s ++ t) = nats s ++ nats t := by simp [nats]
theorem nats_inj {s t : ByteArray} (h : nats s = nats t) : s = t := by rw [← text_nats s, h, text_nats]
theorem nats_take (s : ByteArray) (k : Nat) (h : k < s.size) : (nats s).take (k + 1) = (nats s).take k ++ [(s[k]).toNat] := by
  rw [List.take_succ_eq_append_getElem (by rw [nats_length]; exact h)]
  simp [nats]; rfl
theorem nats_get (s : ByteArray) (k : Nat) (h : k < s.size) : (nats s)[k]? = some (s[k]).toNat := by
  rw [List.getElem?_eq_getElem (by rw [nats_length]; exact h)]
  simp [nats]; rfl
theorem nats_getD (s : ByteArray) (k : Nat) (h : k < s.size) : (nats s).getD k 0 = (s[k]).toNat := by
  rw [List.getD_eq_getElem?_getD, nats_get s k h]; rfl
/-- Block g holds the bytes l, none of them frozen. -/
def BB (w : World) (g : Nat) (l : List Nat) : Prop := ∀ j x : Nat, l[j]? = some x → w.cell? ⟨g, j, none⟩ = some (.int .u8 (x : Int)) ∧ w.frozen? ⟨g, j, none⟩ = false
section
variable {w w' : World} {g : Nat} {l : List Nat}
theorem BB.below {B : Nat} (h : BB w g l) (hb : Below B w w') (hg : g < B) : BB w' g l := fun j x hx => by
  have := h j x hx
  exact ⟨(hb.cell (p := ⟨g, j, none⟩) hg).trans this.1, (hb.frozen (p := ⟨g, j, none⟩) hg).trans this.2⟩
theorem BB.drew (h : BB w g l) : BB w.drew g l := h
theorem BB.drewN (h : BB w g l) (n : Nat) : BB (w.drewN n) g l := h
theorem BB.at_ (h : BB w g l) (j : Nat) (hj : j < l.length) : w.cell? ⟨g, j, none⟩ = some (.int .u8 ((l.getD j 0 : Nat) : Int)) ∧ w.frozen? ⟨g, j, none⟩ = false := by
  have := h j l[j] (List.getElem?_eq_getElem hj)
  rw [List.getD_eq_getElem?_getD, List.getElem?_eq_getElem hj]
  exact this
theorem BB.set_ (h : BB w g l) (k x : Nat) : BB (w.setCell ⟨g, k, none⟩ (.int .u8 (x : Int))) g (l.set k x) := by
  intro j y hy
  by_cases hk : j = k
  · subst hk
    have hj : j < l.length := by
      have := (List.getElem?_eq_some_iff.1 hy).1
      simpa using this
    rw [List.getElem?_set_self hj] at hy
    injection hy with hy
    subst hy
    have := h.at_ j hj
    refine ⟨?_, ?_⟩
    · exact World.cell?_setCell_same _ _ _ this.1
    · rw [World.frozen?_setCell]; exact this.2
  · rw [List.getElem?_set_ne (fun e => hk e.symm)] at hy
    have := h j y hy
    refine ⟨?_, ?_⟩
    · exact (World.cell?_setCell_other w _ _ _ (by intro e; injection e; omega)).trans this.1
    · rw [World.frozen?_setCell]; exact this.2
end
end Go.Proofs.YtpbjjmenkoigjaaDoor
end

section
namespace Go.Proofs.YtpbjjmenkoigjaaDoor
open Go.RowKit
/-- The cells of a block. -/
def Row (w : World) (b : Nat) (cs : Array Value) : Prop := b < w.heap.size ∧ ∀ i v, cs[i]? = some v → w.cell? ⟨b, i, none⟩ = some v
theorem Row.below {w w' : World} {b B : Nat} {cs : Array Value} (h : Row w b cs) (hb : Below B w w') (hB : b < B) : Row w' b cs :=
  ⟨Nat.lt_of_lt_of_le h.1 hb.size, fun i v hv => (hb.cell (p := ⟨b, i, none⟩) hB).trans (h.2 i v hv)⟩
theorem Row.alloc {w : World} {b : Nat} {cs : Array Value} (h : Row w b cs) (o : Obj) : Row (w.alloc o) b cs :=
  h.below ((Below.refl w.heap.size w).alloc (Nat.le_refl _) o) h.1
theorem Row.new (w : World) (cs : Array Value) (t : TypeId) (k : Nat) (hk : k = w.heap.size) : Row (w.alloc (.cells cs t)) k cs := by
  subst hk
  refine ⟨by simp, fun i v hv => ?_⟩
  rw [cell_of_row _ _ _ _ _ _ (heap_alloc_new w _)]
  exact hv
end Go.Proofs.YtpbjjmenkoigjaaDoor
end

section
namespace Go.Proofs.YtpbjjmenkoigjaaDoor
open Go.RowKit
/-- The cells of a block, none of them frozen. -/
def Blk (w : World) (b : Nat) (cs : Array Value) : Prop := b < w.heap.size ∧ ∀ i v, cs[i]? = some v → w.cell? ⟨b, i, none⟩ = some v ∧ w.frozen? ⟨b, i, none⟩ = false
theorem Blk.row {w : World} {b : Nat} {cs : Array Value} (h : Blk w b cs) : Row w b cs := ⟨h.1, fun i v hv => (h.2 i v hv).1⟩
theorem Blk.below {w w' : World} {b B : Nat} {cs : Array Value} (h : Blk w b cs) (hb : Below B w w') (hB : b < B) : Blk w' b cs :=
  ⟨Nat.lt_of_lt_of_le h.1 hb.size, fun i v hv => ⟨(hb.cell (p := ⟨b, i, none⟩) hB).trans (h.2 i v hv).1, (hb.frozen (p := ⟨b, i, none⟩) hB).trans (h.2 i v hv).2⟩⟩
theorem Blk.later {w w' : World} {b : Nat} {cs : Array Value} (h : Blk w b cs) (hb : Below w.heap.size w w') : Blk w' b cs := h.below hb h.1
theorem Blk.alloc {w : World} {b : Nat} {cs : Array Value} (h : Blk w b cs) (o : Obj) : Blk (w.alloc o) b cs :=
  h.below ((Below.refl w.heap.size w).alloc (Nat.le_refl _) o) h.1
theorem Blk.drew {w : World} {b : Nat} {cs : Array Value} (h : Blk w b cs) : Blk w.drew b cs := h
theorem Blk.new (w : World) (cs : Array Value) (t : TypeId) (k : Nat) (hk : k = w.heap.size) : Blk (w.alloc (.cells cs t)) k cs := by
  subst hk
  refine ⟨by simp, fun i v hv => ⟨?_, ?_⟩⟩
  · rw [cell_of_row _ _ _ _ _ _ (heap_alloc_new w _)]
    exact hv
  · unfold World.frozen?
    rw [heap_alloc_new w]
    simp
theorem Blk.other {w : World} {b : Nat} {cs : Array Value} (h : Blk w b cs) (p : Addr) (hp : p.block ≠ b) (v : Value) : Blk (w.setCell p v) b cs := by
  refine ⟨by simpa using h.1, fun i x hx => ⟨?_, ?_⟩⟩
  · exact (World.cell?_setCell_other w _ _ _ (by intro e; rw [e] at hp; exact hp rfl)).trans (h.2 i x hx).1
  · rw [World.frozen?_setCell]; exact (h.2 i x hx).2
theorem Blk.set_ {w : World} {b : Nat} {cs : Array Value} (h : Blk w b cs) (k : Nat) (x : Value) : Blk (w.setCell ⟨b, k, none⟩ x) b (cs.setIfInBounds k x) := by
  refine ⟨by simpa using h.1, fun j y hy => ?_⟩
  by_cases hk : k = j
  · subst hk
    have hj : k < cs.size := by
      have := (Array.getElem?_eq_some_iff.1 hy).1
      simpa using this
    rw [Array.getElem?_setIfInBounds_self_of_lt hj] at hy
    injection hy with hy
    subst hy
    have := h.2 k cs[k] (Array.getElem?_eq_getElem hj)
    exact ⟨World.cell?_setCell_same _ _ _ this.1, by rw [World.frozen?_setCell]; exact this.2⟩
  · rw [Array.getElem?_setIfInBounds_ne (Ne.symm (fun e => hk e.symm))] at hy
    have := h.2 j y hy
    exact ⟨(World.cell?_setCell_other w _ _ _ (by intro e; injection e; omega)).trans this.1, by rw [World.frozen?_setCell]; exact this.2⟩
theorem bb_row (w : World) (s : ByteArray) (cap t n : Nat) : BB (w.alloc (.cells (bytesRow s cap) t ((bytesRow s cap).size, n))) w.heap.size (nats s) := by
  intro j x hx
  have hj : j < s.size := by
    have := (List.getElem?_eq_some_iff.1 hx).1
    rwa [nats_length] at this
  have hb := heap_alloc_new w (.cells (bytesRow s cap) t ((bytesRow s cap).size, n))
  have hj' : j < s.data.size := hj
  have hrow : (bytesRow s cap)[j]? = some (.int .u8 (x : Int)) := by
    rw [nats_get s j hj] at hx
    injection hx with hx
    subst hx
    unfold bytesRow
    rw [Array.getElem?_append_left (by simpa using hj')]
    rw [Array.getElem?_map, Array.getElem?_eq_getElem hj']
    rfl
  refine ⟨by rw [cell_of_row _ _ _ _ _ _ hb]; exact hrow, ?_⟩
  have hlt : j < (bytesRow s cap).size := by
    rcases Nat.lt_or_ge j (bytesRow s cap).size with h | h
    · exact h
    · rw [Array.getElem?_eq_none h] at hrow; cases hrow
  unfold World.frozen?
  rw [hb]
  simp
  omega
theorem nats_extract (s : ByteArray) (a b : Nat) : nats (s.extract a b) = ((nats s).take b).drop a := by
  unfold nats
  rw [ByteArray.data_extract, Array.toList_extract, List.extract_eq_take_drop, List.map_take, List.map_drop, List.drop_take]
end Go.Proofs.YtpbjjmenkoigjaaDoor
end

section
namespace Go.Proofs
open Go.Shelf
def Tryd.laysSlJ14_ren : Go.Shelf.Ren := ⟨fun | 14 => 68 | 15 => 78 | n => n, fun | 26 => 107 | 22 => 97 | 3 => 3 | 4 => 4 | 0 => 0 | 9 => 9 | 20 => 20 | 5 => 5 | n => n, fun | n => n⟩
theorem Tryd.laysSlJ14 : Go.Proofs.SlLaysJ.n14 Tryd.prog Tryd.laysSlJ14_ren := {
  mixed := by kernel_rfl
  f14 := Tryd.func68.trans (congrArg some (by kernel_rfl))
  f15 := Tryd.func78.trans (congrArg some (by kernel_rfl))
  t0 := Tryd.underlying0
  a0 := Tryd.isAgg0
  z0 := Tryd.sizeOf0
  v0 := Tryd.zeroValue0
  t3 := Tryd.underlying3
  a3 := Tryd.isAgg3
  z3 := Tryd.sizeOf3
  v3 := Tryd.zeroValue3
  t4 := Tryd.underlying4
  a4 := Tryd.isAgg4
  z4 := Tryd.sizeOf4
  v4 := Tryd.zeroValue4
  t9 := Tryd.underlying9
  a9 := Tryd.isAgg9
  z9 := Tryd.sizeOf9
  v9 := Tryd.zeroValue9
  t20 := Tryd.underlying20
  a20 := Tryd.isAgg20
  z20 := Tryd.sizeOf20
  v20 := Tryd.zeroValue20
  t22 := Tryd.underlying97
  a22 := Tryd.isAgg97
  z22 := Tryd.sizeOf97
  v22 := Tryd.zeroValue97
  t26 := Tryd.underlying107
  a26 := Tryd.isAgg107
  z26 := Tryd.sizeOf107
  v26 := Tryd.zeroValue107
  t5 := Tryd.underlying5
  z5 := Tryd.sizeOf5
  i5 := by kernel_rfl }
open Go.RowKit Go.Lib in
theorem Tryd.bytes_Join_many (b o n c : Nat) (vs : List Value) (ls : List (List UInt8)) (sv : Value) (sep : List UInt8) (w : World) (hn : ls.length = n) (h2 : 2 ≤ n) (hP : Lib.PartsAt w ⟨b, o, none⟩ vs ls) (hcap : n ≤ c) (hS : Lib.HoldsBytes w sv sep) (hn47 : n ≤ 140737488355328) (hlen : Lib.lens ls + sep.length * (n - 1) ≤ 140737488355328) :
    Calls Tryd.prog 68 #[.slice (some ⟨b, o, none⟩) n c, sv] w fun e w' => ∃ v', e = .returned v' ∧ Lib.FreshBytes w.heap.size w' v' (Lib.join ls sep) ∧ Below w.heap.size w w' := Any.bytes_Join_many Tryd.laysSlJ14 b o n c vs ls sv sep w hn h2 hP hcap hS hn47 hlen
open Go.RowKit Go.Lib in
theorem Tryd.bytes_Join_none (p : Option Addr) (c : Nat) (sv : Value) (w : World) :
    Calls Tryd.prog 68 #[.slice p 0 c, sv] w fun e w' => e = .returned (.slice (some ⟨w.heap.size, 0, none⟩) 0 0) ∧ w' = w.alloc (.cells #[] 5) := Any.bytes_Join_none Tryd.laysSlJ14 p c sv w
open Go.RowKit Go.Lib in
theorem Tryd.bytes_Join_one (b o c : Nat) (ad0 : Addr) (c0 : Nat) (l0 : List UInt8) (sv : Value) (w : World) (hcell : w.cell? ⟨b, o, none⟩ = some (.slice (some ad0) l0.length c0)) (hc : ∀ (i : Nat) x, l0[i]? = some x → w.cell? (ad0.add i) = some (.int .u8 (x.toNat : Int))) (h0 : 0 < l0.length) (hs : l0.length ≤ 140737488355328) :
    Calls Tryd.prog 68 #[.slice (some ⟨b, o, none⟩) 1 c, sv] w fun e w' => ∃ v', e = .returned v' ∧ Lib.FreshBytes w.heap.size w' v' l0 ∧ Below w.heap.size w w' := Any.bytes_Join_one Tryd.laysSlJ14 b o c ad0 c0 l0 sv w hcell hc h0 hs
open Go.RowKit Go.Lib in
theorem Tryd.bytes_Join_one_empty (b o c : Nat) (p0 : Option Addr) (c0 : Nat) (sv : Value) (w : World) (hcell : w.cell? ⟨b, o, none⟩ = some (.slice p0 0 c0)) :
    Calls Tryd.prog 68 #[.slice (some ⟨b, o, none⟩) 1 c, sv] w fun e w' => e = .returned (.slice none 0 0) ∧ w' = w := Any.bytes_Join_one_empty Tryd.laysSlJ14 b o c p0 c0 sv w hcell
end Go.Proofs
end

section
namespace Go.Proofs.YtpbjjmenkoigjaaDoor
open Go.RowKit
def leN (n k : Nat) : List Nat := (List.range k).map fun i => n / 256 ^ i % 256
theorem leN_length (n k : Nat) : (leN n k).length = k := by simp [leN]
theorem leN_lt (n k : Nat) : ∀ b ∈ leN n k, b < 256 := by
  intro b hb
  simp only [leN, List.mem_map] at hb
  obtain ⟨i, _, rfl⟩ := hb
  exact Nat.mod_lt _ (by decide)
theorem leN_succ (n k : Nat) : leN n (k + 1) = leN n k ++ [n / 256 ^ k % 256] := by simp [leN, List.range_succ]
def u8s (l : List Nat) : List UInt8 := l.map UInt8.ofNat
theorem u8s_length (l : List Nat) : (u8s l).length = l.length := by simp [u8s]
/-- A slice of the bytes l (nil: none). -/
def Holds (w : World) (v : Value) (l : List Nat) : Prop := (∀ b ∈ l, b < 256) ∧ Lib.HoldsBytes w v (u8s l)
/-- A slice of the bytes l in a block of its own, from block B on. -/
def Fresh (B : Nat) (w : World) (v : Value) (l : List Nat) : Prop := (∀ b ∈ l, b < 256) ∧ Lib.FreshBytes B w v (u8s l)
theorem bytesOf_get (zs : List Int) (l : List UInt8) (h : Lib.bytesOf zs = l) (hz : ∀ x ∈ zs, 0 ≤ x ∧ x < 256) (i : Nat) (x : UInt8) (hx : l[i]? = some x) : zs[i]? = some (x.toNat : Int) := by
  subst h
  unfold Lib.bytesOf at hx
  rw [List.getElem?_map] at hx
  cases hz' : zs[i]? with
  | none => rw [hz'] at hx; cases hx
  | some z =>
    rw [hz'] at hx
    simp only [Option.map_some, Option.some.injEq] at hx
    have hm := hz z (List.mem_of_getElem? hz')
    subst hx
    congr 1
    rw [UInt8.toNat_ofNat']
    omega
theorem Fresh.holds {B : Nat} {w : World} {v : Value} {l : List Nat} (h : Fresh B w v l) : Holds w v l := by
  obtain ⟨h1, g, cap, zs, hv, _, hcap, _, hzl, hz, hbs, hc, _⟩ := h
  refine ⟨h1, some ⟨g, 0, none⟩, cap, hv, fun e => (by cases e), fun a ha i x hx => ?_⟩
  injection ha with ha
  subst ha
  have hi : i < (u8s l).length := (List.getElem?_eq_some_iff.1 hx).1
  have hadd : (⟨g, 0, none⟩ : Addr).add i = ⟨g, i, none⟩ := by unfold Addr.add; split <;> simp_all
  rw [hadd, hc i (by omega)]
  have hg := bytesOf_get (zs.take (u8s l).length) (u8s l) hbs (fun x hx => hz x (List.mem_of_mem_take hx)) i x hx
  rw [List.getElem?_take_of_lt hi] at hg
  rw [List.getD_eq_getElem?_getD, hg]
  rfl
theorem Holds.later {w w' : World} {v : Value} {l : List Nat} (h : Holds w v l) (hb : Below w.heap.size w w') : Holds w' v l := by
  obtain ⟨h1, p, cap, hv, hn, hc⟩ := h
  exact ⟨h1, p, cap, hv, hn, fun a ha i x hx => cell_later hb (hc a ha i x hx)⟩
theorem BB.holds {w : World} {g : Nat} {L : List Nat} (h : BB w g L) (hl : ∀ b ∈ L, b < 256) (k cap : Nat) (hk : k ≤ L.length) : Holds w (.slice (some ⟨g, 0, none⟩) k cap) (L.take k) := by
  refine ⟨fun b hb => hl b (List.mem_of_mem_take hb), some ⟨g, 0, none⟩, cap, by rw [u8s_length, List.length_take, Nat.min_eq_left hk], fun e => (by cases e), fun a ha i x hx => ?_⟩
  injection ha with ha
  subst ha
  have hadd : (⟨g, 0, none⟩ : Addr).add i = ⟨g, i, none⟩ := by unfold Addr.add; split <;> simp_all
  rw [hadd]
  unfold u8s at hx
  rw [List.getElem?_map] at hx
  cases hz' : (L.take k)[i]? with
  | none => rw [hz'] at hx; cases hx
  | some z =>
    rw [hz'] at hx
    simp only [Option.map_some, Option.some.injEq] at hx
    have hi : i < k := by
      have := (List.getElem?_eq_some_iff.1 hz').1
      rw [List.length_take] at this
      omega
    rw [List.getElem?_take_of_lt hi] at hz'
    have hm := hl z (List.mem_of_getElem? hz')
    subst hx
    rw [(h i z hz').1, UInt8.toNat_ofNat', Nat.mod_eq_of_lt hm]
theorem Holds.nil (w : World) : Holds w (.slice none 0 0) [] := ⟨fun b hb => (by cases hb), none, 0, rfl, fun _ => rfl, fun a ha => (by cases ha)⟩
/-- bytes.Join of two parts, of three parts, nothing between. -/
theorem join2 (w : World) (g : Nat) (v0 v1 : Value) (l0 l1 : List Nat) (h0 : Holds w v0 l0) (h1 : Holds w v1 l1) (hc0 : w.cell? ⟨g, 0, none⟩ = some v0) (hc1 : w.cell? ⟨g, 1, none⟩ = some v1) (hlen : l0.length + l1.length ≤ 140737488355328) :
    Calls Tryd.prog 68 #[.slice (some ⟨g, 0, none⟩) 2 2, .slice none 0 0] w fun e w' => ∃ v', e = .returned v' ∧ Fresh w.heap.size w' v' (l0 ++ l1) ∧ Below w.heap.size w w' := by
  have hadd : ∀ i, (⟨g, 0, none⟩ : Addr).add i = ⟨g, i, none⟩ := by intro i; unfold Addr.add; split <;> simp_all
  have := Go.Proofs.Tryd.bytes_Join_many g 0 2 2 [v0, v1] [u8s l0, u8s l1] (.slice none 0 0) [] w rfl (Nat.le_refl _)
    ⟨rfl, fun i v hi => (by
      match i, hi with
      | 0, hi => simp at hi; subst hi; rw [hadd]; exact hc0
      | 1, hi => simp at hi; subst hi; rw [hadd]; exact hc1), fun i v l hi hl => (by
      match i, hi, hl with
      | 0, hi, hl => simp at hi hl; subst hi hl; exact h0.2
      | 1, hi, hl => simp at hi hl; subst hi hl; exact h1.2)⟩ (Nat.le_refl _) (Holds.nil w).2 (by decide) (by simp [Lib.lens, u8s_length]; omega)
  refine this.mono ?_
  rintro e w' ⟨v', he, hf, hb⟩
  have hj : Lib.join [u8s l0, u8s l1] [] = u8s (l0 ++ l1) := by simp [Lib.join, u8s]
  rw [hj] at hf
  exact ⟨v', he, ⟨fun b hb => by
    rcases List.mem_append.1 hb with h | h
    · exact h0.1 b h
    · exact h1.1 b h, hf⟩, hb⟩
theorem join3 (w : World) (g : Nat) (v0 v1 v2 : Value) (l0 l1 l2 : List Nat) (h0 : Holds w v0 l0) (h1 : Holds w v1 l1) (h2 : Holds w v2 l2) (hc0 : w.cell? ⟨g, 0, none⟩ = some v0) (hc1 : w.cell? ⟨g, 1, none⟩ = some v1) (hc2 : w.cell? ⟨g, 2, none⟩ = some v2) (hlen : l0.length + l1.length + l2.length ≤ 140737488355328) :
    Calls Tryd.prog 68 #[.slice (some ⟨g, 0, none⟩) 3 3, .slice none 0 0] w fun e w' => ∃ v', e = .returned v' ∧ Fresh w.heap.size w' v' (l0 ++ l1 ++ l2) ∧ Below w.heap.size w w' := by
  have hadd : ∀ i, (⟨g, 0, none⟩ : Addr).add i = ⟨g, i, none⟩ := by intro i; unfold Addr.add; split <;> simp_all
  have := Go.Proofs.Tryd.bytes_Join_many g 0 3 3 [v0, v1, v2] [u8s l0, u8s l1, u8s l2] (.slice none 0 0) [] w rfl (by decide)
    ⟨rfl, fun i v hi => (by
      match i, hi with
      | 0, hi => simp at hi; subst hi; rw [hadd]; exact hc0
      | 1, hi => simp at hi; subst hi; rw [hadd]; exact hc1
      | 2, hi => simp at hi; subst hi; rw [hadd]; exact hc2), fun i v l hi hl => (by
      match i, hi, hl with
      | 0, hi, hl => simp at hi hl; subst hi hl; exact h0.2
      | 1, hi, hl => simp at hi hl; subst hi hl; exact h1.2
      | 2, hi, hl => simp at hi hl; subst hi hl; exact h2.2)⟩ (Nat.le_refl _) (Holds.nil w).2 (by decide) (by simp [Lib.lens, u8s_length]; omega)
  refine this.mono ?_
  rintro e w' ⟨v', he, hf, hb⟩
  have hj : Lib.join [u8s l0, u8s l1, u8s l2] [] = u8s (l0 ++ l1 ++ l2) := by simp [Lib.join, u8s]
  rw [hj] at hf
  exact ⟨v', he, ⟨fun b hb => by
    rcases List.mem_append.1 hb with h | h
    · rcases List.mem_append.1 h with h | h
      · exact h0.1 b h
      · exact h1.1 b h
    · exact h2.1 b h, hf⟩, hb⟩
end Go.Proofs.YtpbjjmenkoigjaaDoor
end

section
namespace Go.Proofs.YtpbjjmenkoigjaaDoor
open Go.RowKit
def zeros8 : Array Value := Array.replicate 8 (.int .u8 0)
theorem zero_eight (w : World) : (zeroValue 105).run Tryd.prog w = .ok (.agg zeros8) w := by kernel_rfl
theorem BB.zeros8 (w : World) (t : Nat) : BB (w.alloc (.cells zeros8 t)) w.heap.size (List.replicate 8 0) := by
  intro j x hx
  have hb := heap_alloc_new w (.cells Go.Proofs.YtpbjjmenkoigjaaDoor.zeros8 t)
  have hj : j < 8 := by
    have := (List.getElem?_eq_some_iff.1 hx).1
    simpa using this
  have hx0 : x = 0 := by
    rw [List.getElem?_replicate, if_pos hj] at hx
    injection hx with hx
    exact hx.symm
  subst hx0
  refine ⟨?_, ?_⟩
  · rw [cell_of_row _ _ _ _ _ _ hb]
    unfold Go.Proofs.YtpbjjmenkoigjaaDoor.zeros8
    rw [Array.getElem?_replicate, if_pos hj]
    rfl
  · unfold World.frozen?
    rw [hb]
    simp
/-- Put's loop: the first k bytes of the box. -/
def Box8 (w : World) (g n k : Nat) : Prop := ∃ L : List Nat, L.length = 8 ∧ (∀ b ∈ L, b < 256) ∧ BB w g L ∧ L.take k = leN n k
theorem Box8.at_ {w : World} {g n k : Nat} (h : Box8 w g n k) (hk : k < 8) : (∃ v, w.cell? ⟨g, k, none⟩ = some v) ∧ w.frozen? ⟨g, k, none⟩ = false := by
  obtain ⟨L, hl, _, hB, _⟩ := h
  have := hB.at_ k (by omega)
  exact ⟨⟨_, this.1⟩, this.2⟩
theorem Box8.set_ {w : World} {g n k : Nat} (h : Box8 w g n k) (hk : k < 8) {v : Int} (hv : v = ((n / 256 ^ k % 256 : Nat) : Int)) : Box8 (w.setCell ⟨g, k, none⟩ (.int .u8 v)) g n (k + 1) := by
  obtain ⟨L, hl, hb, hB, ht⟩ := h
  subst hv
  refine ⟨L.set k (n / 256 ^ k % 256), by simpa using hl, fun b hb' => ?_, hB.set_ _ _, ?_⟩
  · rcases List.mem_or_eq_of_mem_set hb' with h | rfl
    · exact hb b h
    · exact Nat.mod_lt _ (by decide)
  · rw [leN_succ, ← ht, List.take_add_one, List.getElem?_set_self (by omega), List.take_set_of_le (Nat.le_refl _)]
    rfl
theorem Box8.start (w : World) (n t : Nat) : Box8 (w.alloc (.cells zeros8 t)) w.heap.size n 0 :=
  ⟨List.replicate 8 0, by simp, fun b hb => by rw [List.mem_replicate] at hb; omega, BB.zeros8 w t, rfl⟩
theorem Box8.holds {w : World} {g n : Nat} (h : Box8 w g n 8) (k cap : Nat) (hk : k ≤ 8) : Holds w (.slice (some ⟨g, 0, none⟩) k cap) (leN n k) := by
  obtain ⟨L, hl, hb, hB, ht⟩ := h
  have hL : L = leN n 8 := by rw [← ht, List.take_of_length_le (by omega)]
  have := hB.holds hb k cap (by omega)
  rw [hL] at this
  have e : (leN n 8).take k = leN n k := by
    unfold leN
    rw [← List.map_take, List.take_range, Nat.min_eq_left hk]
  rw [e] at this
  exact this
theorem new_cell (w : World) (cs : Array Value) (t i : Nat) (v : Value) (h : cs[i]? = some v) : (w.alloc (.cells cs t)).cell? ⟨w.heap.size, i, none⟩ = some v := by
  rw [cell_of_row _ _ _ _ _ _ (heap_alloc_new w _)]; exact h
theorem Fresh.mono {B B' : Nat} {w : World} {v : Value} {l : List Nat} (h : Fresh B w v l) (hB : B' ≤ B) : Fresh B' w v l := by
  obtain ⟨h1, g, cap, zs, hv, hg, hr⟩ := h
  exact ⟨h1, g, cap, zs, hv, Nat.le_trans hB hg, hr⟩
theorem shr_byte (n k : Nat) : (n : Int) / 2 ^ (8 * k) % 256 = ((n / 256 ^ k % 256 : Nat) : Int) := by
  have e : (2 : Int) ^ (8 * k) = ((256 ^ k : Nat) : Int) := by
    rw [show (256 : Nat) = 2 ^ 8 from rfl, ← Nat.pow_mul, Int.natCast_pow]; rfl
  rw [e]; omega
theorem shr_none (n k : Nat) : ((n : Int) / 2 ^ (8 * k) != 0) = !decide (n / 256 ^ k = 0) := by
  have e : (2 : Int) ^ (8 * k) = ((256 ^ k : Nat) : Int) := by
    rw [show (256 : Nat) = 2 ^ 8 from rfl, ← Nat.pow_mul, Int.natCast_pow]; rfl
  rw [e]
  by_cases h : n / 256 ^ k = 0
  · rw [decide_eq_true h]
    have : (n : Int) / ((256 ^ k : Nat) : Int) = 0 := by rw [← Int.natCast_ediv, h]; rfl
    rw [this]; rfl
  · rw [decide_eq_false h]
    have : (n : Int) / ((256 ^ k : Nat) : Int) ≠ 0 := by rw [← Int.natCast_ediv]; omega
    simpa using this
set_option maxHeartbeats 1000000 in
theorem put_ok (p : Option Addr) (cap : Nat) (l : List Nat) (n size : Nat) (w : World) (hb : Holds w (.slice p l.length cap) l) (_hn : n < 18446744073709551616) (hs : 1 ≤ size) (hs8 : size ≤ 8) (hfit : size = 8 ∨ n / 256 ^ size = 0) (hlen : l.length + 8 ≤ 140737488355328) :
    Calls Tryd.prog 61 #[.slice p l.length cap, .int .u64 n, .int .i64 size] w fun e w' => ∃ v', e = .returned (.tuple #[v', .int .i64 0]) ∧ Fresh w.heap.size w' v' (l ++ leN n size) ∧ Below w.heap.size w w' := by
  have HB := Lib.hid hb
  clear hb
  have main : size = 8 ∨ (size < 8 ∧ ((n : Int) / 2 ^ (8 * size) != 0) = false) := by
    rcases hfit with h | h
    · exact .inl h
    · by_cases h8 : size = 8
      · exact .inl h8
      · exact .inr ⟨by omega, by rw [shr_none, decide_eq_true h]; rfl⟩
  clear hfit
  rcases main with rfl | ⟨hlt8, hsh⟩
  all_goals
    have hz := zero_eight
    go_enter Tryd.func61, Tryd.ntmps61
    go_wp2_with fail
    clear hz
    go_loopw [27] (fun i wr => ∃ k : Nat, k ≤ 8 ∧ i = .int .i64 k ∧ Box8 wr w.heap.size n k ∧ Below w.heap.size w wr) (fun i _ => 8 - (intOf i).toNat)
    case atStart => exact ⟨0, by omega, rfl, Box8.start w n _, (Below.refl _ _).alloc (Nat.le_refl _) _⟩
    case round =>
      obtain ⟨k, hk, rfl, hB, hb1⟩ := hrel
      by_cases hlt : k < 8
      · obtain ⟨⟨v, hv⟩, hf⟩ := hB.at_ hlt
        have HS := Lib.hid (shr_byte n k)
        go_wp2_with fail
        go_roundw
        case rel => exact ⟨k + 1, by omega, by go_num, hB.set_ hlt HS.out, hb1.setCell (Nat.le_refl _) _⟩
        case measure => simp [intOf]; omega
      · obtain rfl : k = 8 := by omega
        go_wp2_with fail
        refine (join2 _ _ _ _ _ _ ((HB.out.later hb1).later ((Below.refl _ _).alloc (Nat.le_refl _) _)) ((hB.holds _ 8 (by omega)).later ((Below.refl _ _).alloc (Nat.le_refl _) _)) (new_cell _ _ _ 0 _ rfl) (new_cell _ _ _ 1 _ rfl) (by rw [leN_length]; omega)).mono ?_
        rintro e w2 ⟨v', rfl, hF, hb2⟩
        go_wp2_with fail
        go_ret2
        exact ⟨v', rfl, hF.mono (by have := hb1.size; simp; omega), (hb1.alloc hb1.size _).trans (hb2.mono (by have := hb1.size; simp; omega))⟩
end Go.Proofs.YtpbjjmenkoigjaaDoor
end

section
namespace Go.Proofs.YtpbjjmenkoigjaaDoor
open Go.RowKit
theorem put_out (v : Value) (n size : Int) (w : World) (hs : size < 1 ∨ 8 < size) :
    Calls Tryd.prog 61 #[v, .int .u64 n, .int .i64 size] w fun e w' => e = .returned (.tuple #[.slice none 0 0, .int .i64 1]) ∧ w = w' := by
  rcases hs with h | h
  all_goals
    go_enter Tryd.func61, Tryd.ntmps61
    go_wp2_with fail
    go_ret2
    exact ⟨rfl, rfl⟩
theorem put_big (v : Value) (n size : Nat) (w : World) (hs : 1 ≤ size) (hs8 : size < 8) (hbig : n / 256 ^ size ≠ 0) :
    Calls Tryd.prog 61 #[v, .int .u64 n, .int .i64 size] w fun e w' => e = .returned (.tuple #[.slice none 0 0, .int .i64 1]) ∧ w = w' := by
  have hsh : ((n : Int) / 2 ^ (8 * size) != 0) = true := by rw [shr_none, decide_eq_false hbig]; rfl
  clear hbig
  go_enter Tryd.func61, Tryd.ntmps61
  go_wp2_with fail
  go_ret2
  exact ⟨rfl, rfl⟩
end Go.Proofs.YtpbjjmenkoigjaaDoor
end

section
namespace Go.Proofs.YtpbjjmenkoigjaaDoor
open Go.RowKit
theorem info_u8 : (Tryd.prog.info? 5).map (fun i => (i.zero, i.size, i.bytes)) = some (some (.int .u8 0), 1, 1) := by kernel_rfl
def cells8 (l : List Nat) : List Value := l.map fun (b : Nat) => Value.int .u8 (b : Int)
theorem cells8_length (l : List Nat) : (cells8 l).length = l.length := by simp [cells8]
theorem cells8_get (l : List Nat) (j : Nat) (v : Value) (h : (cells8 l)[j]? = some v) : ∃ b, l[j]? = some b ∧ v = .int .u8 (b : Int) := by
  unfold cells8 at h
  rw [List.getElem?_map] at h
  cases hz : l[j]? with
  | none => rw [hz] at h; cases h
  | some z => rw [hz] at h; simp only [Option.map_some, Option.some.injEq] at h; exact ⟨z, rfl, h.symm⟩
theorem cells8_one (l : List Nat) : ∀ v ∈ cells8 l, v.oneCell' = true := by
  intro v hv
  unfold cells8 at hv
  rw [List.mem_map] at hv
  obtain ⟨b, _, rfl⟩ := hv
  rfl
/-- A slice that owns the bytes l. -/
def OwnB (B : Nat) (w : World) (v : Value) (l : List Nat) : Prop := (∀ b ∈ l, b < 256) ∧ w.ownsRow B 5 1 v l.length (cells8 l)
theorem Holds.cells {w : World} {p : Option Addr} {n cap : Nat} {l : List Nat} (h : Holds w (.slice p n cap) l) : n = l.length ∧ (p = none → l = []) ∧ ∀ ad, p = some ad → ∀ j v, (cells8 l)[j]? = some v → w.cell? (ad.add j) = some v := by
  obtain ⟨h1, q, c, hv, hn, hc⟩ := h
  injection hv with e1 e2 e3
  subst e1
  rw [u8s_length] at e2
  refine ⟨e2, fun hp => ?_, fun ad had j v hj => ?_⟩
  · have := hn hp
    unfold u8s at this
    exact List.map_eq_nil_iff.1 this
  · obtain ⟨b, hb, rfl⟩ := cells8_get l j v hj
    have hlt := h1 b (List.mem_of_getElem? hb)
    have := hc ad had j (UInt8.ofNat b) (by unfold u8s; rw [List.getElem?_map, hb]; rfl)
    rw [this, UInt8.toNat_ofNat', Nat.mod_eq_of_lt hlt]
theorem OwnB.holds {B : Nat} {w : World} {v : Value} {l : List Nat} (h : OwnB B w v l) : Holds w v l := by
  obtain ⟨h1, h2⟩ := h
  refine ⟨h1, ?_⟩
  rcases h2.2 with ⟨rfl, hn⟩ | ⟨g, cap, cur, rfl, hr⟩
  · have : l = [] := List.eq_nil_of_length_eq_zero hn
    subst this
    exact (Holds.nil w).2
  · refine ⟨some ⟨g, 0, none⟩, cap, by rw [u8s_length], fun e => (by cases e), fun a ha i x hx => ?_⟩
    injection ha with ha
    subst ha
    unfold u8s at hx
    rw [List.getElem?_map] at hx
    cases hz' : l[i]? with
    | none => rw [hz'] at hx; cases hx
    | some z =>
      rw [hz'] at hx
      simp only [Option.map_some, Option.some.injEq] at hx
      have hm := h1 z (List.mem_of_getElem? hz')
      subst hx
      rw [h2.cells (g := g) rfl i (.int .u8 (z : Int)) (by unfold cells8; rw [List.getElem?_map, hz']; rfl), UInt8.toNat_ofNat', Nat.mod_eq_of_lt hm]
theorem OwnB.of_block {B : Nat} {w : World} {g : Nat} {l : List Nat} (h1 : ∀ b ∈ l, b < 256) (hB : B ≤ g) (hg : w.heap[g]? = some (.cells (cells8 l).toArray 5 (0, 0))) (hm : l.length ≤ maxLen) : OwnB B w (.slice (some ⟨g, 0, none⟩) l.length l.length) l :=
  ⟨h1, by rw [cells8_length, Nat.mul_one], .inr ⟨g, l.length, (cells8 l).toArray, rfl, hB, hg, Nat.le_refl _, hm, by simp [cells8_length], by rw [Nat.mul_one]; exact List.take_of_length_le (by simp [cells8_length])⟩⟩
set_option maxRecDepth 100000 in
set_option maxHeartbeats 1000000 in
theorem bytes_any (p : Option Addr) (cap : Nat) (l : List Nat) (w : World) (hb : Holds w (.slice p l.length cap) l) (hlen : l.length ≤ 140737488355328) :
    Calls Tryd.prog 84 #[.slice p l.length cap] w fun e w' => ∃ v', e = .returned v' ∧ OwnB w.heap.size w' v' l ∧ Below w.heap.size w w' := by
  obtain ⟨i0, hi, hz0, hz1, hz2⟩ := info_parts info_u8
  obtain ⟨_, hpn, hcl⟩ := hb.cells
  have h8 := hb.1
  have HP := Lib.hid hpn
  have HC := Lib.hid hcl
  have H8 := Lib.hid h8
  have HB := Lib.hid hb
  clear hb hpn hcl h8
  have hmx : l.length ≤ maxLen := by unfold maxLen; omega
  have hby : i0.bytes * l.length ≤ 281474976710656 := by rw [hz2]; omega
  go_enter Tryd.func84, Tryd.ntmps84
  go_wp2_with (with_reducible refine wpList_make_full _ rfl _ _ 97 rfl w.heap.size 5 i0 (.int .u8 0) 1 Tryd.underlying97 hi hz0 hz1 .i64 .i64 _ _ l.length rfl rfl rfl rfl hby hmx (Nat.le_refl _) ?_)
  intro w1 hown hg
  have hbel : Below w.heap.size w w1 := (Below.refl _ _).grown hg (Nat.le_refl _) (fun k hk => by cases hk)
  obtain ⟨cur, hcur, hsz⟩ : ∃ cur : List Value, w1.heap[w.heap.size]? = some (.cells cur.toArray 5 (0, 0)) ∧ cur.length = l.length := by
    rcases hown.2 with ⟨e, _⟩ | ⟨g, c, cur, e, _, hh, _, _, hs, _⟩
    · cases e
    · injection e with e1 e2 e3
      injection e1 with e1
      injection e1 with e1
      subst e1 e3
      exact ⟨cur.toList, by rw [Array.toArray_toList]; exact hh, by simpa using hs⟩
  clear hown hg
  have HSZ := Lib.hid hsz
  have HCUR := Lib.hid hcur
  clear hsz hcur
  have hsi : (Tryd.prog.info? 5).map (·.size) = some 1 := by rw [hi]; simp [hz1]
  have HSI := Lib.hid hsi
  clear hsi
  have H1 := Lib.hid (show (cells8 l).length = Nat.min l.length l.length from by rw [cells8_length]; simp)
  have H2 := Lib.hid (show 0 < (cells8 l).length → (some (⟨w.heap.size, 0, none⟩ : Addr)) = some ⟨w.heap.size, 0, none⟩ ∧ ∃ ad, p = some ad ∧ ∀ (j : Nat) v, (cells8 l)[j]? = some v → w1.cell? (ad.add j) = some v from by
    intro hpos
    refine ⟨rfl, ?_⟩
    cases hp : p with
    | none => rw [HP.out hp] at hpos; simp [cells8] at hpos
    | some ad => exact ⟨ad, rfl, fun j v hj => cell_later hbel (HC.out ad hp j v hj)⟩)
  have H3 := Lib.hid (show 0 + (cells8 l).length ≤ cur.length from by rw [cells8_length, HSZ.out]; omega)
  go_wp2_with (with_reducible refine wpList_copy_splice rfl _ _ 97 97 rfl 5 Tryd.underlying97 HSI.out (some ⟨w.heap.size, 0, none⟩) p l.length l.length l.length cap rfl rfl w.heap.size 0 cur 5 HCUR.out (cells8 l) H1.out H2.out H3.out (cells8_one l) w.heap.size w hbel (Nat.le_refl _) ?_)
  intro w2 hrow hb2
  have hspl : splice cur 0 (cells8 l) = cells8 l := by
    unfold splice
    rw [List.take_zero, List.nil_append, cells8_length, Nat.zero_add, List.drop_of_length_le (by rw [HSZ.out]; exact Nat.le_refl _), List.append_nil]
  have hr := hrow.out
  rw [hspl] at hr
  have HR := Lib.hid hr
  clear hr hrow hspl
  go_wp2_with fail
  go_ret
  exact ⟨_, rfl, OwnB.of_block H8.out (Nat.le_refl _) HR.out hmx, hb2⟩
end Go.Proofs.YtpbjjmenkoigjaaDoor
end

section
namespace Go.Proofs.YtpbjjmenkoigjaaDoor
open Go.RowKit
theorem OwnB.snoc {B : Nat} {w : World} {v : Value} {l : List Nat} {n x : Nat} (hx : x < 256) (hl : ∀ b ∈ l, b < 256) (hn : n = l.length) (h : w.ownsRow B 5 1 v (n + 1) (cells8 l ++ [.int .u8 (x : Int)])) : OwnB B w v (l ++ [x]) := by
  subst hn
  refine ⟨fun b hb => ?_, ?_⟩
  · rcases List.mem_append.1 hb with h | h
    · exact hl b h
    · simp at h; omega
  · rw [List.length_append, List.length_singleton]
    have e : cells8 (l ++ [x]) = cells8 l ++ [.int .u8 (x : Int)] := by simp [cells8]
    rw [e]
    exact h
/-- One more byte behind a slice of one's own. -/
theorem grown_below {B : Nat} {w0 w w' : World} {e : TypeId} {v : Value} {n : Nat} {xs : List Value} (hb : Below B w0 w) (hB : B ≤ w.heap.size) (hown : w.ownsRow B e 1 v n xs) (hg : w.grownBy w' v.ownBlock) : Below B w0 w' :=
  hb.grown hg hB (fun k hk => (hown.lt k hk).1)
/-- 'append(out, x)' of one byte, out one's own. -/
theorem app1 {wr w0 : World} {B : Nat} {ops : Array Oper} {rest : List Oper} {o : Oper} {a : Act} {Q : Exit → Act → World → Prop} (hgd : o.guard = none) (s x : Operand)
    (ho : o.op = .call { callee := .builtin .append, args := #[s, x], argTypes := #[97, 97] }) (v : Value) (L : List Nat) (hs : a.eval s = v) (hO : OwnB B wr v L)
    (b : Int) (bN : Nat) (hbN : b = (bN : Int)) (hb : bN < 256) (hx : a.eval x = .slice (some ⟨wr.heap.size, 0, none⟩) 1 1) (hlen : L.length + 1 ≤ 140737488355328) (hb0 : Below B w0 wr) (hB : B ≤ wr.heap.size)
    (h : ∀ v' w', OwnB B w' v' (L ++ [bN]) → Below B w0 w' → wpList Tryd.prog ops Q rest (a.put o.dst v') w') : wpList Tryd.prog ops Q (o :: rest) a (wr.alloc (.cells #[.int .u8 b] 5)) := by
  obtain ⟨i0, hi, hz0, hz1, hz2⟩ := info_parts info_u8
  refine wpList_append_own _ hgd s x 97 ho B 5 i0 (.int .u8 0) 1 1 Tryd.underlying97 hi hz0 hz1 hz2 rfl (by decide) v L.length (cells8 L) hs (hO.2.alloc _) ⟨wr.heap.size, 0, none⟩ 1 1 [.int .u8 b] hx rfl (cell_one_new _ _ _)
    (fun u hu => by simp at hu; subst hu; rfl) (by unfold maxLen; omega) (by omega) (by simp; omega) ?_
  intro v' w' hown hg _
  subst hbN
  exact h v' w' (OwnB.snoc hb hO.1 rfl hown) (grown_below (hb0.alloc hB _) (by simp; omega) (hO.2.alloc _) hg)
def PutPost (B : Nat) (l : List Nat) (n size : Nat) (e : Ending) (w' : World) : Prop :=
  (n / 256 ^ size = 0 ∧ ∃ v', e = .returned (.tuple #[v', .int .i64 0]) ∧ OwnB B w' v' (l ++ leN n size)) ∨ (n / 256 ^ size ≠ 0 ∧ e = .returned (.tuple #[.slice none 0 0, .int .i64 1]))
set_option maxRecDepth 100000 in
set_option maxHeartbeats 1000000 in
theorem refput_loop (p : Option Addr) (cap : Nat) (l : List Nat) (n size : Nat) (w : World) (hb : Holds w (.slice p l.length cap) l) (hn : n < 18446744073709551616) (hs : 1 ≤ size) (hs8 : size ≤ 8) (hlen : l.length + 8 ≤ 140737488355328) :
    Calls Tryd.prog 77 #[.slice p l.length cap, .int .u64 n, .int .i64 size] w fun e w' => Below w.heap.size w w' ∧ PutPost w.heap.size l n size e w' := by
  obtain ⟨i0, hi, hz0, hz1, hz2⟩ := info_parts info_u8
  have hc := bytes_any p cap l w hb (by omega)
  have HC := Lib.hid hc
  clear hc hb
  have hmx : l.length + 8 ≤ maxLen := by unfold maxLen; omega
  go_enter Tryd.func77, Tryd.ntmps77
  go_wp2_with fail
  refine HC.out.mono ?_
  rintro e w1 ⟨v1, rfl, hO, hb1⟩
  go_wp2_with fail
  go_loopw [1, 8, 9] (fun m v i wr => ∃ k : Nat, k ≤ size ∧ i = .int .i64 k ∧ m = .int .u64 ((n / 256 ^ k : Nat) : Int) ∧ OwnB w.heap.size wr v (l ++ leN n k) ∧ Below w.heap.size w wr) (fun _ _ i _ => size - (intOf i).toNat)
  case atStart => exact ⟨0, by omega, rfl, by simp, by simpa [leN] using hO, hb1⟩
  case round =>
    clear hO hb1
    obtain ⟨k, hk, rfl, rfl, hO, hb1⟩ := hrel
    have hln : (l ++ leN n k).length = l.length + k := by rw [List.length_append, leN_length]
    have hq : n / 256 ^ k < 18446744073709551616 := Nat.lt_of_le_of_lt (Nat.div_le_self _ _) hn
    by_cases hlt : k < size
    · have HS := Lib.hid (show leN n (k + 1) = leN n k ++ [n / 256 ^ k % 256] from leN_succ n k)
      have HD := Lib.hid (show n / 256 ^ (k + 1) = n / 256 ^ k / 256 from by rw [Nat.pow_succ, Nat.div_div_eq_div_mul])
      have HLN := Lib.hid hln
      clear hln
      obtain ⟨q, hqq⟩ : ∃ q, q = n / 256 ^ k := ⟨_, rfl⟩
      rw [← hqq] at hq HS HD ⊢
      clear hqq
      go_wp2_with (with_reducible refine app1 rfl _ _ rfl _ _ rfl hO _ (q % 256) ?hc ?hd rfl ?he hb1 hb1.size ?_)
      case hd => omega
      case he => rw [HLN.out]; omega
      case hc => omega
      intro v2 w2 hO2 hb2
      go_wp2_with fail
      go_roundw
      case rel => exact ⟨k + 1, by omega, by go_num, by rw [HD.out]; go_num, by rw [HS.out]; first | exact hO2 | (rw [← List.append_assoc]; exact hO2), hb2⟩
      case measure => simp [intOf]; omega
    · obtain rfl : k = size := by omega
      obtain ⟨q, hqq⟩ : ∃ q, q = n / 256 ^ k := ⟨_, rfl⟩
      rw [← hqq] at hq ⊢
      by_cases hz : q = 0
      · have hz' : ¬ (0 : Int) < (q : Int) := by omega
        have HZ := Lib.hid (hqq.symm.trans hz)
        clear hz hqq
        go_wp2_with fail
        go_ret2
        exact ⟨hb1, .inl ⟨HZ.out, _, rfl, hO⟩⟩
      · have hz' : (0 : Int) < (q : Int) := by omega
        have HZ := Lib.hid (show n / 256 ^ k ≠ 0 from by rw [← hqq]; exact hz)
        clear hz hqq
        go_wp2_with fail
        go_ret2
        exact ⟨hb1, .inr ⟨HZ.out, rfl⟩⟩
theorem refput_out (v : Value) (n size : Int) (w : World) (hs : size < 1 ∨ 8 < size) :
    Calls Tryd.prog 77 #[v, .int .u64 n, .int .i64 size] w fun e w' => e = .returned (.tuple #[.slice none 0 0, .int .i64 1]) ∧ w = w' := by
  rcases hs with h | h
  all_goals
    go_enter Tryd.func77, Tryd.ntmps77
    go_wp2_with fail
    go_ret2
    exact ⟨rfl, rfl⟩
end Go.Proofs.YtpbjjmenkoigjaaDoor
end

section
namespace Go.Proofs.YtpbjjmenkoigjaaDoor
open Go.RowKit
def Mine (B : Nat) (w : World) (v : Value) (L : List Nat) : Prop := (∀ b ∈ L, b < 256) ∧ ∃ g cap, v = .slice (some ⟨g, 0, none⟩) L.length cap ∧ B ≤ g ∧ g < w.heap.size ∧ L.length ≤ cap ∧ cap ≤ maxLen ∧
  (∀ j u, (cells8 L)[j]? = some u → w.cell? ⟨g, j, none⟩ = some u) ∧ ∀ j, j < cap → (w.cell? ⟨g, j, none⟩).isSome = true ∧ w.frozen? ⟨g, j, none⟩ = false
theorem lit_add (g j : Nat) : (⟨g, 0, none⟩ : Addr).add j = ⟨g, j, none⟩ := by unfold Addr.add; split <;> simp_all
theorem Mine.holds {B : Nat} {w : World} {v : Value} {L : List Nat} (h : Mine B w v L) : Holds w v L := by
  obtain ⟨h1, g, cap, rfl, _, _, _, _, hc, _⟩ := h
  refine ⟨h1, some ⟨g, 0, none⟩, cap, by rw [u8s_length], fun e => (by cases e), fun a ha i x hx => ?_⟩
  injection ha with ha
  subst ha
  rw [lit_add]
  refine hc i _ ?_
  unfold u8s at hx
  rw [List.getElem?_map] at hx
  cases hz : L[i]? with
  | none => rw [hz] at hx; cases hx
  | some b =>
    rw [hz] at hx
    simp only [Option.map_some, Option.some.injEq] at hx
    subst hx
    have hb := h1 b (List.mem_of_getElem? hz)
    unfold cells8
    rw [List.getElem?_map, hz, Option.map_some, UInt8.toNat_ofNat', Nat.mod_eq_of_lt (by omega)]
theorem Mine.mono {B B' : Nat} {w : World} {v : Value} {L : List Nat} (h : Mine B w v L) (hB : B' ≤ B) : Mine B' w v L := by
  obtain ⟨h1, g, cap, hv, hg, r⟩ := h
  exact ⟨h1, g, cap, hv, Nat.le_trans hB hg, r⟩
theorem Mine.later {B : Nat} {w w' : World} {v : Value} {L : List Nat} (h : Mine B w v L) (hb : Below w.heap.size w w') : Mine B w' v L := by
  obtain ⟨h1, g, cap, hv, hg, hlt, h2, h3, h4, h5⟩ := h
  exact ⟨h1, g, cap, hv, hg, Nat.lt_of_lt_of_le hlt hb.size, h2, h3, fun j u hu => (hb.cell (p := ⟨g, j, none⟩) hlt).trans (h4 j u hu), fun j hj => by rw [hb.cell (p := ⟨g, j, none⟩) hlt, hb.frozen (p := ⟨g, j, none⟩) hlt]; exact h5 j hj⟩
theorem zero_list (m : Nat) : (Builtin.zeroCells #[Value.int .u8 0] m).toList = cells8 (List.replicate m 0) := by
  have e : cells8 (List.replicate m 0) = List.replicate m (Value.int .u8 0) := by simp [cells8]
  rw [e, List.eq_replicate_iff]
  refine ⟨by simp [Builtin.zeroCells], fun b hb => ?_⟩
  simp only [Builtin.zeroCells, Array.toList_map, List.mem_map] at hb
  obtain ⟨i, _, rfl⟩ := hb
  show #[Value.int .u8 0][i % 1]! = _
  rw [Nat.mod_one]
  rfl
theorem run_zeros_room {P : Program} (w : World) (t tn ty e : TypeId) (i : TypeInfo) (kn : IntKind) (ht : P.underlying t = some (.slice e)) (htn : P.underlying tn = some (.int kn)) (hi : P.info? e = some i) (hz : i.zero = some (.int .u8 0)) (hsz : i.size = 1) (hby : i.bytes = 1)
    (g n cap m : Nat) (k : IntKind) (hm : m ≤ 140737488355328) (hroom : n + m ≤ cap) (hc : ∀ j, j < cap → (w.cell? ⟨g, j, none⟩).isSome = true ∧ w.frozen? ⟨g, j, none⟩ = false) :
    (Builtin.append_ #[t, tn] ty #[.slice (some ⟨g, 0, none⟩) n cap, .int k m]).run P w = .ok (.slice (some ⟨g, 0, none⟩) (n + m) cap) (w.setCells g n (cells8 (List.replicate m 0))) := by
  have hw : IntKind.i64.wrap (m : Int) = m := by rw [IntKind.wrap_i64]; omega
  have hneg : ¬ ((m : Int) < 0) := by omega
  have h48 : ¬ (281474976710656 < (m : Int)) := by omega
  have hst := run_storeCells_cells (P := P) g n (cells8 (List.replicate m 0)) 0 w (fun j hj => (hc (n + 0 + j) (by rw [cells8_length, List.length_replicate] at hj; omega)).1) (fun j hj => (hc (n + 0 + j) (by rw [cells8_length, List.length_replicate] at hj; omega)).2) (cells8_one _)
  simp only [Nat.add_zero] at hst
  by_cases h0 : m = 0
  · subst h0
    have hw0 : IntKind.i64.wrap 0 = 0 := by decide
    simp [Builtin.append_, run_underlying ht, run_underlying htn, sizeOf, typeInfo, hi, hby, asInt, asIntOf, hw0, show n ≤ cap from hroom, lit_add, storeCells, cells8, World.setCells]
  · rw [← zero_list] at hst ⊢
    simp [Builtin.append_, run_underlying ht, run_underlying htn, sizeOf, typeInfo, zeroValue, hi, hz, hsz, hby, asInt, asIntOf, hw, hneg, h48, h0, hroom, lit_add, hst, Value.cells]
theorem run_zeros_grow {P : Program} (w : World) (t tn ty e : TypeId) (i : TypeInfo) (kn : IntKind) (ht : P.underlying t = some (.slice e)) (htn : P.underlying tn = some (.int kn)) (hi : P.info? e = some i) (hz : i.zero = some (.int .u8 0)) (hsz : i.size = 1) (hby : i.bytes = 1)
    (g n cap m : Nat) (k : IntKind) (olds : List Value) (hlo : olds.length = n) (holds : ∀ j v, olds[j]? = some v → w.cell? ⟨g, j, none⟩ = some v) (hlen : n + m ≤ 140737488355328) (hgr : cap < n + m) :
    ∃ c r, n + m ≤ c ∧ c ≤ maxLen ∧ r = c - (n + m) ∧ (Builtin.append_ #[t, tn] ty #[.slice (some ⟨g, 0, none⟩) n cap, .int k m]).run P w = .ok (.slice (some ⟨w.heap.size, 0, none⟩) (n + m) c) (w.drew.alloc (.cells (olds ++ cells8 (List.replicate m 0) ++ cells8 (List.replicate r 0)).toArray e)) := by
  have hw : IntKind.i64.wrap (m : Int) = m := by rw [IntKind.wrap_i64]; omega
  have hneg : ¬ ((m : Int) < 0) := by omega
  have h48 : ¬ (281474976710656 < (m : Int)) := by omega
  have hfit := growslice_fits (bytes := 1) hgr (by omega)
  have hn : ¬ (n + m ≤ cap) := by omega
  have h63' : ¬ (9223372036854775807 < ((n : Int) + (m : Int))) := by omega
  have h48' : ¬ (281474976710656 < Builtin.nextslicecap (n + m) cap) := by omega
  have hfo := run_firstCells_some (P := P) w.drew 1 n ⟨g, 0, none⟩ n cap olds (by omega) (fun j v hj => by rw [lit_add]; simpa using holds j v hj)
  have hge := grownCap_ge w (n + m) cap e
  have hcm : grownCap w (n + m) cap e ≤ maxLen := grownCap_le_maxLen w (n + m) cap e (by unfold maxLen; omega)
  refine ⟨grownCap w (n + m) cap e, _, hge, hcm, rfl, ?_⟩
  by_cases h0 : m = 0
  · subst h0
    have hw0 : IntKind.i64.wrap 0 = 0 := by decide
    have hn' : ¬ n ≤ cap := hn
    simp only [Nat.add_zero] at h48' hfo
    have h63'' : ¬ (9223372036854775807 < (n : Int)) := by omega
    have hq : (Question.appendCap n cap e).forced = false := rfl
    simp [Builtin.append_, run_underlying ht, run_underlying htn, sizeOf, typeInfo, zeroValue, hi, hz, hsz, hby, asInt, asIntOf, hw0, hn', h63'', h48', hq, hfo, newRow, grownCap, Value.cells]
    apply congrArg (fun x => w.drew.alloc (.cells x e))
    apply Array.ext'
    simp [zero_list, cells8]
  · have hq : (Question.appendCap (n + m) cap e).forced = false := rfl
    simp [Builtin.append_, run_underlying ht, run_underlying htn, sizeOf, typeInfo, zeroValue, hi, hz, hsz, hby, asInt, asIntOf, hw, hneg, h48, h0, hn, h63', h48', hq, hfo, newRow, grownCap, Value.cells]
    apply congrArg (fun x => w.drew.alloc (.cells x e))
    apply Array.ext'
    simp [zero_list]
theorem below_cells (B b : Nat) (hb : B ≤ b) (a : World) : ∀ (vs : List Value) (o : Nat) (w : World), Below B a w → Below B a (w.setCells b o vs)
  | [], _, _, h => h
  | v :: r, o, _, h => below_cells B b hb a r (o + 1) _ (h.setCell (p := ⟨b, o, none⟩) hb v)
theorem size_cells (b : Nat) : ∀ (vs : List Value) (o : Nat) (w : World), (w.setCells b o vs).heap.size = w.heap.size
  | [], _, _ => rfl
  | v :: r, o, _ => by rw [World.setCells, size_cells b r]; simp
theorem cells8_append (L T : List Nat) : cells8 (L ++ T) = cells8 L ++ cells8 T := by simp [cells8]
/-- The arm with room. -/
theorem mine_room {B : Nat} {w : World} {g cap : Nat} {L T : List Nat} (h8 : ∀ b ∈ L, b < 256) (hT : ∀ b ∈ T, b < 256) (hg : B ≤ g) (hlt : g < w.heap.size) (hcap : cap ≤ maxLen) (hroom : L.length + T.length ≤ cap)
    (hc : ∀ j u, (cells8 L)[j]? = some u → w.cell? ⟨g, j, none⟩ = some u) (hs : ∀ j, j < cap → (w.cell? ⟨g, j, none⟩).isSome = true ∧ w.frozen? ⟨g, j, none⟩ = false) :
    Mine B (w.setCells g L.length (cells8 T)) (.slice (some ⟨g, 0, none⟩) (L.length + T.length) cap) (L ++ T) := by
  have hin := World.cell?_setCells_in g (cells8 T) L.length w (fun j hj => (hs (L.length + j) (by rw [cells8_length] at hj; omega)).1)
  refine ⟨fun b hb => ?_, g, cap, by rw [List.length_append], hg, by rw [size_cells]; exact hlt, by rw [List.length_append]; exact hroom, hcap, fun j u hu => ?_, fun j hj => ?_⟩
  · rcases List.mem_append.1 hb with h | h
    · exact h8 b h
    · exact hT b h
  · rw [cells8_append] at hu
    by_cases hj : j < L.length
    · rw [List.getElem?_append_left (by rw [cells8_length]; exact hj)] at hu
      rw [World.cell?_setCells_out g _ _ _ _ (fun _ _ => Or.inl hj)]
      exact hc j u hu
    · rw [List.getElem?_append_right (by rw [cells8_length]; omega), cells8_length] at hu
      obtain ⟨hjl, hv⟩ := List.getElem?_eq_some_iff.1 hu
      have h := hin (j - L.length) hjl
      rw [show L.length + (j - L.length) = j by omega] at h
      rw [h, hv]
  · refine ⟨?_, by rw [World.frozen?_setCells]; exact (hs j hj).2⟩
    by_cases h1 : j < L.length
    · rw [World.cell?_setCells_out g _ _ _ _ (fun _ _ => Or.inl h1)]; exact (hs j hj).1
    · by_cases h2 : j < L.length + T.length
      · have h := hin (j - L.length) (by rw [cells8_length]; omega)
        rw [show L.length + (j - L.length) = j by omega] at h
        rw [h]; rfl
      · rw [World.cell?_setCells_out g _ _ _ _ (fun _ _ => Or.inr (by rw [cells8_length]; show _ ≤ j; omega))]; exact (hs j hj).1
/-- A row of one's own. -/
theorem mine_row {B : Nat} {w : World} {g cap : Nat} {L : List Nat} {cur : Array Value} {e : TypeId} (h8 : ∀ b ∈ L, b < 256) (hg : B ≤ g) (hr : w.heap[g]? = some (.cells cur e (0, 0))) (hl : L.length ≤ cap) (hcap : cap ≤ maxLen) (hsz : cur.size = cap)
    (htk : cur.toList.take L.length = cells8 L) : Mine B w (.slice (some ⟨g, 0, none⟩) L.length cap) L := by
  refine ⟨h8, g, cap, rfl, hg, (Array.getElem?_eq_some_iff.1 hr).1, hl, hcap, fun j u hu => ?_, fun j hj => ⟨?_, ?_⟩⟩
  · rw [cell_of_row _ _ _ _ _ _ hr]
    rw [← htk] at hu
    have hjl : j < L.length := by
      have := (List.getElem?_eq_some_iff.1 hu).1
      rw [List.length_take] at this; omega
    rw [List.getElem?_take_of_lt hjl] at hu
    rw [← Array.getElem?_toList]; exact hu
  · rw [cell_of_row _ _ _ _ _ _ hr, Array.getElem?_eq_getElem (by omega)]; rfl
  · simp [World.frozen?, hr]
theorem Fresh.mine {B : Nat} {w : World} {v : Value} {L : List Nat} (h : Fresh B w v L) (hL : 0 < L.length) : Mine B w v L := by
  have hh := h.holds
  obtain ⟨h1, g, cap, zs, hv, hg, hcap, hm, hzl, hz, hbs, hc, hf⟩ := h
  rw [u8s_length] at hv hcap
  subst hv
  obtain ⟨_, _, hcl⟩ := hh.cells
  have hlt : g < w.heap.size := by
    have := hc 0 (by omega)
    rcases Nat.lt_or_ge g w.heap.size with h | h
    · exact h
    · exfalso
      have e : w.cell? ⟨g, 0, none⟩ = none := by
        simp [World.cell?, Array.getElem?_eq_none h]
      rw [e] at this; cases this
  exact ⟨h1, g, cap, rfl, hg, hlt, hcap, hm, fun j u hu => by have := hcl _ rfl j u hu; rwa [lit_add] at this, fun j hj => ⟨by rw [hc j hj]; rfl, hf j hj⟩⟩
/-- 'append(b, xs...)' of bytes, b one's own. -/
theorem appM {wr w0 : World} {B : Nat} {ops : Array Oper} {rest : List Oper} {o : Oper} {a : Act} {Q : Exit → Act → World → Prop} (hgd : o.guard = none) (s x : Operand)
    (ho : o.op = .call { callee := .builtin .append, args := #[s, x], argTypes := #[97, 97] }) (v : Value) (L : List Nat) (hs : a.eval s = v) (hO : Mine B wr v L)
    (ad : Addr) (m c : Nat) (T : List Nat) (hx : a.eval x = .slice (some ad) m c) (hT : Holds wr (.slice (some ad) m c) T) (hlen : L.length + T.length ≤ 140737488355328) (hb0 : Below B w0 wr) (hB : B ≤ wr.heap.size)
    (h : ∀ v' w', Mine B w' v' (L ++ T) → Below B w0 w' → wpList Tryd.prog ops Q rest (a.put o.dst v') w') : wpList Tryd.prog ops Q (o :: rest) a wr := by
  obtain ⟨i0, hi, hz0, hz1, hz2⟩ := info_parts info_u8
  obtain ⟨hm, hn, hcl⟩ := hT.cells
  subst hm
  have h8T := hT.1
  obtain ⟨h8, g, cap, rfl, hg, hlt, hl, hcap, hc, hsp⟩ := hO
  refine wpList_append_arg wr hgd s x 97 ho 5 i0 (.int .u8 0) 1 1 Tryd.underlying97 hi hz0 hz1 hz2 rfl (by decide) g 0 L.length cap (cells8 L) hs (by rw [cells8_length, Nat.mul_one]) (fun j u hu => by rw [Nat.zero_add]; exact hc j u hu)
    ad T.length c (cells8 T) hx (by rw [cells8_length, Nat.mul_one]) (hcl ad rfl) (cells8_one T) (fun hr j hj => ?_) (by unfold maxLen; omega) (by omega) (fun hr => ?_) (fun hr v' w' hown hgr => ?_)
  · rw [cells8_length] at hj
    rw [Nat.zero_add, Nat.mul_one]
    exact hsp (L.length + j) (by omega)
  · rw [Nat.zero_add, Nat.mul_one]
    exact h _ _ (mine_room h8 h8T hg hlt hcap hr hc hsp) (below_cells B g hg w0 _ _ wr hb0)
  · refine h v' w' ?_ (hb0.grown hgr hB (fun k hk => by cases hk))
    have h8' : ∀ b ∈ L ++ T, b < 256 := fun b hb => by
      rcases List.mem_append.1 hb with h | h
      · exact h8 b h
      · exact h8T b h
    rcases hown.2 with ⟨rfl, hn0⟩ | ⟨g', cap', cur, rfl, hg', hr', hl', hm', hsz', htk⟩
    · omega
    · rw [← List.length_append] at hl' htk ⊢
      rw [Nat.mul_one] at hsz' htk
      exact mine_row h8' (Nat.le_trans hB hg') hr' hl' hm' hsz' (by rw [htk, cells8_append])
/-- 'append(b, make([]byte, m)...)', b one's own. -/
theorem appZ {wr w0 : World} {B : Nat} {ops : Array Oper} {rest : List Oper} {o : Oper} {a : Act} {Q : Exit → Act → World → Prop} (hgd : o.guard = none) (s x : Operand)
    (ho : o.op = .call { callee := .builtin .append, args := #[s, x], argTypes := #[97, 3] }) (v : Value) (L : List Nat) (hs : a.eval s = v) (hO : Mine B wr v L)
    (k : IntKind) (m : Nat) (hx : a.eval x = .int k m) (hlen : L.length + m ≤ 140737488355328) (hb0 : Below B w0 wr) (hB : B ≤ wr.heap.size)
    (h : ∀ v' w', Mine B w' v' (L ++ List.replicate m 0) → Below B w0 w' → wpList Tryd.prog ops Q rest (a.put o.dst v') w') : wpList Tryd.prog ops Q (o :: rest) a wr := by
  obtain ⟨i0, hi, hz0, hz1, hz2⟩ := info_parts info_u8
  obtain ⟨h8, g, cap, rfl, hg, hlt, hl, hcap, hc, hsp⟩ := hO
  have h8T : ∀ b ∈ List.replicate m 0, b < 256 := fun b hb => by rw [(List.mem_replicate.1 hb).2]; decide
  by_cases hr : L.length + m ≤ cap
  · have hrun := run_zeros_room (P := Tryd.prog) wr 97 3 o.type 5 i0 .i64 Tryd.underlying97 Tryd.underlying3 hi hz0 hz1 hz2 g L.length cap m k (by omega) hr hsp
    refine Lib.wpList_append_run wr hgd s x _ _ ho _ _ hs hx _ _ hrun (h _ _ ?_ (below_cells B g hg w0 _ _ wr hb0))
    have := mine_room (T := List.replicate m 0) h8 h8T hg hlt hcap (by rw [List.length_replicate]; exact hr) hc hsp
    rwa [List.length_replicate] at this
  · obtain ⟨c, r, hc1, hc2, rfl, hrun⟩ := run_zeros_grow (P := Tryd.prog) wr 97 3 o.type 5 i0 .i64 Tryd.underlying97 Tryd.underlying3 hi hz0 hz1 hz2 g L.length cap m k (cells8 L) (cells8_length L) hc hlen (by omega)
    refine Lib.wpList_append_run wr hgd s x _ _ ho _ _ hs hx _ _ hrun (h _ _ ?_ (hb0.drew.alloc hB _))
    have h8' : ∀ b ∈ L ++ List.replicate m 0, b < 256 := fun b hb => by
      rcases List.mem_append.1 hb with h | h
      · exact h8 b h
      · exact h8T b h
    have hll : (L ++ List.replicate m 0).length = L.length + m := by rw [List.length_append, List.length_replicate]
    have := mine_row (B := B) (cap := c) (L := L ++ List.replicate m 0) h8' hB (heap_alloc_new wr.drew (.cells (cells8 L ++ cells8 (List.replicate m 0) ++ cells8 (List.replicate (c - (L.length + m)) 0)).toArray 5)) (by omega) hc2
      (by simp only [List.size_toArray, List.length_append, cells8_length, List.length_replicate]; omega)
      (by rw [← cells8_append]; exact List.take_left' (by rw [cells8_length]))
    rwa [hll] at this
end Go.Proofs.YtpbjjmenkoigjaaDoor
end

section
namespace Go.Proofs.YtpbjjmenkoigjaaDoor
open Go.RowKit
/-- The number of bytes, the lowest first. -/
def valN : List Nat → Nat
  | [] => 0
  | b :: l => b + 256 * valN l
theorem valN_snoc : ∀ (l : List Nat) (b : Nat), valN (l ++ [b]) = valN l + 256 ^ l.length * b
  | [], b => by simp [valN]
  | a :: l, b => by
    rw [List.cons_append, valN, valN_snoc l b, valN, List.length_cons, Nat.pow_succ, Nat.mul_add]
    have : 256 * (256 ^ l.length * b) = 256 ^ l.length * 256 * b := by ac_rfl
    omega
theorem valN_lt : ∀ (l : List Nat), (∀ b ∈ l, b < 256) → valN l < 256 ^ l.length
  | [], _ => by simp [valN]
  | a :: l, h => by
    have h1 := valN_lt l (fun b hb => h b (by simp [hb]))
    have h2 := h a (by simp)
    rw [valN, List.length_cons, Nat.pow_succ]
    omega
theorem valN_zeros (l : List Nat) (k : Nat) : valN (l ++ List.replicate k 0) = valN l := by
  induction k with
  | zero => simp
  | succ k ih => rw [List.replicate_succ', ← List.append_assoc, valN_snoc, ih]; simp
theorem valN_leN (n : Nat) : ∀ k, valN (leN n k) = n % 256 ^ k
  | 0 => by simp [leN, valN, Nat.mod_one]
  | k + 1 => by
    rw [leN_succ, valN_snoc, valN_leN n k, leN_length, Nat.pow_succ, Nat.mod_mul]
def zl8 : List Value := List.replicate 8 (.int .u8 0)
theorem zeros8_list : zeros8 = zl8.toArray := by unfold zeros8 zl8; rw [List.toArray_replicate]
theorem zl8_length : zl8.length = 8 := by simp [zl8]
/-- 'copy(x[:], b[at:at+size])' into a new box of eight. -/
theorem copy8 (w : World) (ad : Addr) (cap at_ size : Nat) (l : List Nat) (hb : Holds w (.slice (some ad) l.length cap) l) (hs8 : size ≤ 8) (hin : at_ + size ≤ l.length) :
    ∃ W2, (Builtin.copy_ #[97, 97] 3 #[.slice (some ⟨w.heap.size, 0, none⟩) 8 8, .slice (some (ad.add at_)) size (cap - at_)]).run Tryd.prog ((w.alloc (.cells zeros8 105)).drew) = .ok (.int .i64 (size : Int)) W2 ∧
      W2.heap[w.heap.size]? = some (.cells (cells8 ((l.drop at_).take size ++ List.replicate (8 - size) 0)).toArray 105 (0, 0)) ∧ Below w.heap.size w W2 := by
  have hW : ((w.alloc (.cells zeros8 105)).drew).heap[w.heap.size]? = some (.cells zeros8 105 (0, 0)) := heap_alloc_new w _
  have hsi : (Tryd.prog.info? 5).map (·.size) = some 1 := by
    obtain ⟨i0, hi, hz0, hz1, hz2⟩ := info_parts info_u8
    rw [hi]; simp [hz1]
  have hdl : ((l.drop at_).take size).length = size := by rw [List.length_take, List.length_drop]; omega
  have h1 : (cells8 ((l.drop at_).take size)).length = Nat.min size 8 := by rw [cells8_length, hdl]; exact (Nat.min_eq_left hs8).symm
  have hbl : Below w.heap.size w ((w.alloc (.cells zeros8 105)).drew) := ((Below.refl _ _).alloc (Nat.le_refl _) _).drew
  have hr := run_copy_row (P := Tryd.prog) ((w.alloc (.cells zeros8 105)).drew) 97 97 3 5 w.heap.size 0 8 8 (ad.add at_) size (cap - at_) zeros8 105 (cells8 ((l.drop at_).take size)) Tryd.underlying97 hsi hW h1
    (fun j v hj => by
      obtain ⟨b, hb', rfl⟩ := cells8_get _ j v hj
      refine cell_later hbl ?_
      rw [Go.Deep.add_add]
      have hj2 : j < size := by
        have := (List.getElem?_eq_some_iff.1 hb').1
        rw [hdl] at this
        exact this
      rw [List.getElem?_take_of_lt hj2, List.getElem?_drop] at hb'
      exact (hb.cells).2.2 ad rfl (at_ + j) _ (by unfold cells8; rw [List.getElem?_map, hb']; rfl))
    (by rw [cells8_length, hdl]; simp [zeros8]; omega) (cells8_one _)
  refine ⟨_, hr.trans (by rw [cells8_length, hdl]; rfl), ?_, ?_⟩
  · have e : (zeros8.toList.take 0 ++ cells8 ((l.drop at_).take size) ++ zeros8.toList.drop (0 + size)) = cells8 ((l.drop at_).take size ++ List.replicate (8 - size) 0) := by
      unfold zeros8 cells8
      rw [Array.toList_replicate, List.take_zero, List.nil_append, Nat.zero_add, List.drop_replicate, List.map_append, List.map_replicate]
      rfl
    rw [e]
    exact setRow_heap _ _ _ _ _ _ hW
  · exact below_setRow hbl (Nat.le_refl _) _
theorem or_add (n x k : Nat) (hk : k < 8) (hn : n < 256 ^ k) (hx : x < 256) : bits BinOp.or IntKind.u64 (n : Int) (((256 ^ k * x : Nat) : Int)) = ((n + 256 ^ k * x : Nat) : Int) := by
  have h1 : (256 : Nat) ^ k = 2 ^ (8 * k) := by rw [Nat.pow_mul]
  have h2 : (256 : Nat) ^ k * 256 ≤ 18446744073709551616 := by
    have : (256 : Nat) ^ (k + 1) ≤ 256 ^ 8 := Nat.pow_le_pow_right (by decide) (by omega)
    rw [Nat.pow_succ] at this
    exact Nat.le_trans this (by decide)
  have h3 : 256 ^ k * x < 18446744073709551616 := Nat.lt_of_lt_of_le (Nat.mul_lt_mul_of_pos_left hx (Nat.pow_pos (by decide))) h2
  have h4 : 256 ^ k ≤ 256 ^ k * 256 := by omega
  rw [u64_or_nat _ _ (by omega) h3, h1, Nat.or_comm, ← Nat.two_pow_add_eq_or_of_lt (by rw [← h1]; exact hn), Nat.add_comm]
theorem or_end {n m : Nat} {x y : Int} (h : bits BinOp.or IntKind.u64 (n : Int) x = ((n + m : Nat) : Int)) (hk : y = x) : Value.int IntKind.u64 (bits BinOp.or IntKind.u64 (n : Int) y) = Value.int IntKind.u64 ((n + m : Nat) : Int) := by rw [hk, h]
end Go.Proofs.YtpbjjmenkoigjaaDoor
end

section
namespace Go.Proofs.YtpbjjmenkoigjaaDoor
open Go.RowKit
/-- What taking a number answers. -/
def takeR (l : List Nat) (at_ size : Int) : Int × Int :=
  if size < 1 ∨ 8 < size ∨ at_ < 0 then (0, 1) else if (l.length : Int) < at_ + size then (0, 3) else (((valN ((l.drop at_.toNat).take size.toNat) : Nat) : Int), 0)
def TakePost (r : Int × Int) (w : World) (e : Ending) (w' : World) : Prop := e = .returned (.tuple #[.int .u64 r.1, .int .i64 r.2]) ∧ Below w.heap.size w w'
theorem takeR_arg (l : List Nat) (at_ size : Int) (h : size < 1 ∨ 8 < size ∨ at_ < 0) : takeR l at_ size = (0, 1) := by unfold takeR; rw [if_pos h]
theorem takeR_short (l : List Nat) (at_ size : Int) (h : ¬ (size < 1 ∨ 8 < size ∨ at_ < 0)) (h2 : (l.length : Int) < at_ + size) : takeR l at_ size = (0, 3) := by unfold takeR; rw [if_neg h, if_pos h2]
theorem takeR_ok (l : List Nat) (at_ size : Nat) (h1 : 1 ≤ size) (h8 : size ≤ 8) (h2 : at_ + size ≤ l.length) : takeR l at_ size = (((valN ((l.drop at_).take size) : Nat) : Int), 0) := by
  unfold takeR; rw [if_neg (by omega), if_neg (by omega)]; rfl
theorem valN_bound (l : List Nat) (h : ∀ b ∈ l, b < 256) (h8 : l.length ≤ 8) : valN l < 18446744073709551616 :=
  Nat.lt_of_lt_of_le (valN_lt l h) (Nat.le_trans (Nat.pow_le_pow_right (by decide) h8) (by decide))
end Go.Proofs.YtpbjjmenkoigjaaDoor
end

section
namespace Go.Proofs.YtpbjjmenkoigjaaDoor
open Go.RowKit
theorem run_text (w : World) (p : Option Addr) (n cap : Nat) (l : List Nat) (h : Holds w (.slice p n cap) l) : (convert 97 9 (.slice p n cap)).run Tryd.prog w = .ok (.string (text l)) w := by
  obtain ⟨hn, hp, hc⟩ := h.cells
  subst hn
  cases p with
  | none =>
    have := hp rfl
    subst this
    exact run_convert_bytes_nil w 97 5 Tryd.underlying97 Tryd.underlying5 _ _ _ Tryd.underlying9
  | some ad =>
    have := run_convert_bytes_back (P := Tryd.prog) w 97 9 5 ad cap (u8s l) Tryd.underlying97 Tryd.underlying5 Tryd.underlying9 (fun j hj => by
      have hj' : j < l.length := by simpa [u8s] using hj
      have hlt := h.1 l[j] (List.getElem_mem hj')
      rw [hc ad rfl j (.int .u8 ((l[j] : Nat) : Int)) (by unfold cells8; rw [List.getElem?_map, List.getElem?_eq_getElem hj']; rfl)]
      simp only [u8s, List.getElem_map, UInt8.toNat_ofNat']
      rw [Nat.mod_eq_of_lt hlt])
    rw [u8s_length] at this
    exact this
end Go.Proofs.YtpbjjmenkoigjaaDoor
end

section
namespace Go.Proofs.YtpbjjmenkoigjaaDoor
namespace Crc
/-- one bit step -/
def bit (r : Nat) : Nat := (r / 2) ^^^ (0x82F63B78 * (r % 2))
def bits : Nat → Nat → Nat
  | 0, r => r
  | n + 1, r => bits n (bit r)
def tab (i : Nat) : Nat := bits 8 i
def byte (r b : Nat) : Nat := bits 8 (r ^^^ b)
def fold (r : Nat) (l : List Nat) : Nat := l.foldl byte r
def add (sum : Nat) (l : List Nat) : Nat := 4294967295 - fold (4294967295 - sum) l

theorem xor_div2 (a b : Nat) : (a ^^^ b) / 2 = a / 2 ^^^ b / 2 := by
  have := Nat.shiftRight_xor_distrib (a := a) (b := b) (i := 1)
  simpa [Nat.shiftRight_eq_div_pow] using this
theorem xor_mod2 (a b : Nat) : (a ^^^ b) % 2 = (a % 2) ^^^ (b % 2) := by
  have := Nat.xor_mod_two_pow (a := a) (b := b) (n := 1)
  simpa using this
theorem bit_xor (a b : Nat) : bit (a ^^^ b) = bit a ^^^ bit b := by
  unfold bit
  rw [xor_div2, xor_mod2]
  have ha : a % 2 = 0 ∨ a % 2 = 1 := by omega
  have hb : b % 2 = 0 ∨ b % 2 = 1 := by omega
  rcases ha with ha | ha <;> rcases hb with hb | hb <;> rw [ha, hb] <;> simp
  · rw [Nat.xor_assoc]
  · rw [Nat.xor_assoc, Nat.xor_assoc, Nat.xor_comm (b / 2)]
  · rw [Nat.xor_assoc, Nat.xor_comm 2197175160 (b / 2 ^^^ 2197175160), Nat.xor_assoc (b / 2), Nat.xor_self, Nat.xor_zero]
theorem bit_zero : bit 0 = 0 := by decide
theorem bit_lt (r : Nat) (h : r < 4294967296) : bit r < 4294967296 := by
  unfold bit
  have : r % 2 = 0 ∨ r % 2 = 1 := by omega
  refine Nat.xor_lt_two_pow (n := 32) (by omega) ?_
  rcases this with h | h <;> rw [h] <;> decide
theorem bit_ker (r : Nat) (h : r < 4294967296) (h0 : bit r = 0) : r = 0 := by
  unfold bit at h0
  have hr : r % 2 = 0 ∨ r % 2 = 1 := by omega
  rcases hr with hr | hr <;> rw [hr] at h0
  · simp at h0; omega
  · have h1 : r / 2 = 2197175160 := by
      have := congrArg (fun x => x ^^^ 2197175160) h0
      simpa [Nat.xor_assoc] using this
    omega
theorem bits_xor (n : Nat) : ∀ a b, bits n (a ^^^ b) = bits n a ^^^ bits n b := by
  induction n with
  | zero => intro a b; rfl
  | succ n ih => intro a b; simp only [bits, bit_xor, ih]
theorem bits_lt (n : Nat) : ∀ r, r < 4294967296 → bits n r < 4294967296 := by
  induction n with
  | zero => intro r h; exact h
  | succ n ih => intro r h; exact ih _ (bit_lt r h)
theorem bits_ker (n : Nat) : ∀ r, r < 4294967296 → bits n r = 0 → r = 0 := by
  induction n with
  | zero => intro r _ h; exact h
  | succ n ih => intro r h h0; exact bit_ker r h (ih _ (bit_lt r h) h0)
theorem bits_succ (n r : Nat) : bits (n + 1) r = bit (bits n r) := by
  induction n generalizing r with
  | zero => rfl
  | succ n ih => rw [bits, ih]; rfl
theorem bits_up (n : Nat) : ∀ q, bits n (2 ^ n * q) = q := by
  induction n with
  | zero => intro q; simp [bits]
  | succ n ih =>
    intro q
    have : bit (2 ^ (n + 1) * q) = 2 ^ n * q := by
      unfold bit
      have h : 2 ^ (n + 1) * q = 2 * (2 ^ n * q) := by rw [Nat.pow_succ]; ac_rfl
      rw [h, Nat.mul_mod_right, Nat.mul_div_cancel_left _ (by decide)]; simp
    rw [bits, this, ih]
theorem split_xor (n a : Nat) : a = (2 ^ n * (a / 2 ^ n)) ^^^ (a % 2 ^ n) := by
  have h := Nat.two_pow_add_eq_or_of_lt (Nat.mod_lt a (Nat.two_pow_pos n)) (a / 2 ^ n)
  have h2 := Nat.div_add_mod a (2 ^ n)
  have h3 : (2 ^ n * (a / 2 ^ n)) &&& (a % 2 ^ n) = 0 := by
    apply Nat.eq_of_testBit_eq
    intro i
    simp only [Nat.testBit_and, Nat.zero_testBit, Nat.testBit_two_pow_mul, Nat.testBit_mod_two_pow]
    by_cases hi : i < n
    · simp [hi]; intro h; omega
    · simp [hi]
  have h4 : (2 ^ n * (a / 2 ^ n)) ^^^ (a % 2 ^ n) = (2 ^ n * (a / 2 ^ n)) ||| (a % 2 ^ n) := by
    apply Nat.eq_of_testBit_eq
    intro i
    have := congrArg (fun x => x.testBit i) h3
    simp only [Nat.testBit_and, Nat.zero_testBit] at this
    simp only [Nat.testBit_xor, Nat.testBit_or]
    generalize (2 ^ n * (a / 2 ^ n)).testBit i = x at this ⊢
    generalize (a % 2 ^ n).testBit i = y at this ⊢
    revert this; cases x <;> cases y <;> decide
  rw [h4, ← h, h2]
/-- The table's way: eight bits at once. -/
theorem byte_tab (r b : Nat) : byte r b = (r / 256) ^^^ tab ((r % 256) ^^^ b) := by
  unfold byte tab
  have h := split_xor 8 r
  have e : r ^^^ b = (256 * (r / 256)) ^^^ ((r % 256) ^^^ b) := by
    conv => lhs; rw [h]
    rw [Nat.xor_assoc]
  rw [e, bits_xor]
  congr 1
  exact bits_up 8 (r / 256)
theorem byte_lt (r b : Nat) (h : r < 4294967296) (hb : b < 256) : byte r b < 4294967296 :=
  bits_lt 8 _ (Nat.xor_lt_two_pow (n := 32) h (by omega))
def Bytes (l : List Nat) : Prop := ∀ b ∈ l, b < 256
theorem fold_lt : ∀ (l : List Nat) (r : Nat), r < 4294967296 → Bytes l → fold r l < 4294967296
  | [], r, h, _ => h
  | b :: l, r, h, hl => fold_lt l _ (byte_lt r b h (hl b (by simp))) (fun x hx => hl x (by simp [hx]))
theorem fold_append (r : Nat) (l m : List Nat) : fold r (l ++ m) = fold (fold r l) m := List.foldl_append
theorem add_append (l m : List Nat) (hl : Bytes l) : add (add 0 l) m = add 0 (l ++ m) := by
  unfold add
  rw [fold_append]
  have h := fold_lt l (4294967295 - 0) (by decide) hl
  rw [show 4294967295 - (4294967295 - fold (4294967295 - 0) l) = fold (4294967295 - 0) l from by omega]
/-- Two registers apart stay apart. -/
theorem fold_diff : ∀ (l : List Nat) (r t : Nat), fold (r ^^^ t) l = fold r l ^^^ bits (8 * l.length) t
  | [], r, t => rfl
  | b :: l, r, t => by
    show fold (byte (r ^^^ t) b) l = _
    have e : byte (r ^^^ t) b = byte r b ^^^ bits 8 t := by
      unfold byte
      rw [← bits_xor, Nat.xor_assoc, Nat.xor_comm t b, ← Nat.xor_assoc]
    rw [e, fold_diff l]
    show fold r (b :: l) ^^^ _ = fold r (b :: l) ^^^ _
    have : ∀ m n x, bits m (bits n x) = bits (n + m) x := by
      intro m n
      induction n with
      | zero => intro x; rw [Nat.zero_add]; rfl
      | succ n ih => intro x; rw [Nat.succ_add]; exact ih _
    rw [this]
    rw [show 8 + 8 * l.length = 8 * (b :: l).length from by simp; omega]
theorem xor_cancel {a b : Nat} (h : a ^^^ b = a) : b = 0 := by
  have := congrArg (fun x => a ^^^ x) h
  simpa [← Nat.xor_assoc] using this
theorem bits8_up (x y : Nat) : bits 8 (x ^^^ 256 * y) = bits 8 x ^^^ y := by
  rw [bits_xor]; congr 1; exact bits_up 8 y
/-- Four bytes turned by the four bytes of d: the register is turned by 32 steps of d. -/
theorem four (r b0 b1 b2 b3 d : Nat) (hd : d < 4294967296) :
    fold r [b0 ^^^ (d % 256), b1 ^^^ (d / 256 % 256), b2 ^^^ (d / 65536 % 256), b3 ^^^ (d / 16777216 % 256)] = fold r [b0, b1, b2, b3] ^^^ bits 32 d := by
  have s0 : d = (d % 256) ^^^ 256 * (d / 256) := by
    conv => lhs; rw [split_xor 8 d]
    rw [Nat.xor_comm]
  have s1 : d / 256 = (d / 256 % 256) ^^^ 256 * (d / 65536) := by
    conv => lhs; rw [split_xor 8 (d / 256)]
    rw [Nat.xor_comm, Nat.div_div_eq_div_mul]
  have s2 : d / 65536 = (d / 65536 % 256) ^^^ 256 * (d / 16777216) := by
    conv => lhs; rw [split_xor 8 (d / 65536)]
    rw [Nat.xor_comm, Nat.div_div_eq_div_mul]
  have s3 : d / 16777216 = d / 16777216 % 256 := by omega
  have e32 : bits 32 d = bits 8 (bits 8 (bits 8 (bits 8 d))) := rfl
  have k : ∀ r b x, byte r (b ^^^ x) = byte r b ^^^ bits 8 x := by
    intro r b x; unfold byte; rw [← bits_xor, Nat.xor_assoc]
  have k2 : ∀ r b x, byte (r ^^^ x) b = byte r b ^^^ bits 8 x := by
    intro r b x; unfold byte; rw [← bits_xor, Nat.xor_assoc, Nat.xor_comm x b, ← Nat.xor_assoc]
  show byte (byte (byte (byte r _) _) _) _ = byte (byte (byte (byte r b0) b1) b2) b3 ^^^ _
  simp only [k, k2]
  rw [e32]
  generalize byte (byte (byte (byte r b0) b1) b2) b3 = z
  have f0 : bits 8 d = bits 8 (d % 256) ^^^ (d / 256) := by conv => lhs; rw [s0]
                                                            exact bits8_up _ _
  have f1 : bits 8 (bits 8 d) = bits 8 (bits 8 (d % 256)) ^^^ (bits 8 (d / 256 % 256) ^^^ (d / 65536)) := by
    rw [f0, bits_xor]; congr 1
    conv => lhs; rw [s1]
    exact bits8_up _ _
  have f2 : bits 8 (bits 8 (bits 8 d)) = bits 8 (bits 8 (bits 8 (d % 256))) ^^^ (bits 8 (bits 8 (d / 256 % 256)) ^^^ (bits 8 (d / 65536 % 256) ^^^ (d / 16777216))) := by
    rw [f1, bits_xor, bits_xor]; congr 2
    conv => lhs; rw [s2]
    exact bits8_up _ _
  rw [f2, bits_xor, bits_xor, bits_xor]
  rw [← s3]
  simp only [Nat.xor_assoc]
theorem tells (p q : List Nat) (b0 b1 b2 b3 d : Nat) (hd : d < 4294967296) (hp : Bytes p) (hb : Bytes [b0, b1, b2, b3]) (hq : Bytes q) (hb' : Bytes [b0 ^^^ (d % 256), b1 ^^^ (d / 256 % 256), b2 ^^^ (d / 65536 % 256), b3 ^^^ (d / 16777216 % 256)]) :
    add 0 (p ++ ([b0 ^^^ (d % 256), b1 ^^^ (d / 256 % 256), b2 ^^^ (d / 65536 % 256), b3 ^^^ (d / 16777216 % 256)] ++ q)) = add 0 (p ++ ([b0, b1, b2, b3] ++ q)) ↔ d = 0 := by
  have hap : ∀ l m, Bytes l → Bytes m → Bytes (l ++ m) := fun l m hl hm b hb => by
    rcases List.mem_append.1 hb with h | h
    · exact hl b h
    · exact hm b h
  have l1 := fold_lt _ (4294967295 - 0) (by decide) (hap _ _ hp (hap _ _ hb hq))
  have l2 := fold_lt _ (4294967295 - 0) (by decide) (hap _ _ hp (hap _ _ hb' hq))
  have hx : fold (4294967295 - 0) (p ++ ([b0 ^^^ (d % 256), b1 ^^^ (d / 256 % 256), b2 ^^^ (d / 65536 % 256), b3 ^^^ (d / 16777216 % 256)] ++ q)) = fold (4294967295 - 0) (p ++ ([b0, b1, b2, b3] ++ q)) ^^^ bits (8 * q.length) (bits 32 d) := by
    rw [fold_append, fold_append, four _ _ _ _ _ _ hd, fold_diff, fold_append _ p, fold_append _ [b0, b1, b2, b3]]
  constructor
  · intro h
    unfold add at h
    have h3 : fold (4294967295 - 0) (p ++ ([b0 ^^^ (d % 256), b1 ^^^ (d / 256 % 256), b2 ^^^ (d / 65536 % 256), b3 ^^^ (d / 16777216 % 256)] ++ q)) = fold (4294967295 - 0) (p ++ ([b0, b1, b2, b3] ++ q)) := by omega
    rw [hx] at h3
    have h4 := xor_cancel h3
    exact bits_ker 32 d hd (bits_ker _ _ (bits_lt 32 d hd) h4)
  · rintro rfl
    unfold add
    rw [hx]
    have : ∀ n, bits n 0 = 0 := by
      intro n
      induction n with
      | zero => rfl
      | succ n ih => rw [bits, bit_zero, ih]
    rw [this, this, Nat.xor_zero]
/-- The reference's steps. -/
theorem bit_ref (r : Nat) : bit r = if r % 2 = 1 then (r / 2) ^^^ 0x82F63B78 else r / 2 := by
  unfold bit
  have hr : r % 2 = 0 ∨ r % 2 = 1 := by omega
  rcases hr with h | h <;> rw [h] <;> simp
end Crc
namespace Chain
def step (h c : Nat) : Nat := (((h ^^^ c) * 1099511628211) % 18446744073709551616) ^^^ ((((h ^^^ c) * 1099511628211) % 18446744073709551616) / 536870912)
def lens : Nat → Nat → List Nat
  | 0, _ => []
  | k + 1, n => n % 256 :: lens k (n / 256)
def start (h : Nat) : Nat := h ^^^ 14695981039346656037
def chain (h : Nat) (l : List Nat) : Nat := (l ++ lens 8 l.length).foldl step (start h)

theorem xor_right_inj {a b c : Nat} (h : a ^^^ c = b ^^^ c) : a = b := by
  have := congrArg (fun x => x ^^^ c) h
  simpa [Nat.xor_assoc] using this
theorem xor_left_inj {a b c : Nat} (h : c ^^^ a = c ^^^ b) : a = b := by
  rw [Nat.xor_comm c, Nat.xor_comm c] at h; exact xor_right_inj h
theorem xor_eq_zero {a b : Nat} (h : a ^^^ b = 0) : a = b := by
  have := congrArg (fun x => x ^^^ b) h
  simpa [Nat.xor_assoc] using this
theorem mul_inj (a b : Nat) (ha : a < 18446744073709551616) (hb : b < 18446744073709551616) (h : (a * 1099511628211) % 18446744073709551616 = (b * 1099511628211) % 18446744073709551616) : a = b := by
  have h2 := congrArg (fun x => (x * 14886173955864302971) % 18446744073709551616) h
  simp only [Nat.mod_mul_mod, Nat.mul_assoc] at h2
  have e : ∀ x : Nat, x < 18446744073709551616 → (x * (1099511628211 * 14886173955864302971)) % 18446744073709551616 = x := by
    intro x hx
    rw [Nat.mul_mod, show (1099511628211 * 14886173955864302971) % 18446744073709551616 = 1 from by decide, Nat.mul_one, Nat.mod_mod, Nat.mod_eq_of_lt hx]
  rw [e a ha, e b hb] at h2
  exact h2
theorem shift_inj (x y : Nat) (_hx : x < 18446744073709551616) (_hy : y < 18446744073709551616) (h : x ^^^ (x / 536870912) = y ^^^ (y / 536870912)) : x = y := by
  have hd : (x ^^^ y) / 536870912 = x / 536870912 ^^^ y / 536870912 := by
    have := Nat.shiftRight_xor_distrib (a := x) (b := y) (i := 29)
    simpa [Nat.shiftRight_eq_div_pow] using this
  have he : (x ^^^ y) = (x ^^^ y) / 536870912 := by
    rw [hd]
    have := congrArg (fun z => z ^^^ ((x / 536870912) ^^^ y)) h
    have l1 : x ^^^ x / 536870912 ^^^ (x / 536870912 ^^^ y) = x ^^^ y := by
      rw [Nat.xor_assoc, ← Nat.xor_assoc (x / 536870912), Nat.xor_self, Nat.zero_xor]
    have l2 : y ^^^ y / 536870912 ^^^ (x / 536870912 ^^^ y) = x / 536870912 ^^^ y / 536870912 := by
      rw [Nat.xor_comm (x / 536870912) y, Nat.xor_comm y (y / 536870912), Nat.xor_assoc, ← Nat.xor_assoc y, Nat.xor_self, Nat.zero_xor, Nat.xor_comm]
    rw [l1, l2] at this
    exact this
  have hz : x ^^^ y = 0 := by omega
  exact xor_eq_zero hz
theorem xor_lt {a b : Nat} (ha : a < 18446744073709551616) (hb : b < 18446744073709551616) : a ^^^ b < 18446744073709551616 := Nat.xor_lt_two_pow (n := 64) ha hb
theorem step_lt (h c : Nat) : step h c < 18446744073709551616 := by
  unfold step
  have := Nat.mod_lt ((h ^^^ c) * 1099511628211) (y := 18446744073709551616) (by decide)
  exact xor_lt this (by omega)
theorem step_inj {h g c d : Nat} (hh : h < 18446744073709551616) (hg : g < 18446744073709551616) (hc : c < 256) (hd : d < 256) (e : step h c = step g d) : h ^^^ c = g ^^^ d := by
  unfold step at e
  have := shift_inj _ _ (Nat.mod_lt _ (by decide)) (Nat.mod_lt _ (by decide)) e
  exact mul_inj _ _ (xor_lt hh (by omega)) (xor_lt hg (by omega)) this
theorem start_lt {h : Nat} (hh : h < 18446744073709551616) : start h < 18446744073709551616 := xor_lt hh (by decide)
theorem fold_inj (l : List Nat) : ∀ {h g : Nat}, h < 18446744073709551616 → g < 18446744073709551616 → (∀ b ∈ l, b < 256) → l.foldl step h = l.foldl step g → h = g := by
  induction l with
  | nil => intro h g _ _ _ e; exact e
  | cons b l ih =>
    intro h g hh hg hl e
    have := ih (step_lt h b) (step_lt g b) (fun x hx => hl x (by simp [hx])) e
    exact xor_right_inj (step_inj hh hg (hl b (by simp)) (hl b (by simp)) this)
theorem lens_lt : ∀ k n, ∀ b ∈ lens k n, b < 256
  | 0, _, b, hb => by simp [lens] at hb
  | k + 1, n, b, hb => by
    simp only [lens, List.mem_cons] at hb
    rcases hb with rfl | hb
    · exact Nat.mod_lt _ (by decide)
    · exact lens_lt k _ b hb
theorem link_heads (h g c : Nat) (hh : h < 18446744073709551616) (hg : g < 18446744073709551616) (hc : c < 256) : chain h [c] = chain g [c] ↔ h = g := by
  constructor
  · intro e
    have := fold_inj _ (start_lt hh) (start_lt hg) (fun b hb => by
      rcases List.mem_append.1 hb with h1 | h1
      · simp at h1; omega
      · exact lens_lt _ _ b h1) e
    exact xor_right_inj this
  · rintro rfl; rfl
theorem chain_one (h c : Nat) : chain h [c] = (lens 8 1).foldl step (step (start h) c) := by
  unfold chain
  rw [List.length_singleton, List.foldl_append, List.foldl_cons, List.foldl_nil]
theorem link_bytes (h c d : Nat) (hh : h < 18446744073709551616) (hc : c < 256) (hd : d < 256) : chain h [c] = chain h [d] ↔ c = d := by
  constructor
  · intro e
    rw [chain_one, chain_one] at e
    have hl := lens_lt 8 1
    generalize lens 8 1 = L at e hl
    have := fold_inj L (step_lt _ _) (step_lt _ _) hl e
    exact xor_left_inj (step_inj (start_lt hh) (start_lt hh) hc hd this)
  · rintro rfl; rfl
theorem fold_lt : ∀ (l : List Nat) (h : Nat), h < 18446744073709551616 → l.foldl step h < 18446744073709551616
  | [], _, hh => hh
  | b :: l, h, _ => fold_lt l _ (step_lt h b)
theorem chain_lt (h : Nat) (l : List Nat) (hh : h < 18446744073709551616) : chain h l < 18446744073709551616 := fold_lt _ _ (start_lt hh)
end Chain
end Go.Proofs.YtpbjjmenkoigjaaDoor
end

section
namespace Go.Proofs.YtpbjjmenkoigjaaDoor
open Go.RowKit

theorem ret_int {k : IntKind} {a b : Int} (h : a = b) : Ending.returned (.int k a) = .returned (.int k b) := by rw [h]
theorem wrap_u64_nat (n : Nat) : IntKind.u64.wrap (n : Int) = ((n % 18446744073709551616 : Nat) : Int) := by
  simp [IntKind.wrap, IntKind.bits, IntKind.signed]
theorem wrap_u32_nat (n : Nat) : IntKind.u32.wrap (n : Int) = ((n % 4294967296 : Nat) : Int) := by
  simp [IntKind.wrap, IntKind.bits, IntKind.signed]
theorem step_eq (h c : Nat) (hh : h < 18446744073709551616) (hc : c < 256) :
    bits BinOp.xor IntKind.u64 (IntKind.u64.wrap (bits BinOp.xor IntKind.u64 ↑h ↑c * 1099511628211)) (IntKind.u64.wrap (bits BinOp.xor IntKind.u64 ↑h ↑c * 1099511628211) / 536870912) = ((Chain.step h c : Nat) : Int) := by
  rw [u64_xor_nat h c hh (by omega)]
  have e : (((h ^^^ c : Nat) : Int) * 1099511628211) = (((h ^^^ c) * 1099511628211 : Nat) : Int) := by omega
  rw [e, wrap_u64_nat]
  have e2 : (((h ^^^ c) * 1099511628211 % 18446744073709551616 : Nat) : Int) / 536870912 = (((h ^^^ c) * 1099511628211 % 18446744073709551616 / 536870912 : Nat) : Int) := by omega
  rw [e2, u64_xor_nat _ _ (by omega) (by omega)]
  rfl
set_option maxHeartbeats 400000 in
theorem step_any (h c : Nat) (w : World) (hh : h < 18446744073709551616) (hc : c < 256) :
    Calls Tryd.prog 48 #[.int .u64 h, .int .u8 c] w fun e w' => e = .returned (.int .u64 (Chain.step h c)) ∧ w = w' := by
  have HS := Lib.hid (step_eq h c hh hc)
  go_enter Tryd.func48, Tryd.ntmps48
  go_wp2
  go_ret
  exact ⟨ret_int HS.out, rfl⟩

theorem bit_ref0 (q : Nat) (h : q % 2 = 0) : Crc.bit q = q / 2 := by rw [Crc.bit_ref, if_neg (by omega)]
theorem bit_ref1 (q : Nat) (h : q % 2 = 1) : Crc.bit q = (q / 2) ^^^ 2197175160 := by rw [Crc.bit_ref, if_pos h]
set_option maxHeartbeats 400000 in
theorem steps_any (r : Nat) (w : World) (hh : r < 4294967296)  :
    Calls Tryd.prog 93 #[.int .u32 r, .int .i64 8] w fun e w' => e = .returned (.int .u32 (Crc.bits 8 r)) ∧ w = w' := by
  go_enter Tryd.func93, Tryd.ntmps93
  go_wp2
  go_loop [0, 5, 6] (fun r' i _ => ∃ k : Nat, k ≤ 8 ∧ i = .int .i64 k ∧ r' = .int .u32 (Crc.bits k r)) (fun _ i _ => 8 - (intOf i).toNat)
  case atStart => exact ⟨0, by omega, rfl, rfl⟩
  case round =>
    obtain ⟨k, hk, rfl, rfl⟩ := hrel
    have hq := Crc.bits_lt k r hh
    have hs := Crc.bits_succ k r
    have HS := Lib.hid hs
    clear hs
    by_cases hlt : k < 8
    · obtain ⟨q, hqq⟩ : ∃ q, q = Crc.bits k r := ⟨_, rfl⟩
      rw [← hqq] at hq ⊢
      have HQ := Lib.hid hqq
      clear hqq
      rcases (show q % 2 = 0 ∨ q % 2 = 1 from by omega) with h2 | h2
      · have hb : ((q : Int) % 2 == 1) = false := by rw [beq_eq_false_iff_ne]; omega
        have H2 := Lib.hid h2
        clear h2
        go_wp2
        go_round
        case rel => exact ⟨k + 1, by omega, by go_num, by rw [HS.out, ← HQ.out, bit_ref0 q H2.out]; go_num⟩
        case measure => simp [intOf]; omega
      · have hb : ((q : Int) % 2 == 1) = true := by rw [beq_iff_eq]; omega
        have hx := u32_xor_nat (q / 2) 2197175160 (by omega) (by omega)
        have HX := Lib.hid hx
        have H2 := Lib.hid h2
        clear h2 hx
        go_wp2
        go_round
        case rel => exact ⟨k + 1, by omega, by go_num, by rw [HS.out, ← HQ.out, bit_ref1 q H2.out, ← HX.out]; rfl⟩
        case measure => simp [intOf]; omega
    · obtain rfl : k = 8 := by omega
      go_wp2
      go_ret
      exact ⟨rfl, rfl⟩
end Go.Proofs.YtpbjjmenkoigjaaDoor
end

section
namespace Go.Proofs.YtpbjjmenkoigjaaDoor
open Go.RowKit

/-- Block g holds the table's first k values. -/
def Tbl (w : World) (g k : Nat) : Prop := ∃ cs : Array Value, w.heap[g]? = some (.cells cs 121 (0, 0)) ∧ cs.size = 256 ∧ ∀ j, j < k → cs[j]? = some (.int .u32 (Crc.tab j))
theorem bit_bits (k i q : Nat) (h : q = Crc.bits k i) (hq : q < 4294967296) : bits BinOp.xor IntKind.u32 ((q : Int) / 2) (2197175160 * bits BinOp.and IntKind.u32 ↑q 1 % 4294967296) = ((Crc.bits (k + 1) i : Nat) : Int) := by
  rw [← IntKind.wrap_u32']
  have h1 := u32_and_nat q 1 hq (by omega)
  rw [Crc.bits_succ, ← h]
  rw [show ((1 : Int)) = ((1 : Nat) : Int) from rfl, h1, nat_mask1]
  have e : (2197175160 : Int) * ((q % 2 : Nat) : Int) = ((2197175160 * (q % 2) : Nat) : Int) := by omega
  rw [e, wrap_u32_nat]
  have hm : 2197175160 * (q % 2) % 4294967296 = 2197175160 * (q % 2) := by omega
  rw [hm, show ((q : Int) / 2) = ((q / 2 : Nat) : Int) from by omega, u32_xor_nat _ _ (by omega) (by omega)]
  rfl
def zeros : Array Value := Array.replicate 256 (.int .u32 0)
theorem zeros_size : zeros.size = 256 := by simp [zeros]
theorem zero_table (w : World) : (zeroValue 121).run Tryd.prog w = .ok (.agg zeros) w := by kernel_rfl
theorem Tbl.at_ {w : World} {g k : Nat} (h : Tbl w g k) (j : Nat) (hj : j < 256) : ∃ v, w.cell? ⟨g, j, none⟩ = some v := by
  obtain ⟨cs, hb, hs, _⟩ := h
  exact ⟨cs[j]'(by omega), by rw [cell_of_row w g j cs _ _ hb]; exact Array.getElem?_eq_getElem (by omega)⟩
theorem Tbl.cell {w : World} {g k : Nat} (h : Tbl w g k) (j : Nat) (hj : j < k) : w.cell? ⟨g, j, none⟩ = some (.int .u32 (Crc.tab j)) := by
  obtain ⟨cs, hb, hs, hc⟩ := h
  rw [cell_of_row w g j cs _ _ hb]; exact hc j hj
theorem Tbl.free {w : World} {g k : Nat} (h : Tbl w g k) (j : Nat) : w.frozen? ⟨g, j, none⟩ = false := by
  obtain ⟨cs, hb, _⟩ := h
  simp [World.frozen?, hb]
theorem Tbl.new (w : World) : Tbl (w.alloc (.cells zeros 121)) w.heap.size 0 := ⟨zeros, heap_alloc_new w _, zeros_size, fun _ h => absurd h (by omega)⟩
theorem Tbl.set_ {w : World} {g k : Nat} (h : Tbl w g k) (hk : k < 256) : Tbl (w.setCell ⟨g, k, none⟩ (.int .u32 (Crc.tab k))) g (k + 1) := by
  obtain ⟨cs, hb, hs, hc⟩ := h
  refine ⟨cs.setIfInBounds k (.int .u32 (Crc.tab k)), ?_, by simpa using hs, fun j hj => ?_⟩
  · simp [World.setCell, Array.getElem?_modify, hb]
  · by_cases hjk : j = k
    · subst hjk
      rw [Array.getElem?_setIfInBounds_self_of_lt (by omega)]
    · rw [Array.getElem?_setIfInBounds_ne (by omega)]
      exact hc j (by omega)
set_option maxHeartbeats 400000 in
set_option maxRecDepth 100000 in
theorem made_any (w : World) :
    Calls Tryd.prog 79 #[] w fun e w' => e = .returned (.pointer (some ⟨w.heap.size, 0, none⟩)) ∧ Tbl w' w.heap.size 256 ∧ Below w.heap.size w w' := by
  have hz := zero_table
  go_enter Tryd.func79, Tryd.ntmps79
  go_wp2
  clear hz
  go_loopw [4] (fun i wr => ∃ k : Nat, k ≤ 256 ∧ i = .int .i64 k ∧ Tbl wr w.heap.size k ∧ Below w.heap.size w wr) (fun i _ => 256 - (intOf i).toNat)
  case atStart => exact ⟨0, by omega, rfl, Tbl.new w, (Below.refl _ _).alloc (Nat.le_refl _) _⟩
  case round =>
    obtain ⟨k, hk, rfl, ht, hb⟩ := hrel
    by_cases hlt : k < 256
    · obtain ⟨v, hv⟩ := ht.at_ k hlt
      have hf := ht.free k
      obtain ⟨wo, rfl⟩ : ∃ wo : World, wo = wr := ⟨_, rfl⟩
      go_wp2
      go_loop [3, 9] (fun r j => ∃ m : Nat, m ≤ 8 ∧ j = .int .i64 m ∧ r = .int .u32 (Crc.bits m k)) (fun _ j => 8 - (intOf j).toNat)
      case atStart => exact ⟨0, by omega, rfl, rfl⟩
      case round =>
        obtain ⟨m, hm, rfl, rfl⟩ := hrel
        have hq := Crc.bits_lt m k (by omega)
        obtain ⟨q, hqq⟩ : ∃ q, q = Crc.bits m k := ⟨_, rfl⟩
        have HB := Lib.hid (bit_bits m k q hqq (by omega))
        by_cases hm8 : m < 8
        · rw [← hqq] at hq ⊢
          clear hqq
          go_wp2
          go_round
          case rel => exact ⟨m + 1, by omega, by go_num, by rw [← HB.out]⟩
          case measure => simp [intOf]; omega
        · obtain rfl : m = 8 := by omega
          clear hqq
          go_wp2
          go_roundw
          case rel => exact ⟨k + 1, by omega, by go_num, ht.set_ hlt, hb.setCell (Nat.le_refl _) _⟩
          case measure => simp [intOf]; omega
    · obtain rfl : k = 256 := by omega
      go_wp2
      go_ret
      exact ⟨rfl, ht, hb⟩
end Go.Proofs.YtpbjjmenkoigjaaDoor
end

section
namespace Go.Proofs.YtpbjjmenkoigjaaDoor
open Go.RowKit
theorem nats_bytes (s : ByteArray) : Crc.Bytes (nats s) := nats_lt s
theorem fold_take (s : ByteArray) (r k : Nat) (h : k < s.size) : Crc.fold r ((nats s).take (k + 1)) = Crc.byte (Crc.fold r ((nats s).take k)) (s[k]).toNat := by
  rw [nats_take s k h, Crc.fold_append]; rfl
theorem not_nat (n : Nat) (h : n < 4294967296) : 4294967295 ^^^ n = 4294967295 - n := by
  apply Nat.eq_of_testBit_eq
  intro i
  have h1 := Nat.testBit_two_pow_sub_succ (n := 32) (x := n) (by omega) i
  have h2 : (4294967295 : Nat).testBit i = decide (i < 32) := Nat.testBit_two_pow_sub_one 32 i
  rw [Nat.testBit_xor, h2, show 4294967295 - n = 2 ^ 32 - (n + 1) from by omega, h1]
  by_cases hi : i < 32
  · simp [hi]
  · have : n.testBit i = false := Nat.testBit_lt_two_pow (Nat.lt_of_lt_of_le h (by
      have := Nat.pow_le_pow_right (n := 2) (by decide) (show 32 ≤ i from by omega)
      simpa using this))
    simp [hi, this]
theorem not_u32 (n : Nat) (h : n < 4294967296) : bits BinOp.xor IntKind.u32 IntKind.u32.max (n : Int) = ((4294967295 - n : Nat) : Int) := by
  have e : IntKind.u32.max = ((4294967295 : Nat) : Int) := by decide
  rw [e, u32_xor_nat _ _ (by omega) h, not_nat n h]
theorem idx_u8 (r b : Nat) (hb : b < 256) : bits BinOp.xor IntKind.u8 ((r : Int) % 256) (b : Int) = (((r % 256) ^^^ b : Nat) : Int) := by
  rw [show ((r : Int) % 256) = ((r % 256 : Nat) : Int) from by omega, u8_xor_nat _ _ (by omega) hb]
theorem idx_lt (r b : Nat) (hb : b < 256) : (r % 256) ^^^ b < 256 := Nat.xor_lt_two_pow (n := 8) (Nat.mod_lt _ (by decide)) hb
theorem tab_lt (i : Nat) (h : i < 4294967296) : Crc.tab i < 4294967296 := Crc.bits_lt 8 i h
theorem byte_eq (q b : Nat) (hq : q < 4294967296) (hb : b < 256) : bits BinOp.xor IntKind.u32 ((q : Int) / 256) ((Crc.tab ((q % 256) ^^^ b) : Nat) : Int) = ((Crc.byte q b : Nat) : Int) := by
  have := idx_lt q b hb
  rw [show ((q : Int) / 256) = ((q / 256 : Nat) : Int) from by omega, u32_xor_nat _ _ (by omega) (tab_lt _ (by omega)), Crc.byte_tab]
set_option maxHeartbeats 400000 in
theorem add_any (sum : Nat) (s : ByteArray) (w : World) (hs : sum < 4294967296) (hl : s.size ≤ maxLen) (hne : s.toList.isEmpty = false) :
    Calls Tryd.prog 69 #[.int .u32 sum, .string s] w fun e w' => e = .returned (.int .u32 (Crc.add sum (nats s))) ∧ Below w.heap.size w w' := by
  unfold maxLen at hl
  go_enter Tryd.func69, Tryd.ntmps69
  go_wp2_with (go_at_call 79; refine (made_any _).mono ?_; rintro e w1 ⟨rfl, ht, hb⟩)
  go_loopw [6, 16] (fun r i wr => ∃ k n : Nat, k ≤ s.size ∧ wr = w1.drewN n ∧ i = .int .i64 k ∧ r = .int .u32 (Crc.fold (4294967295 - sum) ((nats s).take k))) (fun _ i _ => s.size - (intOf i).toNat)
  case atStart => exact ⟨0, 0, by omega, rfl, rfl, by rw [not_u32 sum hs]; rfl⟩
  case round =>
    obtain ⟨k, n, hk, rfl, rfl, rfl⟩ := hrel
    by_cases hlt : k < s.size
    · have hq := Crc.fold_lt ((nats s).take k) (4294967295 - sum) (by omega) (fun b hb => nats_bytes s b (List.mem_of_mem_take hb))
      have HF := Lib.hid (fold_take s (4294967295 - sum) k hlt)
      obtain ⟨q, hqq⟩ : ∃ q, q = Crc.fold (4294967295 - sum) ((nats s).take k) := ⟨_, rfl⟩
      rw [← hqq] at hq ⊢
      have HQ := Lib.hid hqq
      clear hqq
      have hbt := (s[k]).toNat_lt
      have hix := idx_u8 q (s[k]).toNat hbt
      have hil := idx_lt q (s[k]).toNat hbt
      have hcl := ht.cell _ hil
      have HB := Lib.hid (byte_eq q (s[k]).toNat hq hbt)
      go_wp2
      go_quiet (fail)
      clear hix hcl
      go_wp2
      go_roundw
      case rel => exact ⟨k + 1, n + nq, by omega, rfl, by go_num, by rw [HF.out, ← HQ.out, ← HB.out]⟩
      case measure => simp [intOf]; omega
    · obtain rfl : k = s.size := by omega
      have hfin : (nats s).take s.size = nats s := List.take_of_length_le (by rw [nats_length]; omega)
      have HX := Lib.hid hfin
      clear hfin
      have hq := Crc.fold_lt (nats s) (4294967295 - sum) (by omega) (nats_bytes s)
      have HN := Lib.hid (not_u32 _ hq)
      go_wp2
      go_ret
      exact ⟨ret_int (by rw [HX.out, HN.out]; rfl), below_drewN hb n⟩
theorem add_nil (sum : Nat) (s : ByteArray) (w : World) (hne : s.toList.isEmpty = true) :
    Calls Tryd.prog 69 #[.int .u32 sum, .string s] w fun e w' => e = .returned (.int .u32 sum) ∧ w = w' := by
  go_enter Tryd.func69, Tryd.ntmps69
  go_wp2
  go_ret
  exact ⟨rfl, rfl⟩
theorem toList_data (s : ByteArray) : s.toList = s.data.toList := Go.ByteArray.toList_eq s
/-- A sum goes on over a text. -/
theorem add_all (sum : Nat) (s : ByteArray) (w : World) (hs : sum < 4294967296) (hl : s.size ≤ maxLen) :
    Calls Tryd.prog 69 #[.int .u32 sum, .string s] w fun e w' => e = .returned (.int .u32 (Crc.add sum (nats s))) ∧ Below w.heap.size w w' := by
  by_cases hne : s.toList.isEmpty = true
  · refine (add_nil sum s w hne).mono ?_
    rintro e w' ⟨rfl, rfl⟩
    refine ⟨ret_int ?_, Below.refl _ _⟩
    have : nats s = [] := by
      unfold nats
      rw [← toList_data, List.isEmpty_iff.1 hne]; rfl
    rw [this]
    unfold Crc.add
    show (sum : Int) = ((4294967295 - (4294967295 - sum) : Nat) : Int)
    omega
  · exact add_any sum s w hs hl (by simpa using hne)
theorem add_lt (sum : Nat) (l : List Nat) : Crc.add sum l < 4294967296 := by unfold Crc.add; omega
/-- The sum of a text. -/
theorem sum_all (s : ByteArray) (w : World) (hl : s.size ≤ maxLen) :
    Calls Tryd.prog 62 #[.string s] w fun e w' => e = .returned (.int .u32 (Crc.add 0 (nats s))) ∧ Below w.heap.size w w' := by
  go_enter Tryd.func62, Tryd.ntmps62
  go_wp2_with (go_at_call 69; refine (add_all 0 s _ (by omega) hl).mono ?_; rintro e w1 ⟨rfl, hb⟩)
  go_ret
  exact ⟨rfl, hb⟩
end Go.Proofs.YtpbjjmenkoigjaaDoor
end

section
namespace Go.Proofs.YtpbjjmenkoigjaaDoor
open Go.RowKit
theorem ret_bool {a b : Bool} (h : a = b) : Ending.returned (.bool a) = .returned (.bool b) := by rw [h]
set_option maxHeartbeats 400000 in
theorem small_any (g : Nat) (w : World) :
    Calls Tryd.prog 49 #[.pointer (some ⟨g, 0, none⟩)] w fun e w' => e = .returned (.agg #[.pointer (some ⟨g, 0, none⟩), .pointer (some ⟨g, 1, none⟩), .pointer (some ⟨g, 2, none⟩)]) ∧ Below w.heap.size w w' := by
  go_enter Tryd.func49, Tryd.ntmps49
  go_wp2
  go_region
  go_wp2
  exact bodyPost_ret (v := .agg #[.pointer (some ⟨g, 0, none⟩), .pointer (some ⟨g, 1, none⟩), .pointer (some ⟨g, 2, none⟩)]) (by simp [results, Tryd.results49, go_sem]) rfl ⟨rfl, ((Below.refl _ _).alloc (Nat.le_refl _) _).drew⟩
set_option maxHeartbeats 1000000 in
theorem numbers_any (g : Nat) (w : World) :
    Calls Tryd.prog 50 #[.pointer (some ⟨g, 0, none⟩)] w fun e w' => e = .returned (.agg #[.pointer (some ⟨g, 3, none⟩), .pointer (some ⟨g, 4, none⟩), .pointer (some ⟨g, 5, none⟩), .pointer (some ⟨g, 6, none⟩), .pointer (some ⟨g, 7, none⟩), .pointer (some ⟨g, 8, none⟩), .pointer (some ⟨g, 9, none⟩), .pointer (some ⟨g, 10, none⟩)]) ∧ Below w.heap.size w w' := by
  go_enter Tryd.func50, Tryd.ntmps50
  go_wp2
  go_region
  go_wp2
  exact bodyPost_ret (v := .agg #[.pointer (some ⟨g, 3, none⟩), .pointer (some ⟨g, 4, none⟩), .pointer (some ⟨g, 5, none⟩), .pointer (some ⟨g, 6, none⟩), .pointer (some ⟨g, 7, none⟩), .pointer (some ⟨g, 8, none⟩), .pointer (some ⟨g, 9, none⟩), .pointer (some ⟨g, 10, none⟩)]) (by simp [results, Tryd.results50, go_sem]) rfl ⟨rfl, ((Below.refl _ _).alloc (Nat.le_refl _) _).drew⟩
end Go.Proofs.YtpbjjmenkoigjaaDoor
end

section
namespace Go.Proofs.YtpbjjmenkoigjaaDoor
open Go.RowKit
/-- May a header be? -/
def headB (k f o v p c cl se rq a b : Int) : Bool := decide ((0 ≤ k ∧ k ≤ 255) ∧ (0 ≤ f ∧ f ≤ 255) ∧ (0 ≤ o ∧ o ≤ 255) ∧ (0 ≤ v ∧ v ≤ 72057594037927935) ∧ (0 ≤ p ∧ p ≤ 72057594037927935) ∧ (0 ≤ c ∧ c ≤ 72057594037927935) ∧ (0 ≤ cl ∧ cl ≤ 72057594037927935) ∧ (0 ≤ se ∧ se ≤ 72057594037927935) ∧ (0 ≤ rq ∧ rq ≤ 72057594037927935) ∧ (0 ≤ a ∧ a ≤ 72057594037927935) ∧ (0 ≤ b ∧ b ≤ 72057594037927935))
theorem headB_no (k f o v p c cl se rq a b : Int) (h : ¬ ((0 ≤ k ∧ k ≤ 255) ∧ (0 ≤ f ∧ f ≤ 255) ∧ (0 ≤ o ∧ o ≤ 255) ∧ (0 ≤ v ∧ v ≤ 72057594037927935) ∧ (0 ≤ p ∧ p ≤ 72057594037927935) ∧ (0 ≤ c ∧ c ≤ 72057594037927935) ∧ (0 ≤ cl ∧ cl ≤ 72057594037927935) ∧ (0 ≤ se ∧ se ≤ 72057594037927935) ∧ (0 ≤ rq ∧ rq ≤ 72057594037927935) ∧ (0 ≤ a ∧ a ≤ 72057594037927935) ∧ (0 ≤ b ∧ b ≤ 72057594037927935))) : headB k f o v p c cl se rq a b = false := decide_eq_false h
theorem headB_yes (k f o v p c cl se rq a b : Int) (h : (0 ≤ k ∧ k ≤ 255) ∧ (0 ≤ f ∧ f ≤ 255) ∧ (0 ≤ o ∧ o ≤ 255) ∧ (0 ≤ v ∧ v ≤ 72057594037927935) ∧ (0 ≤ p ∧ p ≤ 72057594037927935) ∧ (0 ≤ c ∧ c ≤ 72057594037927935) ∧ (0 ≤ cl ∧ cl ≤ 72057594037927935) ∧ (0 ≤ se ∧ se ≤ 72057594037927935) ∧ (0 ≤ rq ∧ rq ≤ 72057594037927935) ∧ (0 ≤ a ∧ a ≤ 72057594037927935) ∧ (0 ≤ b ∧ b ≤ 72057594037927935)) : headB k f o v p c cl se rq a b = true := decide_eq_true h
set_option maxRecDepth 100000 in
set_option maxHeartbeats 8000000 in
theorem right_any (k f o v p c cl se rq a b : Int) (par : Int) (w : World) :
    Calls Tryd.prog 36 #[.agg #[.int .i64 k, .int .i64 f, .int .i64 o, .int .i64 v, .int .i64 p, .int .i64 c, .int .i64 cl, .int .i64 se, .int .i64 rq, .int .i64 a, .int .i64 b, .int .u64 par]] w fun e w' => e = .returned (.bool (headB k f o v p c cl se rq a b)) ∧ Below w.heap.size w w' := by
  have HNO := Lib.hid (headB_no k f o v p c cl se rq a b)
  have HYES := Lib.hid (headB_yes k f o v p c cl se rq a b)
  go_enter Tryd.func36, Tryd.ntmps36
  go_wp2_with fail
  have hb0 : Below w.heap.size w (w.alloc (.cells #[.int .i64 k, .int .i64 f, .int .i64 o, .int .i64 v, .int .i64 p, .int .i64 c, .int .i64 cl, .int .i64 se, .int .i64 rq, .int .i64 a, .int .i64 b, .int .u64 par] 75)) := (Below.refl _ _).alloc (Nat.le_refl _) _
  have hcc := fun i => cell_of_row (w.alloc (.cells #[.int .i64 k, .int .i64 f, .int .i64 o, .int .i64 v, .int .i64 p, .int .i64 c, .int .i64 cl, .int .i64 se, .int .i64 rq, .int .i64 a, .int .i64 b, .int .u64 par] 75)) w.heap.size i _ _ _ (heap_alloc_new w _)
  have hs0 : (w.alloc (.cells #[.int .i64 k, .int .i64 f, .int .i64 o, .int .i64 v, .int .i64 p, .int .i64 c, .int .i64 cl, .int .i64 se, .int .i64 rq, .int .i64 a, .int .i64 b, .int .u64 par] 75)).heap.size = w.heap.size + 1 := by simp
  refine (small_any _ _).mono ?_
  generalize w.alloc (.cells #[.int .i64 k, .int .i64 f, .int .i64 o, .int .i64 v, .int .i64 p, .int .i64 c, .int .i64 cl, .int .i64 se, .int .i64 rq, .int .i64 a, .int .i64 b, .int .u64 par] 75) = w0 at *
  rintro e w1 ⟨rfl, hb1⟩
  rw [hs0] at hb1
  have hb01 := hb0.trans (hb1.mono (by omega))
  have c0 : w1.cell? ⟨w.heap.size, 0, none⟩ = some (.int .i64 k) := (hb1.cell (p := ⟨w.heap.size, 0, none⟩) (by simp)).trans ((hcc 0).trans rfl)
  have c1 : w1.cell? ⟨w.heap.size, 1, none⟩ = some (.int .i64 f) := (hb1.cell (p := ⟨w.heap.size, 1, none⟩) (by simp)).trans ((hcc 1).trans rfl)
  have c2 : w1.cell? ⟨w.heap.size, 2, none⟩ = some (.int .i64 o) := (hb1.cell (p := ⟨w.heap.size, 2, none⟩) (by simp)).trans ((hcc 2).trans rfl)
  have c3 : w1.cell? ⟨w.heap.size, 3, none⟩ = some (.int .i64 v) := (hb1.cell (p := ⟨w.heap.size, 3, none⟩) (by simp)).trans ((hcc 3).trans rfl)
  have c4 : w1.cell? ⟨w.heap.size, 4, none⟩ = some (.int .i64 p) := (hb1.cell (p := ⟨w.heap.size, 4, none⟩) (by simp)).trans ((hcc 4).trans rfl)
  have c5 : w1.cell? ⟨w.heap.size, 5, none⟩ = some (.int .i64 c) := (hb1.cell (p := ⟨w.heap.size, 5, none⟩) (by simp)).trans ((hcc 5).trans rfl)
  have c6 : w1.cell? ⟨w.heap.size, 6, none⟩ = some (.int .i64 cl) := (hb1.cell (p := ⟨w.heap.size, 6, none⟩) (by simp)).trans ((hcc 6).trans rfl)
  have c7 : w1.cell? ⟨w.heap.size, 7, none⟩ = some (.int .i64 se) := (hb1.cell (p := ⟨w.heap.size, 7, none⟩) (by simp)).trans ((hcc 7).trans rfl)
  have c8 : w1.cell? ⟨w.heap.size, 8, none⟩ = some (.int .i64 rq) := (hb1.cell (p := ⟨w.heap.size, 8, none⟩) (by simp)).trans ((hcc 8).trans rfl)
  have c9 : w1.cell? ⟨w.heap.size, 9, none⟩ = some (.int .i64 a) := (hb1.cell (p := ⟨w.heap.size, 9, none⟩) (by simp)).trans ((hcc 9).trans rfl)
  have c10 : w1.cell? ⟨w.heap.size, 10, none⟩ = some (.int .i64 b) := (hb1.cell (p := ⟨w.heap.size, 10, none⟩) (by simp)).trans ((hcc 10).trans rfl)
  have HS0 := Lib.hid hs0
  have HB1 := Lib.hid hb1
  have HCC := Lib.hid hcc
  clear hs0 hcc hb1 hb0
  go_wp2_with fail
  go_loop [8] (fun i => ∃ n : Nat, n ≤ 3 ∧ i = .int .i64 n ∧ Hid ((0 < n → 0 ≤ k ∧ k ≤ 255) ∧ (1 < n → 0 ≤ f ∧ f ≤ 255) ∧ (2 < n → 0 ≤ o ∧ o ≤ 255))) (fun i => 3 - (intOf i).toNat)
  case atStart => exact ⟨0, by omega, rfl, by show (0 < 0 → 0 ≤ k ∧ k ≤ 255) ∧ (1 < 0 → 0 ≤ f ∧ f ≤ 255) ∧ (2 < 0 → 0 ≤ o ∧ o ≤ 255); omega⟩
  case round =>
    obtain ⟨n, hn, rfl, HP⟩ := hrel
    rcases (show n = 0 ∨ n = 1 ∨ n = 2 ∨ n = 3 from by omega) with rfl | rfl | rfl | rfl
    · have ik : ∀ w2, (Instr.index 84 (.agg #[.pointer (some ⟨w.heap.size, 0, none⟩), .pointer (some ⟨w.heap.size, 1, none⟩), .pointer (some ⟨w.heap.size, 2, none⟩)]) (.int .i64 0)).run Tryd.prog w2 = .ok (.pointer (some ⟨w.heap.size, 0, none⟩)) w2 := fun _ => by kernel_rfl
      by_cases hlo : k < 0
      · have HF := Lib.hid (HNO.out (by omega))
        go_wp2_with fail
        go_ret
        exact ⟨ret_bool HF.out.symm, hb01⟩
      · by_cases hhi : 255 < k
        · have HF := Lib.hid (HNO.out (by omega))
          go_wp2_with fail
          go_ret
          exact ⟨ret_bool HF.out.symm, hb01⟩
        · have HQ : Hid ((0 < 1 → 0 ≤ k ∧ k ≤ 255) ∧ (1 < 1 → 0 ≤ f ∧ f ≤ 255) ∧ (2 < 1 → 0 ≤ o ∧ o ≤ 255)) := by have := HP.out; show (0 < 1 → 0 ≤ k ∧ k ≤ 255) ∧ (1 < 1 → 0 ≤ f ∧ f ≤ 255) ∧ (2 < 1 → 0 ≤ o ∧ o ≤ 255); omega
          go_wp2_with fail
          go_round
          case rel => exact ⟨1, by omega, by go_num, HQ.out⟩
          case measure => simp [intOf]
    · have ik : ∀ w2, (Instr.index 84 (.agg #[.pointer (some ⟨w.heap.size, 0, none⟩), .pointer (some ⟨w.heap.size, 1, none⟩), .pointer (some ⟨w.heap.size, 2, none⟩)]) (.int .i64 1)).run Tryd.prog w2 = .ok (.pointer (some ⟨w.heap.size, 1, none⟩)) w2 := fun _ => by kernel_rfl
      by_cases hlo : f < 0
      · have HF := Lib.hid (HNO.out (by omega))
        go_wp2_with fail
        go_ret
        exact ⟨ret_bool HF.out.symm, hb01⟩
      · by_cases hhi : 255 < f
        · have HF := Lib.hid (HNO.out (by omega))
          go_wp2_with fail
          go_ret
          exact ⟨ret_bool HF.out.symm, hb01⟩
        · have HQ : Hid ((0 < 2 → 0 ≤ k ∧ k ≤ 255) ∧ (1 < 2 → 0 ≤ f ∧ f ≤ 255) ∧ (2 < 2 → 0 ≤ o ∧ o ≤ 255)) := by have := HP.out; show (0 < 2 → 0 ≤ k ∧ k ≤ 255) ∧ (1 < 2 → 0 ≤ f ∧ f ≤ 255) ∧ (2 < 2 → 0 ≤ o ∧ o ≤ 255); omega
          go_wp2_with fail
          go_round
          case rel => exact ⟨2, by omega, by go_num, HQ.out⟩
          case measure => simp [intOf]
    · have ik : ∀ w2, (Instr.index 84 (.agg #[.pointer (some ⟨w.heap.size, 0, none⟩), .pointer (some ⟨w.heap.size, 1, none⟩), .pointer (some ⟨w.heap.size, 2, none⟩)]) (.int .i64 2)).run Tryd.prog w2 = .ok (.pointer (some ⟨w.heap.size, 2, none⟩)) w2 := fun _ => by kernel_rfl
      by_cases hlo : o < 0
      · have HF := Lib.hid (HNO.out (by omega))
        go_wp2_with fail
        go_ret
        exact ⟨ret_bool HF.out.symm, hb01⟩
      · by_cases hhi : 255 < o
        · have HF := Lib.hid (HNO.out (by omega))
          go_wp2_with fail
          go_ret
          exact ⟨ret_bool HF.out.symm, hb01⟩
        · have HQ : Hid ((0 < 3 → 0 ≤ k ∧ k ≤ 255) ∧ (1 < 3 → 0 ≤ f ∧ f ≤ 255) ∧ (2 < 3 → 0 ≤ o ∧ o ≤ 255)) := by have := HP.out; show (0 < 3 → 0 ≤ k ∧ k ≤ 255) ∧ (1 < 3 → 0 ≤ f ∧ f ≤ 255) ∧ (2 < 3 → 0 ≤ o ∧ o ≤ 255); omega
          go_wp2_with fail
          go_round
          case rel => exact ⟨3, by omega, by go_num, HQ.out⟩
          case measure => simp [intOf]
    · have HS := Lib.hid HP.out
      clear HP
      go_wp2_with fail
      refine (numbers_any _ _).mono ?_
      rintro e w2 ⟨rfl, hb2⟩
      have hz1 := HB1.out.size
      rw [HS0.out] at hz1
      have d0 : w2.cell? ⟨w.heap.size, 0, none⟩ = some (.int .i64 k) := (hb2.cell (p := ⟨w.heap.size, 0, none⟩) (by show w.heap.size < w1.heap.size; omega)).trans c0
      have d1 : w2.cell? ⟨w.heap.size, 1, none⟩ = some (.int .i64 f) := (hb2.cell (p := ⟨w.heap.size, 1, none⟩) (by show w.heap.size < w1.heap.size; omega)).trans c1
      have d2 : w2.cell? ⟨w.heap.size, 2, none⟩ = some (.int .i64 o) := (hb2.cell (p := ⟨w.heap.size, 2, none⟩) (by show w.heap.size < w1.heap.size; omega)).trans c2
      have d3 : w2.cell? ⟨w.heap.size, 3, none⟩ = some (.int .i64 v) := (hb2.cell (p := ⟨w.heap.size, 3, none⟩) (by show w.heap.size < w1.heap.size; omega)).trans c3
      have d4 : w2.cell? ⟨w.heap.size, 4, none⟩ = some (.int .i64 p) := (hb2.cell (p := ⟨w.heap.size, 4, none⟩) (by show w.heap.size < w1.heap.size; omega)).trans c4
      have d5 : w2.cell? ⟨w.heap.size, 5, none⟩ = some (.int .i64 c) := (hb2.cell (p := ⟨w.heap.size, 5, none⟩) (by show w.heap.size < w1.heap.size; omega)).trans c5
      have d6 : w2.cell? ⟨w.heap.size, 6, none⟩ = some (.int .i64 cl) := (hb2.cell (p := ⟨w.heap.size, 6, none⟩) (by show w.heap.size < w1.heap.size; omega)).trans c6
      have d7 : w2.cell? ⟨w.heap.size, 7, none⟩ = some (.int .i64 se) := (hb2.cell (p := ⟨w.heap.size, 7, none⟩) (by show w.heap.size < w1.heap.size; omega)).trans c7
      have d8 : w2.cell? ⟨w.heap.size, 8, none⟩ = some (.int .i64 rq) := (hb2.cell (p := ⟨w.heap.size, 8, none⟩) (by show w.heap.size < w1.heap.size; omega)).trans c8
      have d9 : w2.cell? ⟨w.heap.size, 9, none⟩ = some (.int .i64 a) := (hb2.cell (p := ⟨w.heap.size, 9, none⟩) (by show w.heap.size < w1.heap.size; omega)).trans c9
      have d10 : w2.cell? ⟨w.heap.size, 10, none⟩ = some (.int .i64 b) := (hb2.cell (p := ⟨w.heap.size, 10, none⟩) (by show w.heap.size < w1.heap.size; omega)).trans c10
      clear c0 c1 c2 c3 c4 c5 c6 c7 c8 c9 c10
      go_wp2_with fail
      go_loop [23] (fun i => ∃ n : Nat, n ≤ 8 ∧ i = .int .i64 n ∧ Hid ((0 < n → 0 ≤ v ∧ v ≤ 72057594037927935) ∧ (1 < n → 0 ≤ p ∧ p ≤ 72057594037927935) ∧ (2 < n → 0 ≤ c ∧ c ≤ 72057594037927935) ∧ (3 < n → 0 ≤ cl ∧ cl ≤ 72057594037927935) ∧ (4 < n → 0 ≤ se ∧ se ≤ 72057594037927935) ∧ (5 < n → 0 ≤ rq ∧ rq ≤ 72057594037927935) ∧ (6 < n → 0 ≤ a ∧ a ≤ 72057594037927935) ∧ (7 < n → 0 ≤ b ∧ b ≤ 72057594037927935))) (fun i => 8 - (intOf i).toNat)
      case atStart => exact ⟨0, by omega, rfl, by show (0 < 0 → 0 ≤ v ∧ v ≤ 72057594037927935) ∧ (1 < 0 → 0 ≤ p ∧ p ≤ 72057594037927935) ∧ (2 < 0 → 0 ≤ c ∧ c ≤ 72057594037927935) ∧ (3 < 0 → 0 ≤ cl ∧ cl ≤ 72057594037927935) ∧ (4 < 0 → 0 ≤ se ∧ se ≤ 72057594037927935) ∧ (5 < 0 → 0 ≤ rq ∧ rq ≤ 72057594037927935) ∧ (6 < 0 → 0 ≤ a ∧ a ≤ 72057594037927935) ∧ (7 < 0 → 0 ≤ b ∧ b ≤ 72057594037927935); omega⟩
      case round =>
        obtain ⟨n, hn, rfl, HP⟩ := hrel
        rcases (show n = 0 ∨ n = 1 ∨ n = 2 ∨ n = 3 ∨ n = 4 ∨ n = 5 ∨ n = 6 ∨ n = 7 ∨ n = 8 from by omega) with rfl | rfl | rfl | rfl | rfl | rfl | rfl | rfl | rfl
        · have ik : ∀ w2, (Instr.index 87 (.agg #[.pointer (some ⟨w.heap.size, 3, none⟩), .pointer (some ⟨w.heap.size, 4, none⟩), .pointer (some ⟨w.heap.size, 5, none⟩), .pointer (some ⟨w.heap.size, 6, none⟩), .pointer (some ⟨w.heap.size, 7, none⟩), .pointer (some ⟨w.heap.size, 8, none⟩), .pointer (some ⟨w.heap.size, 9, none⟩), .pointer (some ⟨w.heap.size, 10, none⟩)]) (.int .i64 0)).run Tryd.prog w2 = .ok (.pointer (some ⟨w.heap.size, 3, none⟩)) w2 := fun _ => by kernel_rfl
          by_cases hlo : v < 0
          · have HF := Lib.hid (HNO.out (by omega))
            go_wp2_with fail
            go_ret
            exact ⟨ret_bool HF.out.symm, hb01.trans (hb2.mono hb01.size)⟩
          · by_cases hhi : 72057594037927935 < v
            · have HF := Lib.hid (HNO.out (by omega))
              go_wp2_with fail
              go_ret
              exact ⟨ret_bool HF.out.symm, hb01.trans (hb2.mono hb01.size)⟩
            · have HQ : Hid ((0 < 1 → 0 ≤ v ∧ v ≤ 72057594037927935) ∧ (1 < 1 → 0 ≤ p ∧ p ≤ 72057594037927935) ∧ (2 < 1 → 0 ≤ c ∧ c ≤ 72057594037927935) ∧ (3 < 1 → 0 ≤ cl ∧ cl ≤ 72057594037927935) ∧ (4 < 1 → 0 ≤ se ∧ se ≤ 72057594037927935) ∧ (5 < 1 → 0 ≤ rq ∧ rq ≤ 72057594037927935) ∧ (6 < 1 → 0 ≤ a ∧ a ≤ 72057594037927935) ∧ (7 < 1 → 0 ≤ b ∧ b ≤ 72057594037927935)) := by have := HP.out; show (0 < 1 → 0 ≤ v ∧ v ≤ 72057594037927935) ∧ (1 < 1 → 0 ≤ p ∧ p ≤ 72057594037927935) ∧ (2 < 1 → 0 ≤ c ∧ c ≤ 72057594037927935) ∧ (3 < 1 → 0 ≤ cl ∧ cl ≤ 72057594037927935) ∧ (4 < 1 → 0 ≤ se ∧ se ≤ 72057594037927935) ∧ (5 < 1 → 0 ≤ rq ∧ rq ≤ 72057594037927935) ∧ (6 < 1 → 0 ≤ a ∧ a ≤ 72057594037927935) ∧ (7 < 1 → 0 ≤ b ∧ b ≤ 72057594037927935); omega
              go_wp2_with fail
              go_round
              case rel => exact ⟨1, by omega, by go_num, HQ.out⟩
              case measure => simp [intOf]
        · have ik : ∀ w2, (Instr.index 87 (.agg #[.pointer (some ⟨w.heap.size, 3, none⟩), .pointer (some ⟨w.heap.size, 4, none⟩), .pointer (some ⟨w.heap.size, 5, none⟩), .pointer (some ⟨w.heap.size, 6, none⟩), .pointer (some ⟨w.heap.size, 7, none⟩), .pointer (some ⟨w.heap.size, 8, none⟩), .pointer (some ⟨w.heap.size, 9, none⟩), .pointer (some ⟨w.heap.size, 10, none⟩)]) (.int .i64 1)).run Tryd.prog w2 = .ok (.pointer (some ⟨w.heap.size, 4, none⟩)) w2 := fun _ => by kernel_rfl
          by_cases hlo : p < 0
          · have HF := Lib.hid (HNO.out (by omega))
            go_wp2_with fail
            go_ret
            exact ⟨ret_bool HF.out.symm, hb01.trans (hb2.mono hb01.size)⟩
          · by_cases hhi : 72057594037927935 < p
            · have HF := Lib.hid (HNO.out (by omega))
              go_wp2_with fail
              go_ret
              exact ⟨ret_bool HF.out.symm, hb01.trans (hb2.mono hb01.size)⟩
            · have HQ : Hid ((0 < 2 → 0 ≤ v ∧ v ≤ 72057594037927935) ∧ (1 < 2 → 0 ≤ p ∧ p ≤ 72057594037927935) ∧ (2 < 2 → 0 ≤ c ∧ c ≤ 72057594037927935) ∧ (3 < 2 → 0 ≤ cl ∧ cl ≤ 72057594037927935) ∧ (4 < 2 → 0 ≤ se ∧ se ≤ 72057594037927935) ∧ (5 < 2 → 0 ≤ rq ∧ rq ≤ 72057594037927935) ∧ (6 < 2 → 0 ≤ a ∧ a ≤ 72057594037927935) ∧ (7 < 2 → 0 ≤ b ∧ b ≤ 72057594037927935)) := by have := HP.out; show (0 < 2 → 0 ≤ v ∧ v ≤ 72057594037927935) ∧ (1 < 2 → 0 ≤ p ∧ p ≤ 72057594037927935) ∧ (2 < 2 → 0 ≤ c ∧ c ≤ 72057594037927935) ∧ (3 < 2 → 0 ≤ cl ∧ cl ≤ 72057594037927935) ∧ (4 < 2 → 0 ≤ se ∧ se ≤ 72057594037927935) ∧ (5 < 2 → 0 ≤ rq ∧ rq ≤ 72057594037927935) ∧ (6 < 2 → 0 ≤ a ∧ a ≤ 72057594037927935) ∧ (7 < 2 → 0 ≤ b ∧ b ≤ 72057594037927935); omega
              go_wp2_with fail
              go_round
              case rel => exact ⟨2, by omega, by go_num, HQ.out⟩
              case measure => simp [intOf]
        · have ik : ∀ w2, (Instr.index 87 (.agg #[.pointer (some ⟨w.heap.size, 3, none⟩), .pointer (some ⟨w.heap.size, 4, none⟩), .pointer (some ⟨w.heap.size, 5, none⟩), .pointer (some ⟨w.heap.size, 6, none⟩), .pointer (some ⟨w.heap.size, 7, none⟩), .pointer (some ⟨w.heap.size, 8, none⟩), .pointer (some ⟨w.heap.size, 9, none⟩), .pointer (some ⟨w.heap.size, 10, none⟩)]) (.int .i64 2)).run Tryd.prog w2 = .ok (.pointer (some ⟨w.heap.size, 5, none⟩)) w2 := fun _ => by kernel_rfl
          by_cases hlo : c < 0
          · have HF := Lib.hid (HNO.out (by omega))
            go_wp2_with fail
            go_ret
            exact ⟨ret_bool HF.out.symm, hb01.trans (hb2.mono hb01.size)⟩
          · by_cases hhi : 72057594037927935 < c
            · have HF := Lib.hid (HNO.out (by omega))
              go_wp2_with fail
              go_ret
              exact ⟨ret_bool HF.out.symm, hb01.trans (hb2.mono hb01.size)⟩
            · have HQ : Hid ((0 < 3 → 0 ≤ v ∧ v ≤ 72057594037927935) ∧ (1 < 3 → 0 ≤ p ∧ p ≤ 72057594037927935) ∧ (2 < 3 → 0 ≤ c ∧ c ≤ 72057594037927935) ∧ (3 < 3 → 0 ≤ cl ∧ cl ≤ 72057594037927935) ∧ (4 < 3 → 0 ≤ se ∧ se ≤ 72057594037927935) ∧ (5 < 3 → 0 ≤ rq ∧ rq ≤ 72057594037927935) ∧ (6 < 3 → 0 ≤ a ∧ a ≤ 72057594037927935) ∧ (7 < 3 → 0 ≤ b ∧ b ≤ 72057594037927935)) := by have := HP.out; show (0 < 3 → 0 ≤ v ∧ v ≤ 72057594037927935) ∧ (1 < 3 → 0 ≤ p ∧ p ≤ 72057594037927935) ∧ (2 < 3 → 0 ≤ c ∧ c ≤ 72057594037927935) ∧ (3 < 3 → 0 ≤ cl ∧ cl ≤ 72057594037927935) ∧ (4 < 3 → 0 ≤ se ∧ se ≤ 72057594037927935) ∧ (5 < 3 → 0 ≤ rq ∧ rq ≤ 72057594037927935) ∧ (6 < 3 → 0 ≤ a ∧ a ≤ 72057594037927935) ∧ (7 < 3 → 0 ≤ b ∧ b ≤ 72057594037927935); omega
              go_wp2_with fail
              go_round
              case rel => exact ⟨3, by omega, by go_num, HQ.out⟩
              case measure => simp [intOf]
        · have ik : ∀ w2, (Instr.index 87 (.agg #[.pointer (some ⟨w.heap.size, 3, none⟩), .pointer (some ⟨w.heap.size, 4, none⟩), .pointer (some ⟨w.heap.size, 5, none⟩), .pointer (some ⟨w.heap.size, 6, none⟩), .pointer (some ⟨w.heap.size, 7, none⟩), .pointer (some ⟨w.heap.size, 8, none⟩), .pointer (some ⟨w.heap.size, 9, none⟩), .pointer (some ⟨w.heap.size, 10, none⟩)]) (.int .i64 3)).run Tryd.prog w2 = .ok (.pointer (some ⟨w.heap.size, 6, none⟩)) w2 := fun _ => by kernel_rfl
          by_cases hlo : cl < 0
          · have HF := Lib.hid (HNO.out (by omega))
            go_wp2_with fail
            go_ret
            exact ⟨ret_bool HF.out.symm, hb01.trans (hb2.mono hb01.size)⟩
          · by_cases hhi : 72057594037927935 < cl
            · have HF := Lib.hid (HNO.out (by omega))
              go_wp2_with fail
              go_ret
              exact ⟨ret_bool HF.out.symm, hb01.trans (hb2.mono hb01.size)⟩
            · have HQ : Hid ((0 < 4 → 0 ≤ v ∧ v ≤ 72057594037927935) ∧ (1 < 4 → 0 ≤ p ∧ p ≤ 72057594037927935) ∧ (2 < 4 → 0 ≤ c ∧ c ≤ 72057594037927935) ∧ (3 < 4 → 0 ≤ cl ∧ cl ≤ 72057594037927935) ∧ (4 < 4 → 0 ≤ se ∧ se ≤ 72057594037927935) ∧ (5 < 4 → 0 ≤ rq ∧ rq ≤ 72057594037927935) ∧ (6 < 4 → 0 ≤ a ∧ a ≤ 72057594037927935) ∧ (7 < 4 → 0 ≤ b ∧ b ≤ 72057594037927935)) := by have := HP.out; show (0 < 4 → 0 ≤ v ∧ v ≤ 72057594037927935) ∧ (1 < 4 → 0 ≤ p ∧ p ≤ 72057594037927935) ∧ (2 < 4 → 0 ≤ c ∧ c ≤ 72057594037927935) ∧ (3 < 4 → 0 ≤ cl ∧ cl ≤ 72057594037927935) ∧ (4 < 4 → 0 ≤ se ∧ se ≤ 72057594037927935) ∧ (5 < 4 → 0 ≤ rq ∧ rq ≤ 72057594037927935) ∧ (6 < 4 → 0 ≤ a ∧ a ≤ 72057594037927935) ∧ (7 < 4 → 0 ≤ b ∧ b ≤ 72057594037927935); omega
              go_wp2_with fail
              go_round
              case rel => exact ⟨4, by omega, by go_num, HQ.out⟩
              case measure => simp [intOf]
        · have ik : ∀ w2, (Instr.index 87 (.agg #[.pointer (some ⟨w.heap.size, 3, none⟩), .pointer (some ⟨w.heap.size, 4, none⟩), .pointer (some ⟨w.heap.size, 5, none⟩), .pointer (some ⟨w.heap.size, 6, none⟩), .pointer (some ⟨w.heap.size, 7, none⟩), .pointer (some ⟨w.heap.size, 8, none⟩), .pointer (some ⟨w.heap.size, 9, none⟩), .pointer (some ⟨w.heap.size, 10, none⟩)]) (.int .i64 4)).run Tryd.prog w2 = .ok (.pointer (some ⟨w.heap.size, 7, none⟩)) w2 := fun _ => by kernel_rfl
          by_cases hlo : se < 0
          · have HF := Lib.hid (HNO.out (by omega))
            go_wp2_with fail
            go_ret
            exact ⟨ret_bool HF.out.symm, hb01.trans (hb2.mono hb01.size)⟩
          · by_cases hhi : 72057594037927935 < se
            · have HF := Lib.hid (HNO.out (by omega))
              go_wp2_with fail
              go_ret
              exact ⟨ret_bool HF.out.symm, hb01.trans (hb2.mono hb01.size)⟩
            · have HQ : Hid ((0 < 5 → 0 ≤ v ∧ v ≤ 72057594037927935) ∧ (1 < 5 → 0 ≤ p ∧ p ≤ 72057594037927935) ∧ (2 < 5 → 0 ≤ c ∧ c ≤ 72057594037927935) ∧ (3 < 5 → 0 ≤ cl ∧ cl ≤ 72057594037927935) ∧ (4 < 5 → 0 ≤ se ∧ se ≤ 72057594037927935) ∧ (5 < 5 → 0 ≤ rq ∧ rq ≤ 72057594037927935) ∧ (6 < 5 → 0 ≤ a ∧ a ≤ 72057594037927935) ∧ (7 < 5 → 0 ≤ b ∧ b ≤ 72057594037927935)) := by have := HP.out; show (0 < 5 → 0 ≤ v ∧ v ≤ 72057594037927935) ∧ (1 < 5 → 0 ≤ p ∧ p ≤ 72057594037927935) ∧ (2 < 5 → 0 ≤ c ∧ c ≤ 72057594037927935) ∧ (3 < 5 → 0 ≤ cl ∧ cl ≤ 72057594037927935) ∧ (4 < 5 → 0 ≤ se ∧ se ≤ 72057594037927935) ∧ (5 < 5 → 0 ≤ rq ∧ rq ≤ 72057594037927935) ∧ (6 < 5 → 0 ≤ a ∧ a ≤ 72057594037927935) ∧ (7 < 5 → 0 ≤ b ∧ b ≤ 72057594037927935); omega
              go_wp2_with fail
              go_round
              case rel => exact ⟨5, by omega, by go_num, HQ.out⟩
              case measure => simp [intOf]
        · have ik : ∀ w2, (Instr.index 87 (.agg #[.pointer (some ⟨w.heap.size, 3, none⟩), .pointer (some ⟨w.heap.size, 4, none⟩), .pointer (some ⟨w.heap.size, 5, none⟩), .pointer (some ⟨w.heap.size, 6, none⟩), .pointer (some ⟨w.heap.size, 7, none⟩), .pointer (some ⟨w.heap.size, 8, none⟩), .pointer (some ⟨w.heap.size, 9, none⟩), .pointer (some ⟨w.heap.size, 10, none⟩)]) (.int .i64 5)).run Tryd.prog w2 = .ok (.pointer (some ⟨w.heap.size, 8, none⟩)) w2 := fun _ => by kernel_rfl
          by_cases hlo : rq < 0
          · have HF := Lib.hid (HNO.out (by omega))
            go_wp2_with fail
            go_ret
            exact ⟨ret_bool HF.out.symm, hb01.trans (hb2.mono hb01.size)⟩
          · by_cases hhi : 72057594037927935 < rq
            · have HF := Lib.hid (HNO.out (by omega))
              go_wp2_with fail
              go_ret
              exact ⟨ret_bool HF.out.symm, hb01.trans (hb2.mono hb01.size)⟩
            · have HQ : Hid ((0 < 6 → 0 ≤ v ∧ v ≤ 72057594037927935) ∧ (1 < 6 → 0 ≤ p ∧ p ≤ 72057594037927935) ∧ (2 < 6 → 0 ≤ c ∧ c ≤ 72057594037927935) ∧ (3 < 6 → 0 ≤ cl ∧ cl ≤ 72057594037927935) ∧ (4 < 6 → 0 ≤ se ∧ se ≤ 72057594037927935) ∧ (5 < 6 → 0 ≤ rq ∧ rq ≤ 72057594037927935) ∧ (6 < 6 → 0 ≤ a ∧ a ≤ 72057594037927935) ∧ (7 < 6 → 0 ≤ b ∧ b ≤ 72057594037927935)) := by have := HP.out; show (0 < 6 → 0 ≤ v ∧ v ≤ 72057594037927935) ∧ (1 < 6 → 0 ≤ p ∧ p ≤ 72057594037927935) ∧ (2 < 6 → 0 ≤ c ∧ c ≤ 72057594037927935) ∧ (3 < 6 → 0 ≤ cl ∧ cl ≤ 72057594037927935) ∧ (4 < 6 → 0 ≤ se ∧ se ≤ 72057594037927935) ∧ (5 < 6 → 0 ≤ rq ∧ rq ≤ 72057594037927935) ∧ (6 < 6 → 0 ≤ a ∧ a ≤ 72057594037927935) ∧ (7 < 6 → 0 ≤ b ∧ b ≤ 72057594037927935); omega
              go_wp2_with fail
              go_round
              case rel => exact ⟨6, by omega, by go_num, HQ.out⟩
              case measure => simp [intOf]
        · have ik : ∀ w2, (Instr.index 87 (.agg #[.pointer (some ⟨w.heap.size, 3, none⟩), .pointer (some ⟨w.heap.size, 4, none⟩), .pointer (some ⟨w.heap.size, 5, none⟩), .pointer (some ⟨w.heap.size, 6, none⟩), .pointer (some ⟨w.heap.size, 7, none⟩), .pointer (some ⟨w.heap.size, 8, none⟩), .pointer (some ⟨w.heap.size, 9, none⟩), .pointer (some ⟨w.heap.size, 10, none⟩)]) (.int .i64 6)).run Tryd.prog w2 = .ok (.pointer (some ⟨w.heap.size, 9, none⟩)) w2 := fun _ => by kernel_rfl
          by_cases hlo : a < 0
          · have HF := Lib.hid (HNO.out (by omega))
            go_wp2_with fail
            go_ret
            exact ⟨ret_bool HF.out.symm, hb01.trans (hb2.mono hb01.size)⟩
          · by_cases hhi : 72057594037927935 < a
            · have HF := Lib.hid (HNO.out (by omega))
              go_wp2_with fail
              go_ret
              exact ⟨ret_bool HF.out.symm, hb01.trans (hb2.mono hb01.size)⟩
            · have HQ : Hid ((0 < 7 → 0 ≤ v ∧ v ≤ 72057594037927935) ∧ (1 < 7 → 0 ≤ p ∧ p ≤ 72057594037927935) ∧ (2 < 7 → 0 ≤ c ∧ c ≤ 72057594037927935) ∧ (3 < 7 → 0 ≤ cl ∧ cl ≤ 72057594037927935) ∧ (4 < 7 → 0 ≤ se ∧ se ≤ 72057594037927935) ∧ (5 < 7 → 0 ≤ rq ∧ rq ≤ 72057594037927935) ∧ (6 < 7 → 0 ≤ a ∧ a ≤ 72057594037927935) ∧ (7 < 7 → 0 ≤ b ∧ b ≤ 72057594037927935)) := by have := HP.out; show (0 < 7 → 0 ≤ v ∧ v ≤ 72057594037927935) ∧ (1 < 7 → 0 ≤ p ∧ p ≤ 72057594037927935) ∧ (2 < 7 → 0 ≤ c ∧ c ≤ 72057594037927935) ∧ (3 < 7 → 0 ≤ cl ∧ cl ≤ 72057594037927935) ∧ (4 < 7 → 0 ≤ se ∧ se ≤ 72057594037927935) ∧ (5 < 7 → 0 ≤ rq ∧ rq ≤ 72057594037927935) ∧ (6 < 7 → 0 ≤ a ∧ a ≤ 72057594037927935) ∧ (7 < 7 → 0 ≤ b ∧ b ≤ 72057594037927935); omega
              go_wp2_with fail
              go_round
              case rel => exact ⟨7, by omega, by go_num, HQ.out⟩
              case measure => simp [intOf]
        · have ik : ∀ w2, (Instr.index 87 (.agg #[.pointer (some ⟨w.heap.size, 3, none⟩), .pointer (some ⟨w.heap.size, 4, none⟩), .pointer (some ⟨w.heap.size, 5, none⟩), .pointer (some ⟨w.heap.size, 6, none⟩), .pointer (some ⟨w.heap.size, 7, none⟩), .pointer (some ⟨w.heap.size, 8, none⟩), .pointer (some ⟨w.heap.size, 9, none⟩), .pointer (some ⟨w.heap.size, 10, none⟩)]) (.int .i64 7)).run Tryd.prog w2 = .ok (.pointer (some ⟨w.heap.size, 10, none⟩)) w2 := fun _ => by kernel_rfl
          by_cases hlo : b < 0
          · have HF := Lib.hid (HNO.out (by omega))
            go_wp2_with fail
            go_ret
            exact ⟨ret_bool HF.out.symm, hb01.trans (hb2.mono hb01.size)⟩
          · by_cases hhi : 72057594037927935 < b
            · have HF := Lib.hid (HNO.out (by omega))
              go_wp2_with fail
              go_ret
              exact ⟨ret_bool HF.out.symm, hb01.trans (hb2.mono hb01.size)⟩
            · have HQ : Hid ((0 < 8 → 0 ≤ v ∧ v ≤ 72057594037927935) ∧ (1 < 8 → 0 ≤ p ∧ p ≤ 72057594037927935) ∧ (2 < 8 → 0 ≤ c ∧ c ≤ 72057594037927935) ∧ (3 < 8 → 0 ≤ cl ∧ cl ≤ 72057594037927935) ∧ (4 < 8 → 0 ≤ se ∧ se ≤ 72057594037927935) ∧ (5 < 8 → 0 ≤ rq ∧ rq ≤ 72057594037927935) ∧ (6 < 8 → 0 ≤ a ∧ a ≤ 72057594037927935) ∧ (7 < 8 → 0 ≤ b ∧ b ≤ 72057594037927935)) := by have := HP.out; show (0 < 8 → 0 ≤ v ∧ v ≤ 72057594037927935) ∧ (1 < 8 → 0 ≤ p ∧ p ≤ 72057594037927935) ∧ (2 < 8 → 0 ≤ c ∧ c ≤ 72057594037927935) ∧ (3 < 8 → 0 ≤ cl ∧ cl ≤ 72057594037927935) ∧ (4 < 8 → 0 ≤ se ∧ se ≤ 72057594037927935) ∧ (5 < 8 → 0 ≤ rq ∧ rq ≤ 72057594037927935) ∧ (6 < 8 → 0 ≤ a ∧ a ≤ 72057594037927935) ∧ (7 < 8 → 0 ≤ b ∧ b ≤ 72057594037927935); omega
              go_wp2_with fail
              go_round
              case rel => exact ⟨8, by omega, by go_num, HQ.out⟩
              case measure => simp [intOf]
        · have HF := Lib.hid (HYES.out (by have h1 := HS.out; have h2 := HP.out; omega))
          go_wp2_with fail
          go_ret
          exact ⟨ret_bool HF.out.symm, hb01.trans (hb2.mono hb01.size)⟩
end Go.Proofs.YtpbjjmenkoigjaaDoor
end

section
namespace Go.Proofs.YtpbjjmenkoigjaaDoor
open Go.RowKit
def packIn (k f o : Nat) (ns : List Nat) (par : Nat) (body : List Nat) : List Nat :=
  leN (Crc.add 0 body) 4 ++ [k, f, o, 0] ++ leN body.length 4 ++ leN par 8 ++ ns.flatMap (leN · 8) ++ List.replicate 40 0
def packL (k f o : Nat) (ns : List Nat) (par : Nat) (body : List Nat) : List Nat := leN (Crc.add 0 (packIn k f o ns par body)) 4 ++ packIn k f o ns par body ++ body
set_option maxRecDepth 100000 in
set_option maxHeartbeats 2000000 in
theorem pack_form (k f o v p c cl se rq a b : Int) (par : Int) (body : ByteArray) (w : World) (h : headB k f o v p c cl se rq a b = false) :
    Calls Tryd.prog 47 #[.agg #[.int .i64 k, .int .i64 f, .int .i64 o, .int .i64 v, .int .i64 p, .int .i64 c, .int .i64 cl, .int .i64 se, .int .i64 rq, .int .i64 a, .int .i64 b, .int .u64 par], .string body] w fun e w' => e = .returned (.tuple #[.string ⟨#[]⟩, .int .i64 4]) ∧ Below w.heap.size w w' := by
  have hr := fun w => right_any k f o v p c cl se rq a b par w
  rw [h] at hr
  have HR := Lib.hid hr
  clear hr h
  have HB0 := Lib.hid ((Below.refl w.heap.size w).alloc (Nat.le_refl _) (.cells #[.int .i64 k, .int .i64 f, .int .i64 o, .int .i64 v, .int .i64 p, .int .i64 c, .int .i64 cl, .int .i64 se, .int .i64 rq, .int .i64 a, .int .i64 b, .int .u64 par] 75))
  go_enter Tryd.func47, Tryd.ntmps47
  go_wp2_with fail
  refine (HR.out _).mono ?_
  rintro e w1 ⟨rfl, hb1⟩
  go_wp2_with fail
  go_ret2
  exact ⟨rfl, HB0.out.trans (hb1.mono (by simp))⟩
set_option maxRecDepth 100000 in
set_option maxHeartbeats 2000000 in
theorem pack_long (k f o v p c cl se rq a b : Int) (par : Int) (body : ByteArray) (w : World) (h : headB k f o v p c cl se rq a b = true) (hl : 3968 < body.size) :
    Calls Tryd.prog 47 #[.agg #[.int .i64 k, .int .i64 f, .int .i64 o, .int .i64 v, .int .i64 p, .int .i64 c, .int .i64 cl, .int .i64 se, .int .i64 rq, .int .i64 a, .int .i64 b, .int .u64 par], .string body] w fun e w' => e = .returned (.tuple #[.string ⟨#[]⟩, .int .i64 5]) ∧ Below w.heap.size w w' := by
  have hr := fun w => right_any k f o v p c cl se rq a b par w
  rw [h] at hr
  have HR := Lib.hid hr
  clear hr h
  have HB0 := Lib.hid ((Below.refl w.heap.size w).alloc (Nat.le_refl _) (.cells #[.int .i64 k, .int .i64 f, .int .i64 o, .int .i64 v, .int .i64 p, .int .i64 c, .int .i64 cl, .int .i64 se, .int .i64 rq, .int .i64 a, .int .i64 b, .int .u64 par] 75))
  have hl' : (3968 : Int) < body.size := by omega
  go_enter Tryd.func47, Tryd.ntmps47
  go_wp2_with fail
  refine (HR.out _).mono ?_
  rintro e w1 ⟨rfl, hb1⟩
  go_wp2_with fail
  go_ret2
  exact ⟨rfl, HB0.out.trans (hb1.mono (by simp))⟩
end Go.Proofs.YtpbjjmenkoigjaaDoor
end

/- What turned; a slice of one's own (its cells, its spare room), wherever it begins; append to it. The data of the logs: entries, stubs, items, messages, and rows of them in the heap. What a log says. What those who know tell of an operation; who holds it. Who holds an operation. One turned byte turns the sum; a number's bytes and back. A sealed sector's bytes: what opens it, and that nothing turned or torn does. No program in sight. seal.Seal: a text in a sector. The plain law of sets of replicas. No program in sight. A message's fields: their letters, their numbers. Iterators of strings; a field wiped. Whole structs compared; boxes; operations that are wanted. -/
import Derived.Test.YtpbjjmenkoigjaaDoorProg
import Derived.WalkKit
import Derived.Below
import Derived.ArgAppend
import Derived.Lib.AppendZeros
import Derived.Lib.Hide
import Derived.Deep.RegionHeld
import Derived.Laws.AppendOwn
import Derived.Test.YtpbjjmenkoigjaaDoorMgLawChooseTurnsAA
import Derived.Test.YtpbjjmenkoigjaaDoorMgLawChooseTurnsAE
import Derived.StillTailTactics
import Derived.Deep.MidRow
import Derived.Deep.RegionHeld3
import Derived.Test.YtpbjjmenkoigjaaDoorMgLawChooseTurnsAB
import Derived.WalkSpells
import Derived.WalkLawsBesides
import Derived.Laws.StandIn
import Derived.Laws.Externs
import Derived.Laws.RangeString
import Derived.ChangeKeysEq
section
namespace Go.Proofs.YtpbjjmenkoigjaaDoor
open Go.RowKit
set_option linter.unusedVariables false
/-- Of the blocks that were there those of X alone have turned. -/
structure Turned (X : Nat → Prop) (w w' : World) : Prop where
  os : w'.os = w.os
  tape : w'.tape = w.tape
  output : w'.output = w.output
  size : w.heap.size ≤ w'.heap.size
  block : ∀ k, k < w.heap.size → ¬ X k → w'.heap[k]? = w.heap[k]?
section
variable {X X' : Nat → Prop} {a b c w w' : World}
theorem Turned.refl (X : Nat → Prop) (w : World) : Turned X w w := ⟨rfl, rfl, rfl, Nat.le_refl _, fun _ _ _ => rfl⟩
theorem Turned.trans (h : Turned X a b) (k : Turned X' b c) (hX : ∀ q, X' q → X q ∨ a.heap.size ≤ q) : Turned X a c :=
  ⟨k.os.trans h.os, k.tape.trans h.tape, k.output.trans h.output, Nat.le_trans h.size k.size, fun i hi hn => (k.block i (Nat.lt_of_lt_of_le hi h.size) (fun q => by
    rcases hX i q with r | r
    · exact hn r
    · omega)).trans (h.block i hi hn)⟩
theorem Turned.cell (h : Turned X w w') {p : Addr} (hp : p.block < w.heap.size) (hn : ¬ X p.block) : w'.cell? p = w.cell? p := World.cell?_of_block (h.block p.block hp hn)
theorem Turned.frozen (h : Turned X w w') {p : Addr} (hp : p.block < w.heap.size) (hn : ¬ X p.block) : w'.frozen? p = w.frozen? p := World.frozen?_of_block (h.block p.block hp hn)
theorem Turned.below {B : Nat} (h : Turned X w w') (hX : ∀ q, X q → B ≤ q) (hB : B ≤ w.heap.size) : Below B w w' :=
  ⟨h.os, h.tape, h.output, h.size, fun k hk => h.block k (by omega) (fun q => by have := hX k q; omega)⟩
theorem Turned.of_below (X : Nat → Prop) (h : Below w.heap.size w w') : Turned X w w' := ⟨h.os, h.tape, h.output, h.size, fun k hk _ => h.block k hk⟩
theorem Turned.mono (h : Turned X w w') (hX : ∀ q, X q → X' q ∨ w.heap.size ≤ q) : Turned X' w w' := ⟨h.os, h.tape, h.output, h.size, fun k hk hn => h.block k hk (fun q => by
    rcases hX k q with r | r
    · exact hn r
    · omega)⟩
theorem Turned.grown {row : Option Nat} (h : w.grownBy w' row) (hX : ∀ k, row = some k → X k) : Turned X w w' :=
  ⟨h.os, h.tape, h.output, h.size, fun k hk hn => h.block k hk (fun e => hn (hX k e.symm))⟩
theorem block_setCell (w : World) (p : Addr) (v : Value) (k : Nat) (hk : k ≠ p.block) : (w.setCell p v).heap[k]? = w.heap[k]? := by
  unfold World.setCell
  simp [Array.getElem?_modify, Ne.symm hk]
theorem Turned.setCell (p : Addr) (v : Value) (hp : X p.block) : Turned X w (w.setCell p v) := by
  refine ⟨?_, ?_, ?_, by simp, fun k hk hn => block_setCell w p v k (fun e => hn (e ▸ hp))⟩
  · exact ((Below.refl 0 w).setCell (p := p) (Nat.zero_le _) v).os
  · exact ((Below.refl 0 w).setCell (p := p) (Nat.zero_le _) v).tape
  · exact ((Below.refl 0 w).setCell (p := p) (Nat.zero_le _) v).output
theorem Turned.alloc (w : World) (X : Nat → Prop) (o : Obj) : Turned X w (w.alloc o) := Turned.of_below X ((Below.refl _ _).alloc (Nat.le_refl _) o)
theorem Turned.drew (h : Turned X w w') : Turned X w w'.drew := ⟨h.os, h.tape, h.output, h.size, h.block⟩
theorem Turned.setCells (b : Nat) (hb : X b) : ∀ (vs : List Value) (o : Nat) (w : World), Turned X w (w.setCells b o vs)
  | [], _, w => Turned.refl X w
  | v :: r, o, w => (Turned.setCell ⟨b, o, none⟩ v hb).trans (Turned.setCells b hb r (o + 1) _) (fun q h => .inl h)
end
/-- n elements of so many cells each, in a block of Y. -/
def OwnC (Y : Nat → Prop) (w : World) (v : Value) (n size : Nat) (cs : List Value) : Prop :=
  cs.length = n * size ∧ ((v = .slice none 0 0 ∧ n = 0) ∨ ∃ b off cap, v = .slice (some ⟨b, off, none⟩) n cap ∧ Y b ∧ b < w.heap.size ∧ n ≤ cap ∧ (∀ j u, cs[j]? = some u → w.cell? ⟨b, off + j, none⟩ = some u) ∧
    ∀ j, j < cap * size → (w.cell? ⟨b, off + j, none⟩).isSome = true ∧ w.frozen? ⟨b, off + j, none⟩ = false)
section
variable {Y Y' X : Nat → Prop} {w w' : World} {v : Value} {n size : Nat} {cs : List Value}
theorem OwnC.nil (Y : Nat → Prop) (w : World) (size : Nat) : OwnC Y w (.slice none 0 0) 0 size [] := ⟨by simp, .inl ⟨rfl, rfl⟩⟩
theorem OwnC.mono (h : OwnC Y w v n size cs) (hY : ∀ q, Y q → Y' q) : OwnC Y' w v n size cs := by
  obtain ⟨h1, h2⟩ := h
  refine ⟨h1, ?_⟩
  rcases h2 with h | ⟨b, off, cap, hv, hb, r⟩
  · exact .inl h
  · exact .inr ⟨b, off, cap, hv, hY b hb, r⟩
theorem OwnC.turned (h : OwnC Y w v n size cs) (ht : Turned X w w') (hd : ∀ q, Y q → ¬ X q) : OwnC Y w' v n size cs := by
  obtain ⟨h1, h2⟩ := h
  refine ⟨h1, ?_⟩
  rcases h2 with h | ⟨b, off, cap, hv, hb, hlt, hc, h3, h4⟩
  · exact .inl h
  · refine .inr ⟨b, off, cap, hv, hb, Nat.lt_of_lt_of_le hlt ht.size, hc, fun j u hu => ?_, fun j hj => ?_⟩
    · rw [ht.cell (p := ⟨b, off + j, none⟩) hlt (hd b hb)]; exact h3 j u hu
    · rw [ht.cell (p := ⟨b, off + j, none⟩) hlt (hd b hb), ht.frozen (p := ⟨b, off + j, none⟩) hlt (hd b hb)]; exact h4 j hj
theorem OwnC.later (h : OwnC Y w v n size cs) (hb : Below w.heap.size w w') : OwnC Y w' v n size cs := h.turned (Turned.of_below (fun _ => False) hb) (fun _ _ h => h)
theorem OwnC.of_row {base : Nat} {e : TypeId} (h : w.ownsRow base e size v n cs) : OwnC (fun q => base ≤ q) w v n size cs := by
  obtain ⟨h1, h2⟩ := h
  refine ⟨h1, ?_⟩
  rcases h2 with h | ⟨g, cap, cur, hv, hg, hr, hc, hm, hsz, htk⟩
  · exact .inl h
  · refine .inr ⟨g, 0, cap, hv, hg, (Array.getElem?_eq_some_iff.1 hr).1, hc, fun j u hu => ?_, fun j hj => ⟨?_, ?_⟩⟩
    · rw [Nat.zero_add, cell_of_row _ _ _ _ _ _ hr, ← Array.getElem?_toList]
      rw [← htk] at hu
      have hjl : j < n * size := by
        have := (List.getElem?_eq_some_iff.1 hu).1
        rw [List.length_take] at this; omega
      rw [List.getElem?_take_of_lt hjl] at hu
      exact hu
    · rw [Nat.zero_add, cell_of_row _ _ _ _ _ _ hr, Array.getElem?_eq_getElem (by omega)]; rfl
    · simp [World.frozen?, hr]
/-- append to a slice of one's own. -/
theorem run_app {P : Program} (t ty e : TypeId) (i : TypeInfo) (z : Value) (bytes : Nat) (ht : P.underlying t = some (.slice e)) (hi : P.info? e = some i) (hz : i.zero = some z) (hsize : i.size = size) (hby : i.bytes = bytes) (hzs : z.cells.size = size) (hsz : 0 < size)
    (hO : OwnC Y w v n size cs) (ad : Addr) (m c : Nat) (news : List Value) (hl : news.length = m * size) (hnews : ∀ j u, news[j]? = some u → w.cell? (ad.add j) = some u) (h1 : ∀ u ∈ news, u.oneCell' = true) (h63 : n + m ≤ maxLen) (hbytes : (n + m) * bytes ≤ 140737488355328) :
    ∃ v' w', (Builtin.append_ #[t, t] ty #[v, .slice (some ad) m c]).run P w = .ok v' w' ∧ OwnC (fun q => Y q ∨ w.heap.size ≤ q) w' v' (n + m) size (cs ++ news) ∧ Turned Y w w' := by
  obtain ⟨hlen, h2⟩ := hO
  rcases h2 with ⟨rfl, rfl⟩ | ⟨b, off, cap, rfl, hb, hlt, hc, h3, h4⟩
  · obtain rfl : cs = [] := List.eq_nil_of_length_eq_zero (by simpa using hlen)
    obtain ⟨v', w', hrun, r1, r2, _⟩ := run_append_own (P := P) w w.heap.size t ty e i z size bytes ht hi hz hsize hby hzs hsz (.slice none 0 0) 0 [] (World.ownsRow_nil w _ e size) ad m c news hl hnews h1 h63 hbytes (Nat.le_refl _)
    exact ⟨v', w', hrun, (OwnC.of_row r1).mono (fun q h => .inr h), Turned.grown r2 (fun k hk => by cases hk)⟩
  · by_cases hr : n + m ≤ cap
    · subst hsize
      have hsp : ∀ j, j < news.length → (w.cell? ⟨b, off + n * i.size + j, none⟩).isSome = true ∧ w.frozen? ⟨b, off + n * i.size + j, none⟩ = false := fun j hj => by
        have := h4 (n * i.size + j) (by
          have : (n + m) * i.size ≤ cap * i.size := Nat.mul_le_mul_right _ hr
          rw [Nat.add_mul] at this
          omega)
        rwa [← Nat.add_assoc] at this
      have hrun := run_append_room_cells (P := P) w t ty e i ht hi b off n cap ad m c news hl hnews h1 hr (fun j hj => (hsp j hj).1) (fun j hj => (hsp j hj).2)
      refine ⟨_, _, hrun, ?_, Turned.setCells b hb news _ w⟩
      have hin := World.cell?_setCells_in b news (off + n * i.size) w (fun j hj => (hsp j hj).1)
      have hszc : (w.setCells b (off + n * i.size) news).heap.size = w.heap.size := Nat.le_antisymm (by
        have : ∀ (vs : List Value) (o : Nat) (w : World), (w.setCells b o vs).heap.size ≤ w.heap.size := by
          intro vs
          induction vs with
          | nil => intro o w; exact Nat.le_refl _
          | cons v r ih => intro o w; exact Nat.le_trans (ih (o + 1) _) (by simp)
        exact this _ _ _) (Turned.setCells (X := fun _ => True) b trivial news _ w).size
      refine ⟨by rw [List.length_append, hlen, hl, Nat.add_mul], .inr ⟨b, off, cap, rfl, .inl hb, by rw [hszc]; exact hlt, hr, fun j u hu => ?_, fun j hj => ⟨?_, ?_⟩⟩⟩
      · by_cases hj : j < cs.length
        · rw [List.getElem?_append_left hj] at hu
          rw [World.cell?_setCells_out b _ _ _ _ (fun _ _ => Or.inl (by show off + j < off + n * i.size; omega))]
          exact h3 j u hu
        · rw [List.getElem?_append_right (by omega)] at hu
          obtain ⟨hjl, hv⟩ := List.getElem?_eq_some_iff.1 hu
          have h := hin (j - cs.length) hjl
          rw [show off + n * i.size + (j - cs.length) = off + j by omega] at h
          rw [h, hv]
      · by_cases hj1 : off + j < off + n * i.size
        · rw [World.cell?_setCells_out b _ _ _ _ (fun _ _ => Or.inl hj1)]; exact (h4 j hj).1
        · by_cases hj2 : j - n * i.size < news.length
          · have h := hin (j - n * i.size) hj2
            rw [show off + n * i.size + (j - n * i.size) = off + j by omega] at h
            rw [h]; rfl
          · rw [World.cell?_setCells_out b _ _ _ _ (fun _ _ => Or.inr (by show off + n * i.size + news.length ≤ off + j; omega))]; exact (h4 j hj).1
      · rw [World.frozen?_setCells]; exact (h4 j hj).2
    · have hadd : ∀ j, (⟨b, off, none⟩ : Addr).add j = ⟨b, off + j, none⟩ := by intro j; unfold Addr.add; split <;> simp_all
      obtain ⟨v', w', hrun, r1, r2⟩ := run_append_arg_grows (P := P) w t ty e i z size bytes ht hi hz hsize hby hzs hsz ⟨b, off, none⟩ n cap cs hlen (fun j u hu => by rw [hadd]; exact h3 j u hu) ad m c news hl hnews (by omega) h63 hbytes
      exact ⟨v', w', hrun, (OwnC.of_row r1).mono (fun q h => .inr h), Turned.grown r2 (fun k hk => by cases hk)⟩
end
/-- The append inside a region that draws its order. -/
theorem step_app {P : Program} {ops : Array Oper} {o : Oper} {a : Act} {w : World} {K : Act → World → Prop} {Q : Exit → Act → World → Prop} {E : Prop} (hg : o.guard = none) (s x : Operand) (t : TypeId)
    (hop : o.op = Op.call { callee := Callee.builtin Builtin.append, args := #[s, x], argTypes := #[t, t] }) (v : Value) (X' : Addr) (m c : Nat) (hs : a.eval s = v) (hx : a.eval x = .slice (some X') m c) {v' : Value} {w' : World}
    (hrun : (Builtin.append_ #[t, t] o.type #[v, .slice (some X') m c]).run P w = .ok v' w') (hK : K (a.put o.dst v') w') : if Region.wanted o (yielded ops a.tmps) = true then Oper.wp P o a w K Q else E := by
  have hw : Region.wanted o (yielded ops a.tmps) = true := by simp [Region.wanted, hg]
  rw [if_pos hw]
  unfold Oper.wp
  simp [execOp, hop, resolve, invoke, builtin, hs, hx, hrun, Result.andThen]
  exact hK
end Go.Proofs.YtpbjjmenkoigjaaDoor
end

section
namespace Go.Proofs.YtpbjjmenkoigjaaDoor
open Go.RowKit
set_option linter.unusedVariables false
/-- An entry. -/
structure Est where
  v : Int
  o : Int
  u : Int
  p : Int
  c : Int
  s : Int
  r : Int
  k : Int
  b : ByteArray
/-- A stub. -/
structure Sst where
  o : Int
  v : Int
  u : Int
  p : Int
  s : Int
/-- An item. -/
structure Ist where
  k : Int
  s : Sst
  e : Est
/-- A message. -/
structure Mst where
  k : Int
  f : Int
  v : Int
  lv : Int
  op : Int
  cm : Int
  cl : Int
  se : Int
  rq : Int
  pn : Int
  ix : Int
  sz : Int
  co : Int
  cv : Int
  cs : Int
  s0 : Int
  s1 : Int
  s2 : Int
  s3 : Int
  s4 : Int
  s5 : Int
  e : Est
  ea : Option Addr
  ec : Nat
  es : List Est
  ia : Option Addr
  ic : Nat
  is : List Ist
  b : ByteArray
def Est.row (e : Est) : Array Value := #[.int .i64 e.v, .int .i64 e.o, .int .i64 e.u, .int .u64 e.p, .int .i64 e.c, .int .i64 e.s, .int .i64 e.r, .int .i64 e.k, .string e.b]
def Sst.row (s : Sst) : Array Value := #[.int .i64 s.o, .int .i64 s.v, .int .i64 s.u, .int .u64 s.p, .int .u64 s.s]
def Ist.row (x : Ist) : Array Value := #[.int .i64 x.k, .int .i64 x.s.o, .int .i64 x.s.v, .int .i64 x.s.u, .int .u64 x.s.p, .int .u64 x.s.s, .int .i64 x.e.v, .int .i64 x.e.o, .int .i64 x.e.u, .int .u64 x.e.p, .int .i64 x.e.c, .int .i64 x.e.s, .int .i64 x.e.r, .int .i64 x.e.k, .string x.e.b]
def Mst.row (m : Mst) : Array Value := #[.int .i64 m.k, .int .i64 m.f, .int .i64 m.v, .int .i64 m.lv, .int .i64 m.op, .int .i64 m.cm, .int .i64 m.cl, .int .i64 m.se, .int .i64 m.rq, .int .i64 m.pn, .int .i64 m.ix, .int .i64 m.sz, .int .i64 m.co, .int .i64 m.cv, .int .u64 m.cs, .int .u64 m.s0, .int .u64 m.s1, .int .u64 m.s2, .int .u64 m.s3, .int .u64 m.s4, .int .u64 m.s5, .int .i64 m.e.v, .int .i64 m.e.o, .int .i64 m.e.u, .int .u64 m.e.p, .int .i64 m.e.c, .int .i64 m.e.s, .int .i64 m.e.r, .int .i64 m.e.k, .string m.e.b, .slice m.ea m.es.length m.ec, .slice m.ia m.is.length m.ic, .string m.b]
def Est.zero : Est := ⟨0, 0, 0, 0, 0, 0, 0, 0, ⟨#[]⟩⟩
def Sst.zero : Sst := ⟨0, 0, 0, 0, 0⟩
def Ist.zero : Ist := ⟨0, Sst.zero, Est.zero⟩
/-- So many rows of k cells from an address on. -/
def RowsAt (k : Nat) (w : World) (ad : Option Addr) (rows : List (Array Value)) : Prop :=
  ∀ (i : Nat) (x : Array Value), rows[i]? = some x → ∃ b off, ad = some ⟨b, off, none⟩ ∧ b < w.heap.size ∧ ∀ (j : Nat) (u : Value), x[j]? = some u → w.cell? ⟨b, off + i * k + j, none⟩ = some u
theorem RowsAt.below {k : Nat} {w w' : World} {B : Nat} {ad : Option Addr} {l : List (Array Value)} (h : RowsAt k w ad l) (hb : Below B w w') (hB : w.heap.size ≤ B) : RowsAt k w' ad l := by
  intro i x hx
  obtain ⟨b, off, h1, h2, h3⟩ := h i x hx
  exact ⟨b, off, h1, Nat.lt_of_lt_of_le h2 (Nat.le_trans (Nat.le_refl _) hb.size), fun j u hu => (hb.cell (p := ⟨b, off + i * k + j, none⟩) (Nat.lt_of_lt_of_le h2 hB)).trans (h3 j u hu)⟩
theorem RowsAt.later {k : Nat} {w w' : World} {ad : Option Addr} {l : List (Array Value)} (h : RowsAt k w ad l) (hb : Below w.heap.size w w') : RowsAt k w' ad l := h.below hb (Nat.le_refl _)
theorem RowsAt.nil (k : Nat) (w : World) (ad : Option Addr) : RowsAt k w ad [] := by intro i x hx; simp at hx
/-- The numbers of an entry are in their ranges. -/
def Est.Ok (e : Est) : Prop := (-9223372036854775808 ≤ e.o ∧ e.o ≤ 9223372036854775807) ∧ (0 ≤ e.p ∧ e.p ≤ 18446744073709551615)
def Sst.Ok (s : Sst) : Prop := (-9223372036854775808 ≤ s.o ∧ s.o ≤ 9223372036854775807) ∧ (0 ≤ s.p ∧ s.p ≤ 18446744073709551615) ∧ (0 ≤ s.s ∧ s.s ≤ 18446744073709551615)
def Ist.Ok (x : Ist) : Prop := x.s.Ok ∧ x.e.Ok
/-- A message's lists lie in the heap. -/
structure Mst.In (w : World) (m : Mst) : Prop where
  es : RowsAt 9 w m.ea (m.es.map Est.row)
  is : RowsAt 15 w m.ia (m.is.map Ist.row)
  ec : m.es.length ≤ m.ec
  ic : m.is.length ≤ m.ic
  el : m.es.length ≤ 9223372036854775807
  il : m.is.length ≤ 9223372036854775807
  eok : ∀ e ∈ m.es, Est.Ok e
  iok : ∀ x ∈ m.is, Ist.Ok x
  co : -9223372036854775808 ≤ m.co ∧ m.co ≤ 9223372036854775807
  e : m.e.Ok
theorem Mst.In.later {w w' : World} {m : Mst} (h : m.In w) (hb : Below w.heap.size w w') : m.In w' :=
  ⟨h.es.later hb, h.is.later hb, h.ec, h.ic, h.el, h.il, h.eok, h.iok, h.co, h.e⟩
theorem cell_lt {w : World} {p : Addr} {v : Value} (h : w.cell? p = some v) : p.block < w.heap.size := by
  refine Nat.lt_of_not_le fun q => ?_
  have : w.heap[p.block]? = none := Array.getElem?_eq_none q
  unfold World.cell? at h
  simp [this] at h
theorem take_snoc {α : Type} {l : List α} {i : Nat} {x : α} (h : l[i]? = some x) : l.take (i + 1) = l.take i ++ [x] := by rw [List.take_add_one, h]; rfl
/-- What a log says of an operation. -/
def Mst.says (m : Mst) (n : Int) : Ist := if 0 ≤ n - 1 - m.co then (m.is[(n - 1 - m.co).toNat]?).getD Ist.zero else Ist.zero
theorem Blk.there {w : World} {g : Nat} {cs : Array Value} (h : Blk w g cs) (n : Nat) (hn : n = cs.size) : w.there g 0 n := by
  subst hn
  intro i hi
  have := h.2 i _ (Array.getElem?_eq_getElem hi)
  rw [Nat.zero_add]
  exact ⟨by rw [this.1]; rfl, this.2⟩
theorem Blk.range {w : World} {g : Nat} {cs : Array Value} (h : Blk w g cs) : w.rangeAt g 0 cs.toList := fun i v hv => by
  rw [Nat.zero_add]; exact (h.2 i v (by simpa using hv)).1
theorem Blk.stored {w : World} {g : Nat} {cs0 cs : Array Value} (h : Blk w g cs0) (hs : cs0.size = cs.size) : Blk (w.setCells g 0 cs.toList) g cs := by
  refine ⟨Nat.lt_of_lt_of_le h.1 (Turned.setCells (X := fun _ => True) g trivial cs.toList 0 w).size, fun i v hv => ⟨?_, ?_⟩⟩
  · have hi : i < cs.size := (Array.getElem?_eq_some_iff.1 hv).1
    have := World.cell?_setCells_in g cs.toList 0 w (fun j hj => by
      have hj' : j < cs0.size := by rw [hs]; simpa using hj
      rw [Nat.zero_add, (h.2 j _ (Array.getElem?_eq_getElem hj')).1]
      rfl) i (by simpa using hi)
    rw [Nat.zero_add] at this
    rw [this, ← hv]
    simp [Array.getElem?_eq_getElem hi]
  · rw [World.frozen?_setCells]
    have hi : i < cs0.size := by rw [hs]; exact (Array.getElem?_eq_some_iff.1 hv).1
    exact (h.2 i _ (Array.getElem?_eq_getElem hi)).2
theorem Blk.otherStored {w : World} {b g : Nat} {cs : Array Value} (h : Blk w b cs) (hg : g ≠ b) (o : Nat) (l : List Value) : Blk (w.setCells g o l) b cs := by
  have ht := Turned.setCells (X := fun q => q = g) g rfl l o w
  refine ⟨Nat.lt_of_lt_of_le h.1 ht.size, fun i v hv => ⟨?_, ?_⟩⟩
  · exact (ht.cell (p := ⟨b, i, none⟩) h.1 (fun q => hg q.symm)).trans (h.2 i v hv).1
  · exact (ht.frozen (p := ⟨b, i, none⟩) h.1 (fun q => hg q.symm)).trans (h.2 i v hv).2
theorem setCells_size (w : World) (g o : Nat) (l : List Value) : w.heap.size ≤ (w.setCells g o l).heap.size := (Turned.setCells (X := fun _ => True) g trivial l o w).size
theorem Below_stored {w wr : World} {B g : Nat} (h : Below B w wr) (hg : B ≤ g) (o : Nat) (l : List Value) (hB : B ≤ w.heap.size) : Below B w (wr.setCells g o l) :=
  h.trans ((Turned.setCells (X := fun q => q = g) g rfl l o wr).below (fun q hq => by omega) (Nat.le_trans hB h.size))
theorem RowsAt.range {k : Nat} {w : World} {ad : Option Addr} {l : List (Array Value)} {i : Nat} {x : Array Value} (h : RowsAt k w ad l) (hx : l[i]? = some x) : ∃ b off, ad = some ⟨b, off, none⟩ ∧ b < w.heap.size ∧ w.rangeAt b (off + i * k) x.toList := by
  obtain ⟨b, off, h1, h2, h3⟩ := h i x hx
  exact ⟨b, off, h1, h2, fun j v hv => h3 j v (by simpa using hv)⟩
theorem rangeAt.later {w w' : World} {b o : Nat} {l : List Value} (h : w.rangeAt b o l) (hl : b < w.heap.size) (hb : Below w.heap.size w w') : w'.rangeAt b o l :=
  fun j v hv => (hb.cell (p := ⟨b, o + j, none⟩) hl).trans (h j v hv)
theorem Ist.row_one (x : Ist) : (x.row.all (·.oneCell')) = true := by simp [Ist.row, Value.oneCell']
theorem Est.row_one (x : Est) : (x.row.all (·.oneCell')) = true := by simp [Est.row, Value.oneCell']
theorem Sst.row_one (x : Sst) : (x.row.all (·.oneCell')) = true := by simp [Sst.row, Value.oneCell']
theorem Mst.row_one (x : Mst) : (x.row.all (·.oneCell')) = true := by simp [Mst.row, Value.oneCell']
theorem load_at {w : World} {b o : Nat} {cs : Array Value} (t : TypeId) (d : TypeDesc) (h : w.rangeAt b o cs.toList) (hu : Tryd.prog.underlying t = some d) (hd : d.isRow = true) (hi : (Tryd.prog.info? t).map (·.size) = some cs.size) :
    (Instr.loadAt t (.pointer (some ⟨b, o, none⟩))).run Tryd.prog w = .ok (.agg cs) w := by
  have := run_loadAt_mid (P := Tryd.prog) w b o t cs.toList d h hu hd (by rw [hi]; simp)
  simpa using this
theorem store_at {w w' : World} {b : Nat} {cs0 cs : Array Value} (t : TypeId) (hB : Blk w b cs0) (hs : cs0.size = cs.size) (hi : (Tryd.prog.info? t).map (·.size) = some cs.size) (h1 : cs.all (·.oneCell') = true) (hw : w' = w.setCells b 0 cs.toList) :
    (Instr.storeAt t (.pointer (some ⟨b, 0, none⟩)) (.agg cs)).run Tryd.prog w = .ok () w' := by
  rw [hw]
  exact run_storeAt_mid w b 0 t cs (hB.there cs.size hs.symm) hi h1
/-- A block just laid, and filled. -/
theorem fresh (w : World) (z cs : Array Value) (t : TypeId) (hs : z.size = cs.size) (hi : (Tryd.prog.info? t).map (·.size) = some cs.size) (h1 : cs.all (·.oneCell') = true) :
    ∃ w', (Instr.storeAt t (.pointer (some ⟨w.heap.size, 0, none⟩)) (.agg cs)).run Tryd.prog (w.alloc (.cells z t)) = .ok () w' ∧ Below w.heap.size w w' ∧ Blk w' w.heap.size cs ∧ w.heap.size < w'.heap.size := by
  have hB : Blk (w.alloc (.cells z t)) w.heap.size z := Blk.new _ _ _ _ rfl
  have h2 := hB.stored hs
  exact ⟨_, store_at t hB hs hi h1 rfl, Below_stored ((Below.refl _ _).alloc (Nat.le_refl _) _) (Nat.le_refl _) _ _ (Nat.le_refl _), h2, h2.1⟩
/-- A known block, filled anew. -/
theorem refill {w : World} {b : Nat} {cs0 cs : Array Value} (t : TypeId) (hB : Blk w b cs0) (hs : cs0.size = cs.size) (hi : (Tryd.prog.info? t).map (·.size) = some cs.size) (h1 : cs.all (·.oneCell') = true) :
    ∃ w', (Instr.storeAt t (.pointer (some ⟨b, 0, none⟩)) (.agg cs)).run Tryd.prog w = .ok () w' ∧ w.heap.size ≤ w'.heap.size ∧ Blk w' b cs ∧ (∀ B, B ≤ b → B ≤ w.heap.size → Below B w w') ∧ (∀ g cs', g ≠ b → Blk w g cs' → Blk w' g cs') :=
  ⟨_, store_at t hB hs hi h1 rfl, setCells_size _ _ _ _, hB.stored hs, fun B hb hB' => Below_stored (Below.refl _ _) hb _ _ hB', fun g cs' hg h => h.otherStored (fun q => hg q.symm) _ _⟩
theorem wpList_load_eq {P : Program} {ops : Array Oper} {rest : List Oper} {op : Oper} {a : Act} {w : World} {Q : Exit → Act → World → Prop} (ty : TypeId) (x : Operand) (hgd : op.guard = none) (ho : op.op = .load ty x)
    {p v : Value} (hl : (Instr.loadAt ty p).run P w = .ok v w) (hx : a.eval x = p)
    (h : wpList P ops Q rest (a.put op.dst v) w) : wpList P ops Q (op :: rest) a w :=
  wpList_plain hgd fun _ hK => by
    unfold Oper.wp execOp
    simp only [ho, hx, Sem.run_bind, Sem.run_pure, Result.andThen_ok, hl]
    exact hK _ _ h
theorem wpList_store_eq {P : Program} {ops : Array Oper} {rest : List Oper} {op : Oper} {a : Act} {w w' : World} {Q : Exit → Act → World → Prop} (ty : TypeId) (x y : Operand) (hgd : op.guard = none) (ho : op.op = .store ty x y)
    {p v : Value} (hl : (Instr.storeAt ty p v).run P w = .ok () w') (hx : a.eval x = p) (hy : a.eval y = v)
    (h : wpList P ops Q rest (a.put op.dst undef) w') : wpList P ops Q (op :: rest) a w :=
  wpList_plain hgd fun _ hK => by
    unfold Oper.wp execOp
    simp only [ho, hx, hy, Sem.run_bind, Sem.run_pure, Result.andThen_ok, hl]
    exact hK _ _ h
/-- The messages of a slice. -/
structure LogsAt (w : World) (ad : Option Addr) (cap : Nat) (l : List Mst) : Prop where
  rows : RowsAt 33 w ad (l.map Mst.row)
  cap : l.length ≤ cap
  small : l.length ≤ 1000
  ins : ∀ m ∈ l, m.In w
theorem LogsAt.later {w w' : World} {ad : Option Addr} {cap : Nat} {l : List Mst} (h : LogsAt w ad cap l) (hb : Below w.heap.size w w') : LogsAt w' ad cap l :=
  ⟨h.rows.later hb, h.cap, h.small, fun m hm => (h.ins m hm).later hb⟩
/-- One step of what those who know tell. -/
def toldStep (n : Int) (t : Int × Sst × Bool) (m : Mst) : Int × Sst × Bool :=
  if (m.says n).k = 3 ∨ m.lv < t.1 then t
  else
    let top := if t.1 < m.lv then m.lv else t.1
    let found := if t.1 < m.lv then false else t.2.2
    if (m.says n).k ≠ 0 ∧ found = false then (top, (m.says n).s, true) else (top, t.2.1, found)
def told (l : List Mst) (n : Int) : Int × Sst × Bool := l.foldl (toldStep n) (-1, Sst.zero, false)
theorem told_snoc (l : List Mst) (m : Mst) (n : Int) : told (l ++ [m]) n = toldStep n (told l n) m := by unfold told; rw [List.foldl_append]; rfl
open Classical in
noncomputable def hasIt (n : Int) (s : Sst) (m : Mst) : Bool := decide ((m.says n).k = 1 ∧ (m.says n).s = s)
noncomputable def held (l : List Mst) (n : Int) (s : Sst) : Option Est := (l.find? (hasIt n s)).map fun m => (m.says n).e
theorem hasIt_yes {n : Int} {s : Sst} {m : Mst} (h1 : (m.says n).k = 1) (h2 : (m.says n).s = s) : hasIt n s m = true := by unfold hasIt; simp [h1, h2]
theorem hasIt_no {n : Int} {s : Sst} {m : Mst} (h : ¬ ((m.says n).k = 1 ∧ (m.says n).s = s)) : hasIt n s m = false := by unfold hasIt; simpa using h
end Go.Proofs.YtpbjjmenkoigjaaDoor
end

section
namespace Go.Proofs.YtpbjjmenkoigjaaDoor
open Go.RowKit
set_option linter.unusedVariables false
theorem results_says {tmps : Array Value} {w : World} {g : Nat} {x : Ist} (hp : tmps[4]?.getD undef = .pointer (some ⟨g, 0, none⟩)) (hB : Blk w g x.row) :
    (results Tryd.f41 tmps).run Tryd.prog w = .ok (.agg x.row) w := by
  have hl := run_loadVar_mid (P := Tryd.prog) w g 0 40 x.row.toList _ hB.range Tryd.underlying40 rfl (by kernel_rfl)
  rw [show results Tryd.f41 tmps = (do loadVar 40 (← asAddr (tmps[4]?.getD undef))) from by simp [results], hp]
  simp [asAddr, hl]
set_option maxRecDepth 100000 in
set_option maxHeartbeats 20000000 in
theorem says_low (m : Mst) (n : Int) (w : World) (hi : n - 1 - m.co < 0) (hw : IntKind.i64.wrap (n - 1) = n - 1) (hw2 : IntKind.i64.wrap (n - 1 - m.co) = n - 1 - m.co) :
    Calls Tryd.prog 41 #[.agg m.row, .int .i64 n] w fun e w' => e = .returned (.agg Ist.zero.row) ∧ Below w.heap.size w w' := by
  obtain ⟨k, f, v, lv, op, cm, cl, se, rq, pn, ix, sz, co, cv, cs, s0, s1, s2, s3, s4, s5, e, ea, ec, es, ia, ic, is, b⟩ := m
  simp only at hi hw2
  unfold Mst.row
  go_enter Tryd.func41, Tryd.ntmps41
  go_wp2_with fail
  refine bodyPost_ret (results_says (x := Ist.zero) rfl (Blk.new _ _ _ _ (by simp))) rfl ?_
  exact ⟨rfl, ((Below.refl _ _).alloc (Nat.le_refl _) _).alloc (by simp) _⟩
set_option maxRecDepth 100000 in
set_option maxHeartbeats 20000000 in
theorem says_over (m : Mst) (n : Int) (i : Nat) (w : World) (hw : IntKind.i64.wrap (n - 1) = n - 1) (hw2 : IntKind.i64.wrap (n - 1 - m.co) = (i : Int)) (hi : m.is.length ≤ i) :
    Calls Tryd.prog 41 #[.agg m.row, .int .i64 n] w fun e w' => e = .returned (.agg Ist.zero.row) ∧ Below w.heap.size w w' := by
  obtain ⟨k, f, v, lv, op, cm, cl, se, rq, pn, ix, sz, co, cv, cs, s0, s1, s2, s3, s4, s5, e, ea, ec, es, ia, ic, is, b⟩ := m
  simp only at hi hw2
  unfold Mst.row
  have hi' : (is.length : Int) ≤ (i : Int) := by omega
  have h0 : ¬ ((i : Int) < 0) := by omega
  go_enter Tryd.func41, Tryd.ntmps41
  go_wp2_with fail
  refine bodyPost_ret (results_says (x := Ist.zero) rfl (Blk.new _ _ _ _ (by simp))) rfl ?_
  exact ⟨rfl, ((Below.refl _ _).alloc (Nat.le_refl _) _).alloc (by simp) _⟩
set_option maxRecDepth 100000 in
set_option maxHeartbeats 20000000 in
theorem says_in (m : Mst) (n : Int) (i : Nat) (x : Ist) (w : World) (hin : m.In w) (hw : IntKind.i64.wrap (n - 1) = n - 1) (hw2 : IntKind.i64.wrap (n - 1 - m.co) = (i : Int)) (hx : m.is[i]? = some x) :
    Calls Tryd.prog 41 #[.agg m.row, .int .i64 n] w fun e w' => e = .returned (.agg x.row) ∧ Below w.heap.size w w' := by
  have hr := hin.is.range (i := i) (x := x.row) (by rw [List.getElem?_map, hx]; rfl)
  have hlt := (List.getElem?_eq_some_iff.1 hx).1
  have hc := hin.ic
  clear hin
  obtain ⟨k, f, v, lv, op, cm, cl, se, rq, pn, ix, sz, co, cv, cs, s0, s1, s2, s3, s4, s5, e, ea, ec, es, ia, ic, is, b⟩ := m
  simp only at hw2 hr hlt hc
  obtain ⟨bb, off, rfl, hbb, hra⟩ := hr
  have hlt' : (i : Int) < (is.length : Int) := by omega
  have h0 : ¬ ((i : Int) < 0) := by omega
  have HX := Lib.hid hx
  clear hx
  unfold Mst.row
  generalize is.length = L at *
  have hb1 : Below w.heap.size w ((w.alloc (.cells #[.int .i64 k, .int .i64 f, .int .i64 v, .int .i64 lv, .int .i64 op, .int .i64 cm, .int .i64 cl, .int .i64 se, .int .i64 rq, .int .i64 pn, .int .i64 ix, .int .i64 sz, .int .i64 co, .int .i64 cv, .int .u64 cs, .int .u64 s0, .int .u64 s1, .int .u64 s2, .int .u64 s3, .int .u64 s4, .int .u64 s5, .int .i64 e.v, .int .i64 e.o, .int .i64 e.u, .int .u64 e.p, .int .i64 e.c, .int .i64 e.s, .int .i64 e.r, .int .i64 e.k, .string e.b, .slice ea es.length ec, .slice (some ⟨bb, off, none⟩) L ic, .string b] 45)).alloc (.cells #[.int .i64 0, .int .i64 0, .int .i64 0, .int .i64 0, .int .u64 0, .int .u64 0, .int .i64 0, .int .i64 0, .int .i64 0, .int .u64 0, .int .i64 0, .int .i64 0, .int .i64 0, .int .i64 0, .string ⟨#[]⟩] 40)) := ((Below.refl _ _).alloc (Nat.le_refl _) _).alloc (by simp) _
  have HB1 := Lib.hid hb1
  have HLD := Lib.hid (rangeAt.later hra hbb hb1)
  have hB := Blk.new (w.alloc (.cells #[.int .i64 k, .int .i64 f, .int .i64 v, .int .i64 lv, .int .i64 op, .int .i64 cm, .int .i64 cl, .int .i64 se, .int .i64 rq, .int .i64 pn, .int .i64 ix, .int .i64 sz, .int .i64 co, .int .i64 cv, .int .u64 cs, .int .u64 s0, .int .u64 s1, .int .u64 s2, .int .u64 s3, .int .u64 s4, .int .u64 s5, .int .i64 e.v, .int .i64 e.o, .int .i64 e.u, .int .u64 e.p, .int .i64 e.c, .int .i64 e.s, .int .i64 e.r, .int .i64 e.k, .string e.b, .slice ea es.length ec, .slice (some ⟨bb, off, none⟩) L ic, .string b] 45)) #[.int .i64 0, .int .i64 0, .int .i64 0, .int .i64 0, .int .u64 0, .int .u64 0, .int .i64 0, .int .i64 0, .int .i64 0, .int .u64 0, .int .i64 0, .int .i64 0, .int .i64 0, .int .i64 0, .string ⟨#[]⟩] 40 (w.heap.size + 1) (by simp)
  have HST := Lib.hid (hB.there x.row.size rfl)
  have HRES := Lib.hid (hB.stored (cs := x.row) rfl)
  have HALL := Lib.hid (Ist.row_one x)
  clear hra hb1 hB HX
  go_enter Tryd.func41, Tryd.ntmps41
  go_wp2_with (first | (refine wpList_load_mid rfl 40 (Operand.tmp 25) rfl bb (off + i * 15) rfl x.row.toList _ HLD.out Tryd.underlying40 rfl (by kernel_rfl) ?_) | (refine wpList_store_mid rfl 40 (Operand.tmp 4) (Operand.tmp 26) rfl (w.heap.size + 1) 0 x.row rfl rfl HST.out (by kernel_rfl) HALL.out ?_))
  refine bodyPost_ret (results_says (x := x) rfl HRES.out) rfl ?_
  exact ⟨rfl, Below_stored HB1.out (by omega) _ _ (Nat.le_refl _)⟩
theorem says_any (m : Mst) (n : Int) (w : World) (hin : m.In w) (hn : 1 ≤ n ∧ n ≤ 72057594037927936) (hco : 0 ≤ m.co ∧ m.co ≤ 72057594037927935) :
    Calls Tryd.prog 41 #[.agg m.row, .int .i64 n] w fun e w' => e = .returned (.agg (m.says n).row) ∧ Below w.heap.size w w' := by
  have hw : IntKind.i64.wrap (n - 1) = n - 1 := IntWalk.i64_in _ (by omega)
  have hw2 : IntKind.i64.wrap (n - 1 - m.co) = n - 1 - m.co := IntWalk.i64_in _ (by omega)
  unfold Mst.says
  by_cases h : 0 ≤ n - 1 - m.co
  · rw [if_pos h]
    have hi : n - 1 - m.co = (((n - 1 - m.co).toNat : Nat) : Int) := by omega
    cases hx : m.is[(n - 1 - m.co).toNat]? with
    | none => exact says_over m n (n - 1 - m.co).toNat w hw (by rw [hw2]; exact hi) (List.getElem?_eq_none_iff.1 hx)
    | some x => exact says_in m n (n - 1 - m.co).toNat x w hin hw (by rw [hw2]; exact hi) hx
  · rw [if_neg h]
    exact says_low m n w (by omega) hw hw2
end Go.Proofs.YtpbjjmenkoigjaaDoor
end

section
namespace Go.Proofs.YtpbjjmenkoigjaaDoor
open Go.RowKit
set_option linter.unusedVariables false
theorem results_told {tmps : Array Value} {w : World} {g : Nat} {s : Sst} {v : Value} (hp : tmps[4]?.getD undef = .pointer (some ⟨g, 0, none⟩)) (hv : tmps[5]?.getD undef = v) (hB : Blk w g s.row) :
    (results Tryd.f30 tmps).run Tryd.prog w = .ok (.tuple #[.agg s.row, v]) w := by
  have hl := run_loadVar_mid (P := Tryd.prog) w g 0 38 s.row.toList _ hB.range Tryd.underlying38 rfl (by kernel_rfl)
  rw [show results Tryd.f30 tmps = (do return .tuple #[← loadVar 38 (← asAddr (tmps[4]?.getD undef)), (tmps[5]?.getD undef)]) from by simp [results], hp, hv]
  simp [asAddr, hl]
theorem toldStep_skip {n : Int} {t : Int × Sst × Bool} {m : Mst} (h : (m.says n).k = 3 ∨ m.lv < t.1) : toldStep n t m = t := if_pos h
/-- In the loop of told: the world since w. -/
structure TI (w wr : World) (s : Sst) : Prop where
  below : Below w.heap.size w wr
  size : w.heap.size + 1 < wr.heap.size
  b0 : Blk wr w.heap.size Sst.zero.row
  b1 : Blk wr (w.heap.size + 1) s.row
theorem TI.later {w wr w' : World} {s : Sst} (h : TI w wr s) (hb : Below wr.heap.size wr w') : TI w w' s :=
  ⟨h.below.trans (hb.mono h.below.size), Nat.lt_of_lt_of_le h.size hb.size, h.b0.later hb, h.b1.later hb⟩
theorem TI.stored {w wr : World} {s s' : Sst} (h : TI w wr s) : TI w (wr.setCells (w.heap.size + 1) 0 s'.row.toList) s' :=
  ⟨Below_stored h.below (by omega) _ _ (Nat.le_refl _), Nat.lt_of_lt_of_le h.size (setCells_size _ _ _ _), h.b0.otherStored (by omega) _ _, h.b1.stored rfl⟩
set_option maxRecDepth 100000 in
set_option maxHeartbeats 20000000 in
theorem told_any (ad : Option Addr) (cap : Nat) (l : List Mst) (n : Int) (w : World) (hl : LogsAt w ad cap l) (hn : 1 ≤ n ∧ n ≤ 72057594037927936) (hco : ∀ m ∈ l, 0 ≤ m.co ∧ m.co ≤ 72057594037927935) :
    Calls Tryd.prog 30 #[.slice ad l.length cap, .int .i64 n] w fun e w' => e = .returned (.tuple #[.agg (told l n).2.1.row, .bool (told l n).2.2]) ∧ Below w.heap.size w w' := by
  have HL := Lib.hid hl
  have HCO := Lib.hid hco
  obtain ⟨L, hLL⟩ : ∃ L, L = l.length := ⟨_, rfl⟩
  have HLL := Lib.hid hLL
  have hcap := hl.cap
  have hsm := hl.small
  rw [← hLL] at hcap hsm ⊢
  have HS : Hid (TI w ((w.alloc (.cells Sst.zero.row 38)).alloc (.cells Sst.zero.row 38)) Sst.zero) := Lib.hid ⟨((Below.refl _ _).alloc (Nat.le_refl _) _).alloc (by simp) _, by simp, Blk.alloc (Blk.new _ _ _ _ rfl) _, Blk.new _ _ _ _ (by simp)⟩
  clear hl hco hLL
  go_enter Tryd.func30, Tryd.ntmps30
  go_wp2_with fail
  go_loopw [6, 8, 14] (fun s6 s8 iv wr => ∃ j : Nat, j ≤ L ∧ iv = .int .i64 (j : Int) ∧ s6 = .int .i64 (told (l.take j) n).1 ∧ s8 = .bool (told (l.take j) n).2.2 ∧ TI w wr (told (l.take j) n).2.1) (fun _ _ iv _ => L - (intOf iv).toNat)
  case atStart => exact ⟨0, by omega, rfl, rfl, rfl, HS.out⟩
  case round =>
    clear HS
    obtain ⟨j, hj, rfl, rfl, rfl, hT⟩ := hrel
    have HT := Lib.hid hT
    have hsz := hT.size
    by_cases hlt : j < L
    · obtain ⟨x, hx⟩ : ∃ x, l[j]? = some x := ⟨l[j]'(by rw [← HLL.out]; exact hlt), List.getElem?_eq_getElem _⟩
      have hLw := HL.out.later hT.below
      obtain ⟨b, off, rfl, hbw, hra⟩ := hLw.rows.range (i := j) (x := x.row) (by rw [List.getElem?_map, hx]; rfl)
      have HM : Hid (x ∈ l) := Lib.hid (List.mem_of_getElem? hx)
      have HIN := Lib.hid (hLw.ins x HM.out)
      have HN : Hid (told (l.take (j + 1)) n = toldStep n (told (l.take j) n) x) := Lib.hid (by rw [take_snoc hx, told_snoc])
      clear hT hLw hx
      generalize told (l.take j) n = t at *
      obtain ⟨top, st, fd⟩ := t
      obtain ⟨y, hy⟩ : ∃ y, y = x.says n := ⟨_, rfl⟩
      have l1 := load_at 45 _ hra Tryd.underlying45 rfl (by kernel_rfl)
      obtain ⟨W1, st1, hW1, hB1, hz1⟩ := fresh wr #[.int .i64 0, .int .i64 0, .int .i64 0, .int .i64 0, .int .i64 0, .int .i64 0, .int .i64 0, .int .i64 0, .int .i64 0, .int .i64 0, .int .i64 0, .int .i64 0, .int .i64 0, .int .i64 0, .int .u64 0, .int .u64 0, .int .u64 0, .int .u64 0, .int .u64 0, .int .u64 0, .int .u64 0, .int .i64 0, .int .i64 0, .int .i64 0, .int .u64 0, .int .i64 0, .int .i64 0, .int .i64 0, .int .i64 0, .string ⟨#[]⟩, .slice none 0 0, .slice none 0 0, .string ⟨#[]⟩] x.row 45 rfl (by kernel_rfl) (Mst.row_one x)
      have l2 := load_at 45 _ hB1.range Tryd.underlying45 rfl (by kernel_rfl)
      have l1 := Lib.hid l1
      have st1 := Lib.hid st1
      have l2 := Lib.hid l2
      have HW1 := Lib.hid hW1
      have HB1 := Lib.hid hB1
      clear hra hB1 hbw hW1
      have HSAYS : Hid (∀ W, Below wr.heap.size wr W → Calls Tryd.prog 41 #[.agg x.row, .int .i64 n] W fun e w' => e = .returned (.agg y.row) ∧ Below W.heap.size W w') := Lib.hid (fun W hW => by rw [hy]; exact says_any x n W (HIN.out.later hW) hn (HCO.out x HM.out))
      unfold toldStep at HN
      rw [← hy] at HN
      simp only at HN hsz
      clear hy
      go_wp2_with (first | (guard_target =~ wpList _ _ _ (⟨_, Op.load _ (Operand.tmp 16), _, _, _, _⟩ :: _) _ _; refine wpList_load_eq 45 (Operand.tmp 16) rfl rfl l1.out rfl ?_) | (guard_target =~ wpList _ _ _ (⟨_, Op.store _ (Operand.tmp 10) (Operand.tmp 17), _, _, _, _⟩ :: _) _ _; refine wpList_store_eq 45 (Operand.tmp 10) (Operand.tmp 17) rfl rfl st1.out rfl rfl ?_) | (guard_target =~ wpList _ _ _ (⟨_, Op.load _ (Operand.tmp 10), _, _, _, _⟩ :: _) _ _; refine wpList_load_eq 45 (Operand.tmp 10) rfl rfl l2.out rfl ?_))
      refine (HSAYS.out _ HW1.out).mono ?_
      rintro e w8 ⟨rfl, hb8⟩
      obtain ⟨W9, st9, hW9, hB9, hz9⟩ := fresh w8 #[.int .i64 0, .int .i64 0, .int .i64 0, .int .i64 0, .int .u64 0, .int .u64 0, .int .i64 0, .int .i64 0, .int .i64 0, .int .u64 0, .int .i64 0, .int .i64 0, .int .i64 0, .int .i64 0, .string ⟨#[]⟩] y.row 40 rfl (by kernel_rfl) (Ist.row_one y)
      have HST9 := Lib.hid (((HT.out.later HW1.out).later hb8).later hW9)
      have hX9 := (HB1.out.later hb8).later hW9
      have x3 : W9.cell? ⟨wr.heap.size, 3, none⟩ = some (.int .i64 x.lv) := (hX9.2 3 _ rfl).1
      have hX9 := hX9.1
      have y0 : W9.cell? ⟨w8.heap.size, 0, none⟩ = some (.int .i64 y.k) := (hB9.2 0 _ rfl).1
      have l9 := load_at (cs := y.s.row) (o := 1) 38 _ (fun k v hv => by
        have q : k < 5 := (List.getElem?_eq_some_iff.1 hv).1
        have := hB9.2 (1 + k) v (by rw [Nat.add_comm]; match k, q, hv with | 0, _, hv => exact hv | 1, _, hv => exact hv | 2, _, hv => exact hv | 3, _, hv => exact hv | 4, _, hv => exact hv)
        exact this.1) Tryd.underlying38 rfl (by kernel_rfl)
      obtain ⟨W10, st10, hz10, hB10, hbe10, hot10⟩ := refill (cs := y.s.row) 38 HST9.out.b1 rfl (by kernel_rfl) (Sst.row_one y.s)
      have st9 := Lib.hid st9
      have l9 := Lib.hid l9
      have st10 := Lib.hid st10
      have HST10 : Hid (TI w W10 y.s) := Lib.hid ⟨HST9.out.below.trans (hbe10 _ (by omega) HST9.out.below.size), Nat.lt_of_lt_of_le HST9.out.size hz10, hot10 _ _ (by omega) HST9.out.b0, hB10⟩
      clear hB9 hW9 hb8 HB1 HW1 hB10 hbe10 hot10 l1 l2 st1
      by_cases h3 : y.k = 3
      · rw [if_pos (Or.inl h3)] at HN
        go_wp2_with (first | (guard_target =~ wpList _ _ _ (⟨_, Op.store _ (Operand.tmp 11) (Operand.tmp 20), _, _, _, _⟩ :: _) _ _; refine wpList_store_eq 40 (Operand.tmp 11) (Operand.tmp 20) rfl rfl st9.out rfl rfl ?_) | (guard_target =~ wpList _ _ _ (⟨_, Op.load _ (Operand.tmp 43), _, _, _, _⟩ :: _) _ _; refine wpList_load_eq 38 (Operand.tmp 43) rfl rfl l9.out rfl ?_) | (guard_target =~ wpList _ _ _ (⟨_, Op.store _ (Operand.tmp 7) (Operand.tmp 44), _, _, _, _⟩ :: _) _ _; refine wpList_store_eq 38 (Operand.tmp 7) (Operand.tmp 44) rfl rfl st10.out rfl rfl ?_))
        go_roundw
        case rel => exact ⟨j + 1, by omega, by go_num, by (rw [HN.out]) <;> rfl, by (rw [HN.out]) <;> rfl, by rw [HN.out]; exact HST9.out⟩
        case measure => simp [intOf]; omega
      · have h3b : (y.k == 3) = false := by simpa using h3
        by_cases h4 : x.lv < top
        · rw [if_pos (Or.inr h4)] at HN
          go_wp2_with (first | (guard_target =~ wpList _ _ _ (⟨_, Op.store _ (Operand.tmp 11) (Operand.tmp 20), _, _, _, _⟩ :: _) _ _; refine wpList_store_eq 40 (Operand.tmp 11) (Operand.tmp 20) rfl rfl st9.out rfl rfl ?_) | (guard_target =~ wpList _ _ _ (⟨_, Op.load _ (Operand.tmp 43), _, _, _, _⟩ :: _) _ _; refine wpList_load_eq 38 (Operand.tmp 43) rfl rfl l9.out rfl ?_) | (guard_target =~ wpList _ _ _ (⟨_, Op.store _ (Operand.tmp 7) (Operand.tmp 44), _, _, _, _⟩ :: _) _ _; refine wpList_store_eq 38 (Operand.tmp 7) (Operand.tmp 44) rfl rfl st10.out rfl rfl ?_))
          go_roundw
          case rel => exact ⟨j + 1, by omega, by go_num, by (rw [HN.out]) <;> rfl, by (rw [HN.out]) <;> rfl, by rw [HN.out]; exact HST9.out⟩
          case measure => simp [intOf]; omega
        · rw [if_neg (fun q => q.elim h3 h4)] at HN
          by_cases h5 : top < x.lv
          · rw [if_pos h5, if_pos h5] at HN
            by_cases h6 : y.k = 0
            · rw [if_neg (fun q => q.1 h6)] at HN
              go_wp2_with (first | (guard_target =~ wpList _ _ _ (⟨_, Op.store _ (Operand.tmp 11) (Operand.tmp 20), _, _, _, _⟩ :: _) _ _; refine wpList_store_eq 40 (Operand.tmp 11) (Operand.tmp 20) rfl rfl st9.out rfl rfl ?_) | (guard_target =~ wpList _ _ _ (⟨_, Op.load _ (Operand.tmp 43), _, _, _, _⟩ :: _) _ _; refine wpList_load_eq 38 (Operand.tmp 43) rfl rfl l9.out rfl ?_) | (guard_target =~ wpList _ _ _ (⟨_, Op.store _ (Operand.tmp 7) (Operand.tmp 44), _, _, _, _⟩ :: _) _ _; refine wpList_store_eq 38 (Operand.tmp 7) (Operand.tmp 44) rfl rfl st10.out rfl rfl ?_))
              go_roundw
              case rel => exact ⟨j + 1, by omega, by go_num, by (rw [HN.out]) <;> rfl, by (rw [HN.out]) <;> rfl, by rw [HN.out]; exact HST9.out⟩
              case measure => simp [intOf]; omega
            · rw [if_pos ⟨h6, rfl⟩] at HN
              have h6b : (y.k == 0) = false := by simpa using h6
              go_wp2_with (first | (guard_target =~ wpList _ _ _ (⟨_, Op.store _ (Operand.tmp 11) (Operand.tmp 20), _, _, _, _⟩ :: _) _ _; refine wpList_store_eq 40 (Operand.tmp 11) (Operand.tmp 20) rfl rfl st9.out rfl rfl ?_) | (guard_target =~ wpList _ _ _ (⟨_, Op.load _ (Operand.tmp 43), _, _, _, _⟩ :: _) _ _; refine wpList_load_eq 38 (Operand.tmp 43) rfl rfl l9.out rfl ?_) | (guard_target =~ wpList _ _ _ (⟨_, Op.store _ (Operand.tmp 7) (Operand.tmp 44), _, _, _, _⟩ :: _) _ _; refine wpList_store_eq 38 (Operand.tmp 7) (Operand.tmp 44) rfl rfl st10.out rfl rfl ?_))
              go_roundw
              case rel => exact ⟨j + 1, by omega, by go_num, by (rw [HN.out]) <;> rfl, by (rw [HN.out]) <;> rfl, by rw [HN.out]; exact HST10.out⟩
              case measure => simp [intOf]; omega
          · rw [if_neg h5, if_neg h5] at HN
            by_cases h6 : y.k = 0
            · rw [if_neg (fun q => q.1 h6)] at HN
              go_wp2_with (first | (guard_target =~ wpList _ _ _ (⟨_, Op.store _ (Operand.tmp 11) (Operand.tmp 20), _, _, _, _⟩ :: _) _ _; refine wpList_store_eq 40 (Operand.tmp 11) (Operand.tmp 20) rfl rfl st9.out rfl rfl ?_) | (guard_target =~ wpList _ _ _ (⟨_, Op.load _ (Operand.tmp 43), _, _, _, _⟩ :: _) _ _; refine wpList_load_eq 38 (Operand.tmp 43) rfl rfl l9.out rfl ?_) | (guard_target =~ wpList _ _ _ (⟨_, Op.store _ (Operand.tmp 7) (Operand.tmp 44), _, _, _, _⟩ :: _) _ _; refine wpList_store_eq 38 (Operand.tmp 7) (Operand.tmp 44) rfl rfl st10.out rfl rfl ?_))
              go_roundw
              case rel => exact ⟨j + 1, by omega, by go_num, by (rw [HN.out]) <;> rfl, by (rw [HN.out]) <;> rfl, by rw [HN.out]; exact HST9.out⟩
              case measure => simp [intOf]; omega
            · have h6b : (y.k == 0) = false := by simpa using h6
              cases fd with
              | true =>
                rw [if_neg (fun q => nomatch q.2)] at HN
                go_wp2_with (first | (guard_target =~ wpList _ _ _ (⟨_, Op.store _ (Operand.tmp 11) (Operand.tmp 20), _, _, _, _⟩ :: _) _ _; refine wpList_store_eq 40 (Operand.tmp 11) (Operand.tmp 20) rfl rfl st9.out rfl rfl ?_) | (guard_target =~ wpList _ _ _ (⟨_, Op.load _ (Operand.tmp 43), _, _, _, _⟩ :: _) _ _; refine wpList_load_eq 38 (Operand.tmp 43) rfl rfl l9.out rfl ?_) | (guard_target =~ wpList _ _ _ (⟨_, Op.store _ (Operand.tmp 7) (Operand.tmp 44), _, _, _, _⟩ :: _) _ _; refine wpList_store_eq 38 (Operand.tmp 7) (Operand.tmp 44) rfl rfl st10.out rfl rfl ?_))
                go_roundw
                case rel => exact ⟨j + 1, by omega, by go_num, by (rw [HN.out]) <;> rfl, by (rw [HN.out]) <;> rfl, by rw [HN.out]; exact HST9.out⟩
                case measure => simp [intOf]; omega
              | false =>
                rw [if_pos ⟨h6, rfl⟩] at HN
                go_wp2_with (first | (guard_target =~ wpList _ _ _ (⟨_, Op.store _ (Operand.tmp 11) (Operand.tmp 20), _, _, _, _⟩ :: _) _ _; refine wpList_store_eq 40 (Operand.tmp 11) (Operand.tmp 20) rfl rfl st9.out rfl rfl ?_) | (guard_target =~ wpList _ _ _ (⟨_, Op.load _ (Operand.tmp 43), _, _, _, _⟩ :: _) _ _; refine wpList_load_eq 38 (Operand.tmp 43) rfl rfl l9.out rfl ?_) | (guard_target =~ wpList _ _ _ (⟨_, Op.store _ (Operand.tmp 7) (Operand.tmp 44), _, _, _, _⟩ :: _) _ _; refine wpList_store_eq 38 (Operand.tmp 7) (Operand.tmp 44) rfl rfl st10.out rfl rfl ?_))
                go_roundw
                case rel => exact ⟨j + 1, by omega, by go_num, by (rw [HN.out]) <;> rfl, by (rw [HN.out]) <;> rfl, by rw [HN.out]; exact HST10.out⟩
                case measure => simp [intOf]; omega
    · obtain rfl : j = L := by omega
      have HEQ : Hid (told (l.take j) n = told l n) := Lib.hid (by rw [HLL.out, List.take_length])
      clear hT
      generalize told (l.take j) n = t0 at *
      obtain ⟨top, st, fd⟩ := t0
      have l1 := load_at 38 _ HT.out.b1.range Tryd.underlying38 rfl (by kernel_rfl)
      obtain ⟨W10, st10, hz10, hB10, hbe10, hot10⟩ := refill (cs := st.row) 38 HT.out.b0 rfl (by kernel_rfl) (Sst.row_one st)
      have HB2 := Lib.hid hB10
      have l1 := Lib.hid l1
      have st10 := Lib.hid st10
      have HB3 := Lib.hid (HT.out.below.trans (hbe10 _ (Nat.le_refl _) HT.out.below.size))
      clear hbe10 hot10 hB10
      go_wp2_with (first | (guard_target =~ wpList _ _ _ (⟨_, Op.load _ (Operand.tmp 7), _, _, _, _⟩ :: _) _ _; refine wpList_load_eq 38 (Operand.tmp 7) rfl rfl l1.out rfl ?_) | (guard_target =~ wpList _ _ _ (⟨_, Op.store _ (Operand.tmp 4) (Operand.tmp 46), _, _, _, _⟩ :: _) _ _; refine wpList_store_eq 38 (Operand.tmp 4) (Operand.tmp 46) rfl rfl st10.out rfl rfl ?_))
      refine bodyPost_ret (results_told rfl rfl HB2.out) rfl ?_
      exact ⟨by rw [← HEQ.out]; rfl, HB3.out⟩
end Go.Proofs.YtpbjjmenkoigjaaDoor
end

section
namespace Go.Proofs.YtpbjjmenkoigjaaDoor
open Go.RowKit
set_option linter.unusedVariables false
theorem results_held {tmps : Array Value} {w : World} {g : Nat} {s : Est} {v : Value} (hp : tmps[6]?.getD undef = .pointer (some ⟨g, 0, none⟩)) (hv : tmps[7]?.getD undef = v) (hB : Blk w g s.row) :
    (results Tryd.f31 tmps).run Tryd.prog w = .ok (.tuple #[.agg s.row, v]) w := by
  have hl := run_loadVar_mid (P := Tryd.prog) w g 0 35 s.row.toList _ hB.range Tryd.underlying35 rfl (by kernel_rfl)
  rw [show results Tryd.f31 tmps = (do return .tuple #[← loadVar 35 (← asAddr (tmps[6]?.getD undef)), (tmps[7]?.getD undef)]) from by simp [results], hp, hv]
  simp [asAddr, hl]
theorem find_at {α : Type} {p : α → Bool} : ∀ {l : List α} {j : Nat} {x : α}, l[j]? = some x → p x = true → (∀ m ∈ l.take j, p m = false) → l.find? p = some x
  | [], _, _, h, _, _ => by simp at h
  | a :: l, 0, x, h, hp, _ => by simp at h; subst h; simp [List.find?, hp]
  | a :: l, j + 1, x, h, hp, hf => by
    have ha : p a = false := hf a (by simp)
    rw [List.find?_cons, ha]
    exact find_at (l := l) (j := j) (by simpa using h) hp (fun m hm => hf m (by simp [hm]))
theorem Sst.ne {a b : Sst} (h : ¬ a = b) : (a.o == b.o) = false ∨ (a.v == b.v) = false ∨ (a.u == b.u) = false ∨ (a.p == b.p) = false ∨ (a.s == b.s) = false := by
  obtain ⟨a1, a2, a3, a4, a5⟩ := a
  obtain ⟨b1, b2, b3, b4, b5⟩ := b
  simp only [beq_eq_false_iff_ne]
  by_cases h1 : a1 = b1
  · by_cases h2 : a2 = b2
    · by_cases h3 : a3 = b3
      · by_cases h4 : a4 = b4
        · by_cases h5 : a5 = b5
          · exact absurd (by rw [h1, h2, h3, h4, h5]) h
          · exact .inr (.inr (.inr (.inr h5)))
        · exact .inr (.inr (.inr (.inl h4)))
      · exact .inr (.inr (.inl h3))
    · exact .inr (.inl h2)
  · exact .inl h1
/-- In the loop of held: the world since w. -/
structure HI (w wr : World) (s : Sst) : Prop where
  below : Below w.heap.size w wr
  size : w.heap.size + 1 < wr.heap.size
  b0 : Blk wr w.heap.size s.row
  b1 : Blk wr (w.heap.size + 1) Est.zero.row
theorem HI.later {w wr w' : World} {s : Sst} (h : HI w wr s) (hb : Below wr.heap.size wr w') : HI w w' s :=
  ⟨h.below.trans (hb.mono h.below.size), Nat.lt_of_lt_of_le h.size hb.size, h.b0.later hb, h.b1.later hb⟩
/-- What held answers. -/
def heldV : Option Est → Value
  | some e => .tuple #[.agg e.row, .bool true]
  | none => .tuple #[.agg Est.zero.row, .bool false]
set_option maxRecDepth 100000 in
set_option maxHeartbeats 20000000 in
theorem held_any (ad : Option Addr) (cap : Nat) (l : List Mst) (n : Int) (s : Sst) (w : World) (hl : LogsAt w ad cap l) (hn : 1 ≤ n ∧ n ≤ 72057594037927936) (hco : ∀ m ∈ l, 0 ≤ m.co ∧ m.co ≤ 72057594037927935) :
    Calls Tryd.prog 31 #[.slice ad l.length cap, .int .i64 n, .agg s.row] w fun e w' => e = .returned (heldV (held l n s)) ∧ Below w.heap.size w w' := by
  have HL := Lib.hid hl
  have HCO := Lib.hid hco
  obtain ⟨L, hLL⟩ : ∃ L, L = l.length := ⟨_, rfl⟩
  have HLL := Lib.hid hLL
  have hcap := hl.cap
  have hsm := hl.small
  rw [← hLL] at hcap hsm ⊢
  have HS : Hid (HI w ((w.alloc (.cells #[.int .i64 s.o, .int .i64 s.v, .int .i64 s.u, .int .u64 s.p, .int .u64 s.s] 38)).alloc (.cells #[.int .i64 0, .int .i64 0, .int .i64 0, .int .u64 0, .int .i64 0, .int .i64 0, .int .i64 0, .int .i64 0, .string ⟨#[]⟩] 35)) s) := Lib.hid ⟨((Below.refl _ _).alloc (Nat.le_refl _) _).alloc (by simp) _, by simp, Blk.alloc (Blk.new _ _ _ _ rfl) _, Blk.new _ _ _ _ (by simp)⟩
  clear hl hco hLL
  unfold Sst.row
  go_enter Tryd.func31, Tryd.ntmps31
  go_wp2_with fail
  go_loopw [13] (fun iv wr => ∃ j : Nat, j ≤ L ∧ iv = .int .i64 (j : Int) ∧ (∀ m ∈ l.take j, hasIt n s m = false) ∧ HI w wr s) (fun iv _ => L - (intOf iv).toNat)
  case atStart => exact ⟨0, by omega, rfl, by simp, HS.out⟩
  case round =>
    clear HS
    obtain ⟨j, hj, rfl, hf, hT⟩ := hrel
    have HF := Lib.hid hf
    have HT := Lib.hid hT
    have hsz := hT.size
    by_cases hlt : j < L
    · obtain ⟨x, hx⟩ : ∃ x, l[j]? = some x := ⟨l[j]'(by rw [← HLL.out]; exact hlt), List.getElem?_eq_getElem _⟩
      have hLw := HL.out.later hT.below
      obtain ⟨b, off, rfl, hbw, hra⟩ := hLw.rows.range (i := j) (x := x.row) (by rw [List.getElem?_map, hx]; rfl)
      have HM : Hid (x ∈ l) := Lib.hid (List.mem_of_getElem? hx)
      have HIN := Lib.hid (hLw.ins x HM.out)
      have HX := Lib.hid hx
      clear hT hLw hf hx
      obtain ⟨y, hy⟩ : ∃ y, y = x.says n := ⟨_, rfl⟩
      have l1 := Lib.hid (load_at 45 _ hra Tryd.underlying45 rfl (by kernel_rfl))
      obtain ⟨W1, st1, hW1, hB1, hz1⟩ := fresh wr #[.int .i64 0, .int .i64 0, .int .i64 0, .int .i64 0, .int .i64 0, .int .i64 0, .int .i64 0, .int .i64 0, .int .i64 0, .int .i64 0, .int .i64 0, .int .i64 0, .int .i64 0, .int .i64 0, .int .u64 0, .int .u64 0, .int .u64 0, .int .u64 0, .int .u64 0, .int .u64 0, .int .u64 0, .int .i64 0, .int .i64 0, .int .i64 0, .int .u64 0, .int .i64 0, .int .i64 0, .int .i64 0, .int .i64 0, .string ⟨#[]⟩, .slice none 0 0, .slice none 0 0, .string ⟨#[]⟩] x.row 45 rfl (by kernel_rfl) (Mst.row_one x)
      have l2 := Lib.hid (load_at 45 _ hB1.range Tryd.underlying45 rfl (by kernel_rfl))
      have st1 := Lib.hid st1
      have HW1 := Lib.hid hW1
      clear hra hB1 hbw hW1
      have HSAYS : Hid (∀ W, Below wr.heap.size wr W → Calls Tryd.prog 41 #[.agg x.row, .int .i64 n] W fun e w' => e = .returned (.agg y.row) ∧ Below W.heap.size W w') := Lib.hid (fun W hW => by rw [hy]; exact says_any x n W (HIN.out.later hW) hn (HCO.out x HM.out))
      have HY := Lib.hid hy
      clear hy
      go_wp2_with (first | (guard_target =~ wpList _ _ _ (⟨_, Op.load _ (Operand.tmp 15), _, _, _, _⟩ :: _) _ _; refine wpList_load_eq 45 (Operand.tmp 15) rfl rfl l1.out rfl ?_) | (guard_target =~ wpList _ _ _ (⟨_, Op.store _ (Operand.tmp 9) (Operand.tmp 16), _, _, _, _⟩ :: _) _ _; refine wpList_store_eq 45 (Operand.tmp 9) (Operand.tmp 16) rfl rfl st1.out rfl rfl ?_) | (guard_target =~ wpList _ _ _ (⟨_, Op.load _ (Operand.tmp 9), _, _, _, _⟩ :: _) _ _; refine wpList_load_eq 45 (Operand.tmp 9) rfl rfl l2.out rfl ?_))
      refine (HSAYS.out _ HW1.out).mono ?_
      rintro e w8 ⟨rfl, hb8⟩
      obtain ⟨W9, st9, hW9, hB9, hz9⟩ := fresh w8 #[.int .i64 0, .int .i64 0, .int .i64 0, .int .i64 0, .int .u64 0, .int .u64 0, .int .i64 0, .int .i64 0, .int .i64 0, .int .u64 0, .int .i64 0, .int .i64 0, .int .i64 0, .int .i64 0, .string ⟨#[]⟩] y.row 40 rfl (by kernel_rfl) (Ist.row_one y)
      have HT9 := Lib.hid (((HT.out.later HW1.out).later hb8).later hW9)
      have y0 : W9.cell? ⟨w8.heap.size, 0, none⟩ = some (.int .i64 y.k) := (hB9.2 0 _ rfl).1
      have y1 : W9.cell? ⟨w8.heap.size, 1, none⟩ = some (.int .i64 y.s.o) := (hB9.2 1 _ rfl).1
      have y2 : W9.cell? ⟨w8.heap.size, 2, none⟩ = some (.int .i64 y.s.v) := (hB9.2 2 _ rfl).1
      have y3 : W9.cell? ⟨w8.heap.size, 3, none⟩ = some (.int .i64 y.s.u) := (hB9.2 3 _ rfl).1
      have y4 : W9.cell? ⟨w8.heap.size, 4, none⟩ = some (.int .u64 y.s.p) := (hB9.2 4 _ rfl).1
      have y5 : W9.cell? ⟨w8.heap.size, 5, none⟩ = some (.int .u64 y.s.s) := (hB9.2 5 _ rfl).1
      have z0 : W9.cell? ⟨w.heap.size, 0, none⟩ = some (.int .i64 s.o) := (HT9.out.b0.2 0 _ rfl).1
      have z1 : W9.cell? ⟨w.heap.size, 1, none⟩ = some (.int .i64 s.v) := (HT9.out.b0.2 1 _ rfl).1
      have z2 : W9.cell? ⟨w.heap.size, 2, none⟩ = some (.int .i64 s.u) := (HT9.out.b0.2 2 _ rfl).1
      have z3 : W9.cell? ⟨w.heap.size, 3, none⟩ = some (.int .u64 s.p) := (HT9.out.b0.2 3 _ rfl).1
      have z4 : W9.cell? ⟨w.heap.size, 4, none⟩ = some (.int .u64 s.s) := (HT9.out.b0.2 4 _ rfl).1
      have hra9 : W9.rangeAt w8.heap.size 6 y.e.row.toList := fun k v hv => by
        have q : k < 9 := (List.getElem?_eq_some_iff.1 hv).1
        exact (hB9.2 (6 + k) v (by rw [Nat.add_comm]; match k, q, hv with | 0, _, hv => exact hv | 1, _, hv => exact hv | 2, _, hv => exact hv | 3, _, hv => exact hv | 4, _, hv => exact hv | 5, _, hv => exact hv | 6, _, hv => exact hv | 7, _, hv => exact hv | 8, _, hv => exact hv)).1
      have l9 := Lib.hid (load_at (cs := y.e.row) 35 _ hra9 Tryd.underlying35 rfl (by kernel_rfl))
      obtain ⟨W10, st10, hz10, hB10, hbe10, hot10⟩ := refill (cs := y.e.row) 35 HT9.out.b1 rfl (by kernel_rfl) (Est.row_one y.e)
      have st9 := Lib.hid st9
      have st10 := Lib.hid st10
      have HB10 := Lib.hid hB10
      have HBE := Lib.hid (HT9.out.below.trans (hbe10 _ (by omega) HT9.out.below.size))
      clear hB9 hra9 hW9 hb8 HW1 hB10 hbe10 hot10 l1 l2 st1
      by_cases h1 : y.k = 1
      · have h1b : (y.k == 1) = true := by simpa using h1
        have HK := Lib.hid h1
        clear h1
        by_cases hs : y.s = s
        · have q0 : (y.s.o == s.o) = true := by simp [hs]
          have q1 : (y.s.v == s.v) = true := by simp [hs]
          have q2 : (y.s.u == s.u) = true := by simp [hs]
          have q3 : (y.s.p == s.p) = true := by simp [hs]
          have q4 : (y.s.s == s.s) = true := by simp [hs]
          have HFND : Hid (held l n s = some y.e) := Lib.hid (by unfold held; rw [find_at HX.out (hasIt_yes (by rw [← HY.out]; exact HK.out) (by rw [← HY.out]; exact hs)) HF.out, HY.out]; rfl)
          clear hs
          go_wp2_with (first | (guard_target =~ wpList _ _ _ (⟨_, Op.store _ (Operand.tmp 10) (Operand.tmp 19), _, _, _, _⟩ :: _) _ _; refine wpList_store_eq 40 (Operand.tmp 10) (Operand.tmp 19) rfl rfl st9.out rfl rfl ?_) | (guard_target =~ wpList _ _ _ (⟨_, Op.load _ (Operand.tmp 29), _, _, _, _⟩ :: _) _ _; refine wpList_load_eq 35 (Operand.tmp 29) rfl rfl l9.out rfl ?_) | (guard_target =~ wpList _ _ _ (⟨_, Op.store _ (Operand.tmp 6) (Operand.tmp 30), _, _, _, _⟩ :: _) _ _; refine wpList_store_eq 35 (Operand.tmp 6) (Operand.tmp 30) rfl rfl st10.out rfl rfl ?_))
          refine bodyPost_ret (results_held (s := y.e) rfl rfl HB10.out) rfl ?_
          exact ⟨by rw [HFND.out]; rfl, HBE.out⟩
        · have HN : Hid (∀ m ∈ l.take (j + 1), hasIt n s m = false) := Lib.hid (by
            rw [take_snoc HX.out]
            intro m hm
            rcases List.mem_append.1 hm with hm | hm
            · exact HF.out m hm
            · simp at hm; subst hm; exact hasIt_no (fun q => hs (by rw [HY.out]; exact q.2)))
          have hne : (y.s.o == s.o) = false ∨ (y.s.v == s.v) = false ∨ (y.s.u == s.u) = false ∨ (y.s.p == s.p) = false ∨ (y.s.s == s.s) = false := Sst.ne hs
          clear hs
          rcases hne with q | q | q | q | q
          · go_wp2_with (first | (guard_target =~ wpList _ _ _ (⟨_, Op.store _ (Operand.tmp 10) (Operand.tmp 19), _, _, _, _⟩ :: _) _ _; refine wpList_store_eq 40 (Operand.tmp 10) (Operand.tmp 19) rfl rfl st9.out rfl rfl ?_))
            go_roundw
            case rel => exact ⟨j + 1, by omega, by go_num, HN.out, HT9.out⟩
            case measure => simp [intOf]; omega
          · go_wp2_with (first | (guard_target =~ wpList _ _ _ (⟨_, Op.store _ (Operand.tmp 10) (Operand.tmp 19), _, _, _, _⟩ :: _) _ _; refine wpList_store_eq 40 (Operand.tmp 10) (Operand.tmp 19) rfl rfl st9.out rfl rfl ?_))
            go_roundw
            case rel => exact ⟨j + 1, by omega, by go_num, HN.out, HT9.out⟩
            case measure => simp [intOf]; omega
          · go_wp2_with (first | (guard_target =~ wpList _ _ _ (⟨_, Op.store _ (Operand.tmp 10) (Operand.tmp 19), _, _, _, _⟩ :: _) _ _; refine wpList_store_eq 40 (Operand.tmp 10) (Operand.tmp 19) rfl rfl st9.out rfl rfl ?_))
            go_roundw
            case rel => exact ⟨j + 1, by omega, by go_num, HN.out, HT9.out⟩
            case measure => simp [intOf]; omega
          · go_wp2_with (first | (guard_target =~ wpList _ _ _ (⟨_, Op.store _ (Operand.tmp 10) (Operand.tmp 19), _, _, _, _⟩ :: _) _ _; refine wpList_store_eq 40 (Operand.tmp 10) (Operand.tmp 19) rfl rfl st9.out rfl rfl ?_))
            go_roundw
            case rel => exact ⟨j + 1, by omega, by go_num, HN.out, HT9.out⟩
            case measure => simp [intOf]; omega
          · go_wp2_with (first | (guard_target =~ wpList _ _ _ (⟨_, Op.store _ (Operand.tmp 10) (Operand.tmp 19), _, _, _, _⟩ :: _) _ _; refine wpList_store_eq 40 (Operand.tmp 10) (Operand.tmp 19) rfl rfl st9.out rfl rfl ?_))
            go_roundw
            case rel => exact ⟨j + 1, by omega, by go_num, HN.out, HT9.out⟩
            case measure => simp [intOf]; omega
      · have h1b : (y.k == 1) = false := by simpa using h1
        have HN : Hid (∀ m ∈ l.take (j + 1), hasIt n s m = false) := Lib.hid (by
          rw [take_snoc HX.out]
          intro m hm
          rcases List.mem_append.1 hm with hm | hm
          · exact HF.out m hm
          · simp at hm; subst hm; exact hasIt_no (fun q => h1 (by rw [HY.out]; exact q.1)))
        clear h1
        go_wp2_with (first | (guard_target =~ wpList _ _ _ (⟨_, Op.store _ (Operand.tmp 10) (Operand.tmp 19), _, _, _, _⟩ :: _) _ _; refine wpList_store_eq 40 (Operand.tmp 10) (Operand.tmp 19) rfl rfl st9.out rfl rfl ?_))
        go_roundw
        case rel => exact ⟨j + 1, by omega, by go_num, HN.out, HT9.out⟩
        case measure => simp [intOf]; omega
    · obtain rfl : j = L := by omega
      have HNONE : Hid (held l n s = none) := Lib.hid (by
        rw [HLL.out, List.take_length] at hf
        unfold held
        rw [List.find?_eq_none.2 (fun m hm => by rw [hf m hm]; simp)]
        rfl)
      obtain ⟨W10, st10, hz10, hB10, hbe10, hot10⟩ := refill (cs := #[.int .i64 0, .int .i64 0, .int .i64 0, .int .u64 0, .int .i64 0, .int .i64 0, .int .i64 0, .int .i64 0, .string ⟨#[]⟩]) 35 HT.out.b1 rfl (by kernel_rfl) (Est.row_one Est.zero)
      have st10 := Lib.hid st10
      have HB2 := Lib.hid hB10
      have HB3 := Lib.hid (HT.out.below.trans (hbe10 _ (by omega) HT.out.below.size))
      clear hbe10 hot10 hB10 hf hT
      go_wp2_with (first | (guard_target =~ wpList _ _ _ (⟨_, Op.store _ (Operand.tmp 6) (Operand.tmp 32), _, _, _, _⟩ :: _) _ _; refine wpList_store_eq 35 (Operand.tmp 6) (Operand.tmp 32) rfl rfl st10.out rfl rfl ?_))
      refine bodyPost_ret (results_held (s := Est.zero) rfl rfl HB2.out) rfl ?_
      exact ⟨by rw [HNONE.out]; rfl, HB3.out⟩
end Go.Proofs.YtpbjjmenkoigjaaDoor
end

section
namespace Go.Proofs.YtpbjjmenkoigjaaDoor
open Go.RowKit
theorem run_str (w : World) (p : Option Addr) (n cap : Nat) (l : List Nat) (h : Holds w (.slice p n cap) l) : (convert 97 9 (.slice p n cap)).run Tryd.prog w = .ok (.string (text l)) w := by
  obtain ⟨hn, hp, hc⟩ := h.cells
  subst hn
  cases p with
  | none =>
    have := hp rfl
    subst this
    exact run_convert_bytes_nil w 97 5 Tryd.underlying97 Tryd.underlying5 _ _ _ Tryd.underlying9
  | some ad =>
    have := run_convert_bytes_back (P := Tryd.prog) w 97 9 5 ad cap (u8s l) Tryd.underlying97 Tryd.underlying5 Tryd.underlying9 (fun j hj => by
      have hj' : j < l.length := by simpa [u8s] using hj
      have hlt := h.1 l[j] (List.getElem_mem hj')
      rw [hc ad rfl j (.int .u8 ((l[j] : Nat) : Int)) (by unfold cells8; rw [List.getElem?_map, List.getElem?_eq_getElem hj']; rfl)]
      simp only [u8s, List.getElem_map, UInt8.toNat_ofNat']
      rw [Nat.mod_eq_of_lt hlt])
    rw [u8s_length] at this
    exact this
theorem puttext_long (v : Value) (s : ByteArray) (w : World) (hl : 65535 < s.size) :
    Calls Tryd.prog 86 #[v, .string s] w fun e w' => e = .returned (.tuple #[.slice none 0 0, .int .i64 5]) ∧ w = w' := by
  go_enter Tryd.func86, Tryd.ntmps86
  go_wp2_with fail
  go_ret2
  exact ⟨rfl, rfl⟩
theorem BB.row_ (w : World) (s : ByteArray) (cap t n : Nat) : BB (w.alloc (.cells (bytesRow s cap) t ((bytesRow s cap).size, n))) w.heap.size (nats s) := by
  intro j x hx
  have hj : j < s.size := by
    have := (List.getElem?_eq_some_iff.1 hx).1
    rwa [nats_length] at this
  have hb := heap_alloc_new w (.cells (bytesRow s cap) t ((bytesRow s cap).size, n))
  have hj' : j < s.data.size := hj
  have hrow : (bytesRow s cap)[j]? = some (.int .u8 (x : Int)) := by
    rw [nats_get s j hj] at hx
    injection hx with hx
    subst hx
    unfold bytesRow
    rw [Array.getElem?_append_left (by simpa using hj')]
    rw [Array.getElem?_map, Array.getElem?_eq_getElem hj']
    rfl
  refine ⟨by rw [cell_of_row _ _ _ _ _ _ hb]; exact hrow, ?_⟩
  have hlt : j < (bytesRow s cap).size := by
    rcases Nat.lt_or_ge j (bytesRow s cap).size with h | h
    · exact h
    · rw [Array.getElem?_eq_none h] at hrow; cases hrow
  unfold World.frozen?
  rw [hb]
  simp
  omega
theorem BB.pair (w : World) (a b t : Nat) : BB (w.alloc (.cells #[.int .u8 (a : Int), .int .u8 (b : Int)] t)) w.heap.size [a, b] := by
  intro j x hx
  have hb := heap_alloc_new w (.cells #[.int .u8 (a : Int), .int .u8 (b : Int)] t)
  refine ⟨?_, ?_⟩
  · rw [cell_of_row _ _ _ _ _ _ hb]
    match j, hx with
    | 0, hx => simp at hx; subst hx; rfl
    | 1, hx => simp at hx; subst hx; rfl
  · unfold World.frozen?
    rw [hb]
    simp
/-- The three parts of a text behind bytes. -/
theorem parts3 (w : World) (v0 v1 v2 : Value) (l : List Nat) (a b gc m t5 t22 : Nat) (s : ByteArray) (ha : a < 256) (hb : b < 256) (h0 : Holds w v0 l) (hm : m = (bytesRow s gc).size + 1)
    (h1 : v1 = .slice (some ⟨w.heap.size, 0, none⟩) 2 2) (h2 : v2 = .slice (some ⟨w.heap.size + 1, 0, none⟩) s.size gc) (W : World)
    (hW : W = ((((w.alloc (.cells #[.int .u8 (a : Int), .int .u8 (b : Int)] t5)).alloc (.cells (bytesRow s gc) t5 ((bytesRow s gc).size, m))).alloc (.cells #[v0, v1, v2] t22)).drew)) :
    Holds W v0 l ∧ Holds W v1 [a, b] ∧ Holds W v2 (nats s) ∧ W.cell? ⟨w.heap.size + 1 + 1, 0, none⟩ = some v0 ∧ W.cell? ⟨w.heap.size + 1 + 1, 1, none⟩ = some v1 ∧ W.cell? ⟨w.heap.size + 1 + 1, 2, none⟩ = some v2 ∧ Below w.heap.size w W := by
  subst hW h1 h2 hm
  have b1 : Below w.heap.size w (w.alloc (.cells #[.int .u8 (a : Int), .int .u8 (b : Int)] t5)) := (Below.refl _ _).alloc (Nat.le_refl _) _
  generalize hw1 : w.alloc (.cells #[.int .u8 (a : Int), .int .u8 (b : Int)] t5) = w1 at *
  have s1 : w1.heap.size = w.heap.size + 1 := by rw [← hw1]; simp
  have B1 : BB w1 w.heap.size [a, b] := by rw [← hw1]; exact BB.pair w a b t5
  have b2 : Below w1.heap.size w1 (w1.alloc (.cells (bytesRow s gc) t5 ((bytesRow s gc).size, (bytesRow s gc).size + 1))) := (Below.refl _ _).alloc (Nat.le_refl _) _
  have B2 := BB.row_ w1 s gc t5 ((bytesRow s gc).size + 1)
  generalize hw2 : w1.alloc (.cells (bytesRow s gc) t5 ((bytesRow s gc).size, (bytesRow s gc).size + 1)) = w2 at *
  have s2 : w2.heap.size = w.heap.size + 1 + 1 := by rw [← hw2]; simp [s1]
  have b3 := fun o => ((Below.refl w2.heap.size w2).alloc (Nat.le_refl _) o).drew
  rw [s1] at B2
  have H1 := B1.holds (fun x hx => by simp at hx; omega) 2 2 (by simp)
  have H2 := B2.holds (nats_lt s) s.size gc (by rw [nats_length]; exact Nat.le_refl _)
  rw [List.take_of_length_le (by rw [nats_length]; exact Nat.le_refl _)] at H2
  have hcell := fun cs i v h => new_cell w2 cs t22 i v h
  rw [s2] at hcell
  refine ⟨((h0.later b1).later b2).later (b3 _), (H1.later b2).later (b3 _), H2.later (b3 _), hcell _ 0 _ rfl, hcell _ 1 _ rfl, hcell _ 2 _ rfl, ?_⟩
  exact (b1.trans (b2.mono (by omega))).trans ((b3 _).mono (by omega))
theorem leN_two (n : Nat) (h : n ≤ 65535) : leN n 2 = [n % 256, n / 256] := by
  have e : n / 256 % 256 = n / 256 := by omega
  simp [leN, List.range_succ, e]
set_option maxHeartbeats 1000000 in
theorem puttext_ok (p : Option Addr) (cap : Nat) (l : List Nat) (s : ByteArray) (w : World) (hb : Holds w (.slice p l.length cap) l) (hl : s.size ≤ 65535) (hlen : l.length + 65537 ≤ 140737488355328) :
    Calls Tryd.prog 86 #[.slice p l.length cap, .string s] w fun e w' => ∃ v', e = .returned (.tuple #[v', .int .i64 0]) ∧ Fresh w.heap.size w' v' (l ++ leN s.size 2 ++ nats s) ∧ Below w.heap.size w w' := by
  have hcv := fun (W : World) => run_bytes_of_string (P := Tryd.prog) W 9 97 5 s Tryd.underlying9 Tryd.underlying97 Tryd.underlying5
  have HB := Lib.hid hb
  clear hb
  go_enter Tryd.func86, Tryd.ntmps86
  go_wp2_with fail
  clear hcv
  generalize grownCap _ s.size 0 5 = gc
  obtain ⟨h0, h1, h2, c0, c1, c2, hbel⟩ := parts3 w _ _ _ l (s.size % 256) (s.size / 256) gc _ 5 97 s (Nat.mod_lt _ (by decide)) (by omega) HB.out rfl rfl rfl _ rfl
  simp only [Int.natCast_emod, Int.natCast_ediv] at h0 h1 h2 c0 c1 c2 hbel
  refine (join3 _ _ _ _ _ _ _ _ h0 h1 h2 c0 c1 c2 (by rw [nats_length]; simp; omega)).mono ?_
  have hsz := hbel.size
  have HBEL := Lib.hid hbel
  clear h0 h1 h2 c0 c1 c2 hbel
  rintro e w2 ⟨v', rfl, hF, hb2⟩
  rw [← leN_two s.size hl] at hF
  have HF := Lib.hid hF
  have HB2 := Lib.hid hb2
  clear hF hb2
  go_wp2_with fail
  go_ret2
  exact ⟨v', rfl, HF.out.mono hsz, HBEL.out.trans (HB2.out.mono hsz)⟩
theorem Fresh.slice {B : Nat} {w : World} {v : Value} {l : List Nat} (h : Fresh B w v l) : ∃ g cap, v = .slice (some ⟨g, 0, none⟩) l.length cap ∧ l.length ≤ cap := by
  obtain ⟨_, g, cap, zs, hv, _, hc, _⟩ := h
  rw [u8s_length] at hv hc
  exact ⟨g, cap, hv, hc⟩
theorem OwnB.slice {B : Nat} {w : World} {v : Value} {l : List Nat} (h : OwnB B w v l) : ∃ p cap, v = .slice p l.length cap ∧ l.length ≤ cap := by
  rcases h.2.2 with ⟨rfl, hn⟩ | ⟨g, cap, cur, rfl, _, _, hc, _⟩
  · exact ⟨none, 0, by rw [hn], by omega⟩
  · exact ⟨_, cap, rfl, hc⟩
end Go.Proofs.YtpbjjmenkoigjaaDoor
end

section
namespace Go.Proofs.YtpbjjmenkoigjaaDoor
open Go.RowKit
/-- What taking a text answers: its bytes, the place behind it, the error. -/
def textR (l : List Nat) (at_ most : Int) : List Nat × Int × Int :=
  if (takeR l at_ 2).2 ≠ 0 then ([], 0, (takeR l at_ 2).2) else if most < (takeR l at_ 2).1 then ([], 0, 5) else if (l.length : Int) - at_ - 2 < (takeR l at_ 2).1 then ([], 0, 3)
  else ((l.drop (at_.toNat + 2)).take (takeR l at_ 2).1.toNat, at_ + 2 + (takeR l at_ 2).1, 0)
def TextPost (r : List Nat × Int × Int) (w : World) (e : Ending) (w' : World) : Prop := e = .returned (.tuple #[.string (text r.1), .int .i64 r.2.1, .int .i64 r.2.2]) ∧ Below w.heap.size w w'
theorem text_nil : text [] = ⟨#[]⟩ := rfl
theorem textR_err (l : List Nat) (at_ most x y : Int) (h : takeR l at_ 2 = (x, y)) (hy : y ≠ 0) : textR l at_ most = ([], 0, y) := by unfold textR; rw [h]; rw [if_pos hy]
theorem textR_long (l : List Nat) (at_ most x : Int) (h : takeR l at_ 2 = (x, 0)) (hm : most < x) : textR l at_ most = ([], 0, 5) := by unfold textR; rw [h]; rw [if_neg (by simp), if_pos hm]
theorem textR_short (l : List Nat) (at_ most x : Int) (h : takeR l at_ 2 = (x, 0)) (hm : ¬ most < x) (hs : (l.length : Int) - at_ - 2 < x) : textR l at_ most = ([], 0, 3) := by unfold textR; rw [h]; rw [if_neg (by simp), if_neg hm, if_pos hs]
theorem textR_ok (l : List Nat) (at_ most x : Int) (h : takeR l at_ 2 = (x, 0)) (hm : ¬ most < x) (hs : ¬ (l.length : Int) - at_ - 2 < x) : textR l at_ most = ((l.drop (at_.toNat + 2)).take x.toNat, at_ + 2 + x, 0) := by unfold textR; rw [h]; rw [if_neg (by simp), if_neg hm, if_neg hs]
theorem takeR_two (l : List Nat) (at_ : Int) (hl : ∀ b ∈ l, b < 256) (x : Int) (h : takeR l at_ 2 = (x, 0)) : 0 ≤ x ∧ x ≤ 65535 ∧ 0 ≤ at_ ∧ at_ + 2 ≤ l.length := by
  unfold takeR at h
  by_cases h1 : (2 : Int) < 1 ∨ (8 : Int) < 2 ∨ at_ < 0
  · rw [if_pos h1] at h; simp at h
  · rw [if_neg h1] at h
    by_cases h2 : (l.length : Int) < at_ + 2
    · rw [if_pos h2] at h; simp at h
    · rw [if_neg h2] at h
      simp only [Prod.mk.injEq, and_true] at h
      have hv := valN_lt ((l.drop at_.toNat).take (2 : Int).toNat) (fun b hb => hl b (List.mem_of_mem_drop (List.mem_of_mem_take hb)))
      have hln : ((l.drop at_.toNat).take (2 : Int).toNat).length ≤ 2 := by rw [List.length_take]; exact Nat.min_le_left _ _
      have hp : 256 ^ ((l.drop at_.toNat).take (2 : Int).toNat).length ≤ 256 ^ 2 := Nat.pow_le_pow_right (by decide) hln
      omega
theorem takeR_snd (l : List Nat) (at_ size : Int) : (takeR l at_ size).2 = 0 ∨ (takeR l at_ size).2 = 1 ∨ (takeR l at_ size).2 = 3 := by
  unfold takeR; split
  · exact .inr (.inl rfl)
  · split
    · exact .inr (.inr rfl)
    · exact .inl rfl
/-- A slice of bytes cut out of another one. -/
theorem Holds.cut {w : World} {ad : Addr} {n cap : Nat} {l : List Nat} (h : Holds w (.slice (some ad) n cap) l) (a m c : Nat) (hm : a + m ≤ l.length) : Holds w (.slice (some (ad.add a)) m c) ((l.drop a).take m) := by
  obtain ⟨hn, _, hc⟩ := h.cells
  refine ⟨fun b hb => h.1 b (List.mem_of_mem_drop (List.mem_of_mem_take hb)), some (ad.add a), c, by rw [u8s_length, List.length_take, List.length_drop, Nat.min_eq_left (by omega)], fun e => (by cases e), fun x hx i b hb => ?_⟩
  injection hx with hx
  subst hx
  unfold u8s at hb
  rw [List.getElem?_map] at hb
  cases hz : ((l.drop a).take m)[i]? with
  | none => rw [hz] at hb; cases hb
  | some z =>
    rw [hz] at hb
    simp only [Option.map_some, Option.some.injEq] at hb
    have hi : i < m := by
      have := (List.getElem?_eq_some_iff.1 hz).1
      rw [List.length_take] at this
      omega
    rw [List.getElem?_take_of_lt hi, List.getElem?_drop] at hz
    have hlt := h.1 z (List.mem_of_getElem? hz)
    rw [Go.Deep.add_add, hc ad rfl (a + i) (.int .u8 (z : Int)) (by unfold cells8; rw [List.getElem?_map, hz]; rfl)]
    subst hb
    rw [UInt8.toNat_ofNat', Nat.mod_eq_of_lt hlt]
end Go.Proofs.YtpbjjmenkoigjaaDoor
end

section
namespace Go.Proofs.YtpbjjmenkoigjaaDoor
open Go.RowKit
theorem OwnB.empty (w : World) (B : Nat) (hB : B ≤ w.heap.size) : OwnB B (w.alloc (.cells #[] 5)) (.slice (some ⟨w.heap.size, 0, none⟩) 0 0) [] :=
  OwnB.of_block (l := []) (fun b hb => (by cases hb)) hB (heap_alloc_new w _) (by decide)
end Go.Proofs.YtpbjjmenkoigjaaDoor
end

section
namespace Go.Proofs.YtpbjjmenkoigjaaDoor
open Go.RowKit
end Go.Proofs.YtpbjjmenkoigjaaDoor
end

section
namespace Go.Proofs.YtpbjjmenkoigjaaDoor
open Go.RowKit
namespace Crc
end Crc
theorem lt4' {n : Nat} (h : n < 4294967296) : n < 256 ^ 4 := by
  have e : (256 : Nat) ^ 4 = 4294967296 := by decide
  rw [e]; exact h
theorem leN_inj4 {l m : List Nat} (h : leN (Crc.add 0 l) 4 = leN (Crc.add 0 m) 4) : Crc.add 0 l = Crc.add 0 m := by
  have e := congrArg valN h
  rw [valN_leN, valN_leN, Nat.mod_eq_of_lt (lt4' (Crc.add_lt32 _ _)), Nat.mod_eq_of_lt (lt4' (Crc.add_lt32 _ _))] at e
  exact e
theorem leN_valN2 (l : List Nat) (hl : l.length = 2) (h : ∀ x ∈ l, x < 256) : leN (valN l) 2 = l := by
  match l, hl with
  | [a, b], _ =>
    have ha := h a (by simp)
    have hb := h b (by simp)
    simp only [valN, leN, List.range_succ, List.range_zero, List.nil_append, List.map_cons, List.map_nil, List.cons_append]
    congr 1
    · omega
    · congr 1; omega
theorem leN_valN4 (l : List Nat) (hl : l.length = 4) (h : ∀ x ∈ l, x < 256) : leN (valN l) 4 = l := by
  match l, hl with
  | [a, b, c, d], _ =>
    have ha := h a (by simp)
    have hb := h b (by simp)
    have hc := h c (by simp)
    have hd := h d (by simp)
    simp only [valN, leN, List.range_succ, List.range_zero, List.nil_append, List.map_cons, List.map_nil, List.cons_append]
    congr 1
    · omega
    congr 1
    · omega
    congr 1
    · omega
    congr 1; omega
end Go.Proofs.YtpbjjmenkoigjaaDoor
end

section
namespace Go.Proofs.YtpbjjmenkoigjaaDoor
open Go.RowKit
def sealB (g : Nat) (s : List Nat) : List Nat := [g] ++ leN s.length 2 ++ s
def sealI (g : Nat) (s : List Nat) : List Nat := sealB g s ++ List.replicate (379 - (sealB g s).length) 0
def sealL (g : Nat) (s : List Nat) : List Nat := sealI g s ++ leN (Crc.add 0 (sealI g s)) 4 ++ [g]
theorem sealB_length (g : Nat) (s : List Nat) : (sealB g s).length = 3 + s.length := by simp [sealB, leN_length]; omega
theorem sealI_length (g : Nat) (s : List Nat) (h : s.length ≤ 376) : (sealI g s).length = 379 := by
  unfold sealI
  rw [List.length_append, List.length_replicate, sealB_length]; omega
theorem sealL_length (g : Nat) (s : List Nat) (h : s.length ≤ 376) : (sealL g s).length = 384 := by
  unfold sealL
  rw [List.length_append, List.length_append, sealI_length g s h, leN_length]; rfl
theorem sealI_lt {g : Nat} {s : List Nat} (hg : g < 256) (hs : ∀ x ∈ s, x < 256) : ∀ x ∈ sealI g s, x < 256 := by
  intro x hx
  unfold sealI sealB at hx
  simp only [List.mem_append] at hx
  rcases hx with ((h | h) | h) | h
  · simp at h; omega
  · exact leN_lt _ _ x h
  · exact hs x h
  · rw [(List.mem_replicate.1 h).2]; decide
theorem sealL_lt {g : Nat} {s : List Nat} (hg : g < 256) (hs : ∀ x ∈ s, x < 256) : ∀ x ∈ sealL g s, x < 256 := by
  intro x hx
  unfold sealL at hx
  simp only [List.mem_append] at hx
  rcases hx with (h | h) | h
  · exact sealI_lt hg hs x h
  · exact leN_lt _ _ x h
  · simp at h; omega
theorem sealI_head (g : Nat) (s : List Nat) : (sealI g s)[0]? = some g := rfl
theorem sealL_head (g : Nat) (s : List Nat) : (sealL g s)[0]? = some g := rfl
theorem sealL_last (g : Nat) (s : List Nat) (h : s.length ≤ 376) : (sealL g s)[383]? = some g := by
  unfold sealL
  rw [List.getElem?_append_right (by rw [List.length_append, sealI_length g s h, leN_length]; decide), List.length_append, sealI_length g s h, leN_length]
  rfl
/-- What the bytes of a sector hold. -/
def opN (l : List Nat) : Nat := valN ((l.drop 1).take 2)
def opS (l : List Nat) : List Nat := (l.drop 3).take (opN l)
def opB (l : List Nat) : Bool := decide (l.length = 384 ∧ opN l ≤ 376 ∧ sealL (l.getD 0 0) (opS l) = l)
theorem val2 (n : Nat) (h : n < 65536) : valN (leN n 2) = n := by
  rw [valN_leN, show (256 : Nat) ^ 2 = 65536 from by decide, Nat.mod_eq_of_lt h]
theorem opN_seal (g : Nat) (s : List Nat) (h : s.length ≤ 376) : opN (sealL g s) = s.length := by
  have e : ∃ r, sealL g s = [g] ++ (leN s.length 2 ++ r) := ⟨s ++ List.replicate (379 - (sealB g s).length) 0 ++ leN (Crc.add 0 (sealI g s)) 4 ++ [g], by
    have e1 : sealI g s = [g] ++ (leN s.length 2 ++ (s ++ List.replicate (379 - (sealB g s).length) 0)) := by unfold sealI; conv => lhs; lhs; unfold sealB
                                                                                                              simp only [List.append_assoc]
    unfold sealL
    rw [e1]
    simp only [List.append_assoc]⟩
  obtain ⟨r, hr⟩ := e
  unfold opN
  rw [hr, List.drop_left' (by rfl), List.take_left' (leN_length _ _), val2 _ (by omega)]
theorem opS_seal (g : Nat) (s : List Nat) (h : s.length ≤ 376) : opS (sealL g s) = s := by
  have e : ∃ r, sealL g s = ([g] ++ leN s.length 2) ++ (s ++ r) := ⟨List.replicate (379 - (sealB g s).length) 0 ++ leN (Crc.add 0 (sealI g s)) 4 ++ [g], by
    have e1 : sealI g s = [g] ++ (leN s.length 2 ++ (s ++ List.replicate (379 - (sealB g s).length) 0)) := by unfold sealI; conv => lhs; lhs; unfold sealB
                                                                                                              simp only [List.append_assoc]
    unfold sealL
    rw [e1]
    simp only [List.append_assoc]⟩
  unfold opS
  rw [opN_seal g s h]
  obtain ⟨r, hr⟩ := e
  rw [hr, List.drop_left' (by rw [List.length_append, leN_length]; rfl), List.take_left' rfl]
theorem opB_seal (g : Nat) (s : List Nat) (h : s.length ≤ 376) : opB (sealL g s) = true := by
  refine decide_eq_true ⟨sealL_length g s h, by rw [opN_seal g s h]; exact h, ?_⟩
  rw [opS_seal g s h, List.getD_eq_getElem?_getD, sealL_head]
  rfl
theorem opS_length {l : List Nat} (h : l.length = 384) (hn : opN l ≤ 376) : (opS l).length = opN l := by
  unfold opS
  rw [List.length_take, List.length_drop]; omega
theorem opB_ends {l : List Nat} (h : opB l = true) : l[0]? = l[383]? := by
  obtain ⟨h1, h2, h3⟩ := of_decide_eq_true h
  rw [← h3, sealL_head, sealL_last _ _ (by rw [opS_length h1 h2]; exact h2)]
/-- A turned byte. -/
theorem op_turn {g : Nat} {s : List Nat} (hg : g < 256) (hs : ∀ x ∈ s, x < 256) (hl : s.length ≤ 376) (i x : Nat) (hi : i < 384) (hx : x < 256) (hne : (sealL g s)[i]? ≠ some x) : opB ((sealL g s).set i x) = false := by
  cases hb : opB ((sealL g s).set i x)
  · rfl
  exfalso
  have hend := opB_ends hb
  obtain ⟨h1, h2, h3⟩ := of_decide_eq_true hb
  have hlen := sealL_length g s hl
  obtain ⟨g', s', hs', he⟩ : ∃ g' s', s'.length ≤ 376 ∧ sealL g' s' = (sealL g s).set i x := ⟨_, opS ((sealL g s).set i x), by rw [opS_length h1 h2]; exact h2, h3⟩
  have hI := sealI_length g s hl
  have hI' := sealI_length g' s' hs'
  have hc := leN_length (Crc.add 0 (sealI g s)) 4
  have hc' := leN_length (Crc.add 0 (sealI g' s')) 4
  clear h1 h2 h3 hb
  rcases Nat.lt_or_ge i 379 with h | h
  · have es : (sealL g s).set i x = (sealI g s).set i x ++ (leN (Crc.add 0 (sealI g s)) 4 ++ [g]) := by
      unfold sealL
      rw [List.append_assoc, List.set_append_left _ _ (by omega)]
    rw [es] at he
    have e1 : sealL g' s' = sealI g' s' ++ (leN (Crc.add 0 (sealI g' s')) 4 ++ [g']) := by unfold sealL; rw [List.append_assoc]
    rw [e1] at he
    obtain ⟨p1, p2⟩ := List.append_inj he (by rw [List.length_set, hI, hI'])
    have p3 := (List.append_inj p2 (by rw [hc, hc'])).1
    have ec := leN_inj4 p3
    rw [p1] at ec
    have hlt : i < (sealI g s).length := by omega
    have := Crc.turn_at (sealI g s) i x (sealI_lt hg hs) hx hlt ec
    refine hne ?_
    unfold sealL
    rw [List.append_assoc, List.getElem?_append_left hlt, List.getElem?_eq_getElem hlt, this]
  · have e2 : ∃ c y, c.length = 4 ∧ (sealL g s).set i x = sealI g s ++ (c ++ [y]) := by
      unfold sealL
      rw [List.append_assoc, List.set_append_right _ _ (by omega)]
      rcases Nat.lt_or_ge i 383 with h' | h'
      · exact ⟨(leN (Crc.add 0 (sealI g s)) 4).set (i - (sealI g s).length) x, g, by rw [List.length_set, hc], by rw [List.set_append_left _ _ (by omega)]⟩
      · exact ⟨leN (Crc.add 0 (sealI g s)) 4, x, hc, by rw [List.set_append_right _ _ (by omega), show i - (sealI g s).length - (leN (Crc.add 0 (sealI g s)) 4).length = 0 by omega]; rfl⟩
    obtain ⟨c, y, hcl, es⟩ := e2
    have e1 : sealL g' s' = sealI g' s' ++ (leN (Crc.add 0 (sealI g' s')) 4 ++ [g']) := by unfold sealL; rw [List.append_assoc]
    have he' := he
    rw [e1, es] at he'
    obtain ⟨p1, p2⟩ := List.append_inj he' (by rw [hI, hI'])
    have hgg : g' = g := by
      have := congrArg (fun z : List Nat => z[0]?) p1
      simp only [sealI_head] at this
      injection this
    have e3 : sealL g' s' = sealL g s := by
      unfold sealL
      rw [p1, hgg]
    rw [e3] at he
    refine hne ?_
    rw [he, List.getElem?_set_self (by omega)]
/-- Torn: a beginning of one over the rest of another that ends otherwise. -/
theorem op_torn {g : Nat} {s old : List Nat} (hl : s.length ≤ 376) (hlast : old[383]? ≠ some g) (cut : Nat) (h1 : 1 ≤ cut) (h2 : cut < 384) : opB ((sealL g s).take cut ++ old.drop cut) = false := by
  cases hb : opB ((sealL g s).take cut ++ old.drop cut)
  · rfl
  exfalso
  have hend := opB_ends hb
  have hlen := sealL_length g s hl
  have ht : ((sealL g s).take cut).length = cut := by rw [List.length_take]; omega
  rw [List.getElem?_append_left (by omega), List.getElem?_take_of_lt (by omega), sealL_head, List.getElem?_append_right (by omega), ht, List.getElem?_drop, show cut + (383 - cut) = 383 by omega] at hend
  exact hlast hend.symm
/-- The program's own tests. -/
theorem op_tests (l : List Nat) (h : l.length = 384) (h8 : ∀ x ∈ l, x < 256) (hn : opN l ≤ 376) :
    opB l = true ↔ (l[0]? = l[383]? ∧ valN ((l.drop 379).take 4) = Crc.add 0 (l.take 379) ∧ (∀ x ∈ (l.drop (3 + opN l)).take (379 - (3 + opN l)), x = 0)) := by
  constructor
  · intro hb
    refine ⟨opB_ends hb, ?_⟩
    obtain ⟨_, _, h3⟩ := of_decide_eq_true hb
    have hs : (opS l).length ≤ 376 := by rw [opS_length h hn]; exact hn
    have hI := sealI_length (l.getD 0 0) (opS l) hs
    have hc := leN_length (Crc.add 0 (sealI (l.getD 0 0) (opS l))) 4
    have e1 : l.take 379 = sealI (l.getD 0 0) (opS l) := by
      conv => lhs; rw [← h3]
      unfold sealL
      rw [List.append_assoc, List.take_left' hI]
    have e2 : (l.drop 379).take 4 = leN (Crc.add 0 (sealI (l.getD 0 0) (opS l))) 4 := by
      conv => lhs; rw [← h3]
      unfold sealL
      rw [List.append_assoc, List.drop_left' hI, List.take_left' hc]
    refine ⟨?_, ?_⟩
    · rw [e1, e2, valN_leN, Nat.mod_eq_of_lt (lt4' (Crc.add_lt32 _ _))]
    · intro x hx
      have e3 : (l.drop (3 + opN l)).take (379 - (3 + opN l)) = List.replicate (379 - (sealB (l.getD 0 0) (opS l)).length) 0 := by
        rw [← List.drop_take, e1]
        have hB := sealB_length (l.getD 0 0) (opS l)
        rw [opS_length h hn] at hB
        unfold sealI
        rw [List.drop_left' hB]
      rw [e3] at hx
      exact (List.mem_replicate.1 hx).2
  · rintro ⟨hends, hsum, hz⟩
    refine decide_eq_true ⟨h, hn, ?_⟩
    obtain ⟨g, hg⟩ : ∃ g, l[0]? = some g := ⟨l[0], List.getElem?_eq_getElem (by omega)⟩
    have hgd : l.getD 0 0 = g := by rw [List.getD_eq_getElem?_getD, hg]; rfl
    have hsl := opS_length h hn
    have eI : sealI g (opS l) = l.take 379 := by
      have hB : sealB g (opS l) = l.take (3 + opN l) := by
        have q1 : l.take 1 = [g] := by
          cases l with
          | nil => simp at h
          | cons a r => simp at hg; subst hg; rfl
        have q2 : leN (opS l).length 2 = (l.drop 1).take 2 := by
          rw [hsl]
          exact leN_valN2 _ (by rw [List.length_take, List.length_drop]; omega) (fun x hx => h8 x (List.mem_of_mem_drop (List.mem_of_mem_take hx)))
        unfold sealB
        rw [q2]
        unfold opS
        rw [← q1, ← List.take_add, show 1 + 2 = 3 from rfl, ← List.take_add]
      unfold sealI
      have hBl := sealB_length g (opS l)
      rw [hsl] at hBl
      rw [hBl]
      have e : List.replicate (379 - (3 + opN l)) 0 = (l.drop (3 + opN l)).take (379 - (3 + opN l)) := by
        refine (List.eq_replicate_iff.2 ⟨?_, hz⟩).symm
        rw [List.length_take, List.length_drop]; omega
      rw [e, hB, ← List.take_add, show 3 + opN l + (379 - (3 + opN l)) = 379 by omega]
    rw [hgd]
    unfold sealL
    rw [eI]
    have e4 : leN (Crc.add 0 (l.take 379)) 4 = (l.drop 379).take 4 := by
      rw [← hsum]
      exact leN_valN4 _ (by rw [List.length_take, List.length_drop]; omega) (fun x hx => h8 x (List.mem_of_mem_drop (List.mem_of_mem_take hx)))
    have e5 : [g] = (l.drop 383).take 1 := by
      rw [hends] at hg
      have hlt : 383 < l.length := by omega
      rw [List.getElem?_eq_getElem hlt] at hg
      injection hg with hg
      rw [List.drop_eq_getElem_cons hlt, hg]; rfl
    rw [e4, ← List.take_add, e5, ← List.take_add, List.take_of_length_le (by omega)]
end Go.Proofs.YtpbjjmenkoigjaaDoor
end

section
namespace Go.Proofs.YtpbjjmenkoigjaaDoor
open Go.RowKit
/-- The byte that the next sector ends with. -/
def nextG (old : ByteArray) : Nat := if old.size = 0 then 1 else ((nats old).getD (old.size - 1) 0 + 1) % 256
theorem nextG_lt (old : ByteArray) : nextG old < 256 := by
  unfold nextG
  split
  · decide
  · exact Nat.mod_lt _ (by decide)
theorem holds_one (w : World) (b : Nat) (hb : b < 256) : Holds (w.alloc (.cells #[.int .u8 b] 5)) (.slice (some ⟨w.heap.size, 0, none⟩) 1 1) [b] := by
  have h := heap_alloc_new w (.cells (cells8 [b]).toArray 5)
  exact (OwnB.of_block (B := 0) (l := [b]) (fun x hx => by simp at hx; omega) (Nat.zero_le _) h (by show 1 ≤ maxLen; decide)).holds
/-- The address and the capacity of what is one's own. -/
theorem Mine.shape {B : Nat} {w : World} {v : Value} {L : List Nat} (h : Mine B w v L) : ∃ g cap, v = .slice (some ⟨g, 0, none⟩) L.length cap := by
  obtain ⟨_, g, cap, hv, _⟩ := h
  exact ⟨g, cap, hv⟩
theorem seal_long (old s : ByteArray) (w : World) (hs : 376 < s.size) :
    Calls Tryd.prog 82 #[.string old, .string s] w fun e w' => e = .returned (.tuple #[.string ⟨#[]⟩, .int .i64 5]) ∧ w = w' := by
  have h' : (376 : Int) < s.size := by omega
  go_enter Tryd.func82, Tryd.ntmps82
  go_wp2
  go_ret2
  exact ⟨rfl, rfl⟩
set_option maxHeartbeats 4000000 in
theorem seal_ok (old s : ByteArray) (w : World) (hs : s.size ≤ 376) (ho : old.size ≤ 140737488355328) :
    Calls Tryd.prog 82 #[.string old, .string s] w fun e w' => e = .returned (.tuple #[.string (text (sealL (nextG old) (nats s))), .int .i64 0]) ∧ Below w.heap.size w w' := by
  have h' : ¬ (376 : Int) < s.size := by omega
  by_cases h0 : old.size = 0
  · have hg0 : nextG old = 1 := if_pos h0
    have h0' : ¬ (0 : Int) < old.size := by omega
    have HG0 := Lib.hid hg0
    clear hg0 h0
    go_enter Tryd.func82, Tryd.ntmps82
    go_wp2_with fail
    obtain ⟨g, hg⟩ : ∃ g, nextG old = g := ⟨_, rfl⟩
    rw [show (1 : Int) = (g : Int) by rw [← hg, HG0.out]; rfl]
    have hg8 : g < 256 := by rw [← hg]; exact nextG_lt old
    have HG := Lib.hid hg
    clear hg
    have hH := holds_one w g hg8
    have hB := (Below.refl w.heap.size w).alloc (Nat.le_refl _) (.cells #[.int .u8 (g : Int)] 5)
    have hS : w.heap.size < (w.alloc (.cells #[.int .u8 (g : Int)] 5)).heap.size := by simp
    generalize w.alloc (.cells #[.int .u8 (g : Int)] 5) = w1 at *
    refine (puttext_ok _ 1 [g] s _ hH (by omega) (by show 1 + 65537 ≤ 140737488355328; decide)).mono ?_
    rintro e w2 ⟨v2, rfl, hF, hb2⟩
    obtain ⟨L, hL⟩ : ∃ L, L = sealB g (nats s) := ⟨_, rfl⟩
    have hF : Fresh w1.heap.size w2 v2 L := by rw [hL]; unfold sealB; rw [nats_length]; exact hF
    have hLn : L.length = 3 + s.size := by rw [hL, sealB_length, nats_length]
    have hM2 := hF.mine (by omega)
    obtain ⟨n, hn⟩ : ∃ n, n = 3 + s.size := ⟨_, rfl⟩
    rw [← hn] at hLn
    have hn' : n ≤ 379 := by omega
    have hn2 : (n : Int) ≤ 379 := by omega
    obtain ⟨q2, cq2, rfl⟩ := hM2.shape
    rw [hLn] at hM2 ⊢
    have H2 := Lib.hid (And.intro (hB.trans (hb2.mono hB.size)) (And.intro (hM2.mono (Nat.le_of_lt hS)) (Nat.lt_of_lt_of_le hS hb2.size)))
    have HLN := Lib.hid hLn
    have HL := Lib.hid hL
    have HN := Lib.hid hn
    clear hF hM2 hb2 hB hH hS hn hLn hL hs
    go_wp2_with (at_builtin; refine appZ rfl _ _ rfl _ L rfl H2.out.2.1 .i64 (379 - n) (congrArg (Value.int .i64) (show (379 - (n : Int)) = ((379 - n : Nat) : Int) by omega)) (by rw [HLN.out]; omega) (Below.refl _ _) (Nat.le_of_lt H2.out.2.2) ?_)
    intro v3 w3 hM3 hb3
    obtain ⟨I, hI⟩ : ∃ I, I = L ++ List.replicate (379 - n) 0 := ⟨_, rfl⟩
    have hM3 : Mine w.heap.size w3 v3 (L ++ List.replicate (379 - n) 0) := hM3
    rw [← hI] at hM3
    have hIn : I.length = 379 := by rw [hI, List.length_append, HLN.out, List.length_replicate]; omega
    have hIs : I = sealI g (nats s) := by rw [hI]; unfold sealI; rw [← HL.out, HLN.out]
    have h83 := hM3.1
    have hH3 := hM3.holds
    obtain ⟨q3, cq3, rfl⟩ := hM3.shape
    rw [hIn] at hM3 hH3 ⊢
    have H3 := Lib.hid (And.intro (H2.out.1.trans hb3) (And.intro hM3 (Nat.lt_of_lt_of_le H2.out.2.2 hb3.size)))
    have rt := run_text w3 _ _ _ I hH3
    have HI := Lib.hid hIs
    have HIN := Lib.hid hIn
    have H83 := Lib.hid h83
    clear hI hM3 hIn hIs hH3 h83 hb3 H2 HL HLN HN
    go_wp2_with fail
    refine (sum_all (text I) _ (by rw [text_size, HIN.out]; decide)).mono ?_
    rw [nats_text I H83.out]
    rintro e w4 ⟨rfl, hb4⟩
    have H4 := Lib.hid (And.intro (H3.out.1.trans (hb4.mono H3.out.1.size)) (And.intro (H3.out.2.1.later hb4) (Nat.lt_of_lt_of_le H3.out.2.2 hb4.size)))
    clear hb4 H3 rt
    have hlt9 := add_lt 0 I
    obtain ⟨S9, hS9⟩ : ∃ S9, Crc.add 0 I = S9 := ⟨_, rfl⟩
    rw [hS9] at hlt9 ⊢
    have HS9 := Lib.hid hS9
    clear hS9
    have hw9 := wrap_u64_of S9 (by omega)
    go_wp2_with fail
    refine (put_mine _ I S9 4 _ H4.out.2.1 (by omega) (by decide) (by decide) (.inr (Nat.div_eq_of_lt hlt9)) (by rw [HIN.out]; decide)).mono ?_
    rintro e w5 ⟨v5, rfl, hM5, hb5⟩
    have hM5n : (I ++ leN S9 4).length = 383 := by rw [List.length_append, leN_length, HIN.out]
    have H5 := Lib.hid (And.intro (H4.out.1.trans (hb5.mono H4.out.1.size)) (And.intro (hM5.mono (Nat.le_of_lt H4.out.2.2)) (Nat.lt_of_lt_of_le H4.out.2.2 hb5.size)))
    obtain ⟨J, hJ⟩ : ∃ J, J = I ++ leN S9 4 := ⟨_, rfl⟩
    rw [← hJ] at H5 hM5n
    have HJ := Lib.hid hJ
    have HJN := Lib.hid hM5n
    clear hM5 hb5 hM5n hJ H4 hw9
    have HT := Lib.hid (holds_one w5 g hg8)
    have HLT := Lib.hid (show J.length + [g].length ≤ 140737488355328 by rw [HJN.out]; show 383 + 1 ≤ 140737488355328; decide)
    have HBB := Lib.hid (show w.heap.size ≤ (w5.alloc (.cells #[.int .u8 (g : Int)] 5)).heap.size by have := H5.out.2.2; simp; omega)
    go_wp2_with (at_builtin; refine appM rfl _ _ rfl v5 J rfl (H5.out.2.1.later ((Below.refl _ _).alloc (Nat.le_refl _) _)) ⟨w5.heap.size, 0, none⟩ 1 1 [g] rfl HT.out HLT.out (Below.refl _ _) HBB.out ?_)
    intro v6 w6 hM6 hb6
    have h86 := hM6.1
    have hH6 := hM6.holds
    have hn6 : (J ++ [g]).length = 384 := by rw [List.length_append, HJN.out]; rfl
    obtain ⟨q6, cq6, rfl⟩ := hM6.shape
    rw [hn6] at hH6 ⊢
    have r6 := run_text w6 _ _ _ (J ++ [g]) hH6
    have hfin : sealL g (nats s) = J ++ [g] := by
      unfold sealL
      rw [← HI.out, HS9.out, ← HJ.out]
    have HF := Lib.hid hfin
    have H6 := Lib.hid ((H5.out.1.alloc H5.out.1.size (.cells #[.int .u8 (g : Int)] 5)).trans hb6)
    clear hM6 hb6 h86 hH6 hn6 hfin H5 HT HLT HBB
    go_wp2_with fail
    go_ret2
    exact ⟨by rw [HG.out, HF.out]; rfl, H6.out⟩
  · have hg0 : nextG old = ((nats old).getD (old.size - 1) 0 + 1) % 256 := if_neg h0
    have h0' : (0 : Int) < old.size := by omega
    have h1' : (1 : Int) ≤ old.size := by omega
    have hlt : old.size - 1 < old.size := by omega
    rw [nats_getD old (old.size - 1) hlt] at hg0
    have HG0 := Lib.hid hg0
    clear h0 hg0
    go_enter Tryd.func82, Tryd.ntmps82
    go_wp2_with fail
    obtain ⟨g, hg⟩ : ∃ g, nextG old = g := ⟨_, rfl⟩
    have hx : (((old[old.size - 1]'hlt).toNat : Int) + 1) % 256 = (g : Int) := by rw [← hg, HG0.out]; omega
    rw [hx]
    clear hx
    have hg8 : g < 256 := by rw [← hg]; exact nextG_lt old
    have HG := Lib.hid hg
    clear hg
    have hH := holds_one w g hg8
    have hB := (Below.refl w.heap.size w).alloc (Nat.le_refl _) (.cells #[.int .u8 (g : Int)] 5)
    have hS : w.heap.size < (w.alloc (.cells #[.int .u8 (g : Int)] 5)).heap.size := by simp
    generalize w.alloc (.cells #[.int .u8 (g : Int)] 5) = w1 at *
    refine (puttext_ok _ 1 [g] s _ hH (by omega) (by show 1 + 65537 ≤ 140737488355328; decide)).mono ?_
    rintro e w2 ⟨v2, rfl, hF, hb2⟩
    obtain ⟨L, hL⟩ : ∃ L, L = sealB g (nats s) := ⟨_, rfl⟩
    have hF : Fresh w1.heap.size w2 v2 L := by rw [hL]; unfold sealB; rw [nats_length]; exact hF
    have hLn : L.length = 3 + s.size := by rw [hL, sealB_length, nats_length]
    have hM2 := hF.mine (by omega)
    obtain ⟨n, hn⟩ : ∃ n, n = 3 + s.size := ⟨_, rfl⟩
    rw [← hn] at hLn
    have hn' : n ≤ 379 := by omega
    have hn2 : (n : Int) ≤ 379 := by omega
    obtain ⟨q2, cq2, rfl⟩ := hM2.shape
    rw [hLn] at hM2 ⊢
    have H2 := Lib.hid (And.intro (hB.trans (hb2.mono hB.size)) (And.intro (hM2.mono (Nat.le_of_lt hS)) (Nat.lt_of_lt_of_le hS hb2.size)))
    have HLN := Lib.hid hLn
    have HL := Lib.hid hL
    have HN := Lib.hid hn
    clear hF hM2 hb2 hB hH hS hn hLn hL hs
    go_wp2_with (at_builtin; refine appZ rfl _ _ rfl _ L rfl H2.out.2.1 .i64 (379 - n) (congrArg (Value.int .i64) (show (379 - (n : Int)) = ((379 - n : Nat) : Int) by omega)) (by rw [HLN.out]; omega) (Below.refl _ _) (Nat.le_of_lt H2.out.2.2) ?_)
    intro v3 w3 hM3 hb3
    obtain ⟨I, hI⟩ : ∃ I, I = L ++ List.replicate (379 - n) 0 := ⟨_, rfl⟩
    have hM3 : Mine w.heap.size w3 v3 (L ++ List.replicate (379 - n) 0) := hM3
    rw [← hI] at hM3
    have hIn : I.length = 379 := by rw [hI, List.length_append, HLN.out, List.length_replicate]; omega
    have hIs : I = sealI g (nats s) := by rw [hI]; unfold sealI; rw [← HL.out, HLN.out]
    have h83 := hM3.1
    have hH3 := hM3.holds
    obtain ⟨q3, cq3, rfl⟩ := hM3.shape
    rw [hIn] at hM3 hH3 ⊢
    have H3 := Lib.hid (And.intro (H2.out.1.trans hb3) (And.intro hM3 (Nat.lt_of_lt_of_le H2.out.2.2 hb3.size)))
    have rt := run_text w3 _ _ _ I hH3
    have HI := Lib.hid hIs
    have HIN := Lib.hid hIn
    have H83 := Lib.hid h83
    clear hI hM3 hIn hIs hH3 h83 hb3 H2 HL HLN HN
    go_wp2_with fail
    refine (sum_all (text I) _ (by rw [text_size, HIN.out]; decide)).mono ?_
    rw [nats_text I H83.out]
    rintro e w4 ⟨rfl, hb4⟩
    have H4 := Lib.hid (And.intro (H3.out.1.trans (hb4.mono H3.out.1.size)) (And.intro (H3.out.2.1.later hb4) (Nat.lt_of_lt_of_le H3.out.2.2 hb4.size)))
    clear hb4 H3 rt
    have hlt9 := add_lt 0 I
    obtain ⟨S9, hS9⟩ : ∃ S9, Crc.add 0 I = S9 := ⟨_, rfl⟩
    rw [hS9] at hlt9 ⊢
    have HS9 := Lib.hid hS9
    clear hS9
    have hw9 := wrap_u64_of S9 (by omega)
    go_wp2_with fail
    refine (put_mine _ I S9 4 _ H4.out.2.1 (by omega) (by decide) (by decide) (.inr (Nat.div_eq_of_lt hlt9)) (by rw [HIN.out]; decide)).mono ?_
    rintro e w5 ⟨v5, rfl, hM5, hb5⟩
    have hM5n : (I ++ leN S9 4).length = 383 := by rw [List.length_append, leN_length, HIN.out]
    have H5 := Lib.hid (And.intro (H4.out.1.trans (hb5.mono H4.out.1.size)) (And.intro (hM5.mono (Nat.le_of_lt H4.out.2.2)) (Nat.lt_of_lt_of_le H4.out.2.2 hb5.size)))
    obtain ⟨J, hJ⟩ : ∃ J, J = I ++ leN S9 4 := ⟨_, rfl⟩
    rw [← hJ] at H5 hM5n
    have HJ := Lib.hid hJ
    have HJN := Lib.hid hM5n
    clear hM5 hb5 hM5n hJ H4 hw9
    have HT := Lib.hid (holds_one w5 g hg8)
    have HLT := Lib.hid (show J.length + [g].length ≤ 140737488355328 by rw [HJN.out]; show 383 + 1 ≤ 140737488355328; decide)
    have HBB := Lib.hid (show w.heap.size ≤ (w5.alloc (.cells #[.int .u8 (g : Int)] 5)).heap.size by have := H5.out.2.2; simp; omega)
    go_wp2_with (at_builtin; refine appM rfl _ _ rfl v5 J rfl (H5.out.2.1.later ((Below.refl _ _).alloc (Nat.le_refl _) _)) ⟨w5.heap.size, 0, none⟩ 1 1 [g] rfl HT.out HLT.out (Below.refl _ _) HBB.out ?_)
    intro v6 w6 hM6 hb6
    have h86 := hM6.1
    have hH6 := hM6.holds
    have hn6 : (J ++ [g]).length = 384 := by rw [List.length_append, HJN.out]; rfl
    obtain ⟨q6, cq6, rfl⟩ := hM6.shape
    rw [hn6] at hH6 ⊢
    have r6 := run_text w6 _ _ _ (J ++ [g]) hH6
    have hfin : sealL g (nats s) = J ++ [g] := by
      unfold sealL
      rw [← HI.out, HS9.out, ← HJ.out]
    have HF := Lib.hid hfin
    have H6 := Lib.hid ((H5.out.1.alloc H5.out.1.size (.cells #[.int .u8 (g : Int)] 5)).trans hb6)
    clear hM6 hb6 h86 hH6 hn6 hfin H5 HT HLT HBB
    go_wp2_with fail
    go_ret2
    exact ⟨by rw [HG.out, HF.out]; rfl, H6.out⟩
end Go.Proofs.YtpbjjmenkoigjaaDoor
end

section
namespace Go.Proofs.YtpbjjmenkoigjaaDoor
namespace Quo
/-- who is in a set (of 0 to 31) -/
def has (s : Nat) (who : Int) : Bool := decide (1 ≤ who) && (decide (who ≤ 5) && s.testBit (who - 1).toNat)
def wth (s : Nat) (who : Int) : Nat := if 1 ≤ who ∧ who ≤ 5 then s ||| 2 ^ (who - 1).toNat else s
def size (s : Nat) : Nat := (s.testBit 0).toNat + (s.testBit 1).toNat + (s.testBit 2).toNat + (s.testBit 3).toNat + (s.testBit 4).toNat
def may (c : Int) : Bool := c == 3 || c == 5
def enough (c : Int) : Int := if c = 3 then 2 else if c = 5 then 3 else 0
def primary (c v : Int) : Int := if (c = 3 ∨ c = 5) ∧ 0 ≤ v then v % c + 1 else 0
theorem wth_lt (s : Nat) (who : Int) (h : s < 32) : wth s who < 32 := by
  unfold wth
  split
  · rename_i hw
    have : (who - 1).toNat < 5 := by omega
    exact Nat.or_lt_two_pow (n := 5) h (Nat.pow_lt_pow_right (by decide) this)
  · exact h
theorem who_cases {who : Int} (h : 1 ≤ who ∧ who ≤ 5) : who = 1 ∨ who = 2 ∨ who = 3 ∨ who = 4 ∨ who = 5 := by omega
theorem has_wth (s : Nat) (who : Int) : has (wth s who) who = (decide (1 ≤ who) && decide (who ≤ 5)) := by
  by_cases hw : 1 ≤ who ∧ who ≤ 5
  · unfold has wth
    rw [if_pos hw]
    simp [hw.1, hw.2]
  · unfold has
    by_cases h1 : 1 ≤ who
    · have : ¬ who ≤ 5 := fun h2 => hw ⟨h1, h2⟩
      simp [this]
    · simp [h1]
/-- the reference's word for a replica's bit -/
def worth (who : Int) : Int := if who = 1 then 1 else if who = 2 then 2 else if who = 3 then 4 else if who = 4 then 8 else if who = 5 then 16 else 0
theorem has_ref (s : Nat) (who : Int) (h : s < 32) (hw : 1 ≤ who ∧ who ≤ 5) : has s who = decide (((s : Int) / worth who) % 2 = 1) := by
  have key : ∀ s : Fin 32, (s.val.testBit 0 = decide (((s.val : Int) / 1) % 2 = 1)) ∧ (s.val.testBit 1 = decide (((s.val : Int) / 2) % 2 = 1)) ∧ (s.val.testBit 2 = decide (((s.val : Int) / 4) % 2 = 1)) ∧ (s.val.testBit 3 = decide (((s.val : Int) / 8) % 2 = 1)) ∧ (s.val.testBit 4 = decide (((s.val : Int) / 16) % 2 = 1)) := by decide
  obtain ⟨k0, k1, k2, k3, k4⟩ := key ⟨s, h⟩
  simp only at k0 k1 k2 k3 k4
  rcases who_cases hw with rfl | rfl | rfl | rfl | rfl <;> unfold has worth
  · exact k0
  · exact k1
  · exact k2
  · exact k3
  · exact k4
theorem wth_ref (s : Nat) (who : Int) (h : s < 32) : (wth s who : Int) = if has s who = true then (s : Int) else s + worth who := by
  by_cases hw : 1 ≤ who ∧ who ≤ 5
  · have key : ∀ s : Fin 32, ∀ k : Fin 5, ((s.val ||| 2 ^ k.val : Nat) : Int) = if s.val.testBit k.val = true then (s.val : Int) else s.val + (2 ^ k.val : Nat) := by decide
    have e : ∀ k : Fin 5, k.val = (who - 1).toNat → (wth s who : Int) = if has s who = true then (s : Int) else s + (2 ^ k.val : Nat) := by
      intro k hk
      have := key ⟨s, h⟩ k
      simp only at this
      unfold wth has
      rw [if_pos hw, ← hk, this]
      simp [hw.1, hw.2]
    rcases who_cases hw with rfl | rfl | rfl | rfl | rfl
    · exact e 0 rfl
    · exact e 1 rfl
    · exact e 2 rfl
    · exact e 3 rfl
    · exact e 4 rfl
  · unfold wth
    rw [if_neg hw]
    have hf : has s who = false := by
      unfold has
      by_cases h1 : 1 ≤ who
      · have : ¬ who ≤ 5 := fun h2 => hw ⟨h1, h2⟩
        simp [this]
      · simp [h1]
    rw [hf]
    have : worth who = 0 := by unfold worth; rw [if_neg (by omega), if_neg (by omega), if_neg (by omega), if_neg (by omega), if_neg (by omega)]
    simp [this]
theorem meets (x y : Nat) (hx : x < 32) (hy : y < 32) (h1 : 3 ≤ size x) (h2 : 3 ≤ size y) : ∃ k : Nat, k < 5 ∧ x.testBit k = true ∧ y.testBit k = true := by
  have key : ∀ x y : Fin 32, 3 ≤ size x.val → 3 ≤ size y.val → ∃ k : Fin 5, x.val.testBit k.val = true ∧ y.val.testBit k.val = true := by decide +kernel
  obtain ⟨k, h⟩ := key ⟨x, hx⟩ ⟨y, hy⟩ h1 h2
  exact ⟨k, k.isLt, h⟩
theorem meets3 (x y : Nat) (hx : x < 8) (hy : y < 8) (h1 : 2 ≤ size x) (h2 : 2 ≤ size y) : ∃ k : Nat, k < 3 ∧ x.testBit k = true ∧ y.testBit k = true := by
  have key : ∀ x y : Fin 8, 2 ≤ size x.val → 2 ≤ size y.val → ∃ k : Fin 3, x.val.testBit k.val = true ∧ y.val.testBit k.val = true := by decide +kernel
  obtain ⟨k, h⟩ := key ⟨x, hx⟩ ⟨y, hy⟩ h1 h2
  exact ⟨k, k.isLt, h⟩
/-- the leaders of k views behind one another -/
def turns (c r : Nat) : Nat → Nat
  | 0 => 0
  | k + 1 => turns c r k ||| 2 ^ ((r + k) % c)
theorem turns_new (c r k : Nat) (hc : c = 3 ∨ c = 5) (hr : r < c) (hk : k < c) : (turns c r k).testBit ((r + k) % c) = false ∧ turns c r k < 32 := by
  have k3 : ∀ r k : Fin 3, (turns 3 r.val k.val).testBit ((r.val + k.val) % 3) = false ∧ turns 3 r.val k.val < 32 := by decide
  have k5 : ∀ r k : Fin 5, (turns 5 r.val k.val).testBit ((r.val + k.val) % 5) = false ∧ turns 5 r.val k.val < 32 := by decide
  rcases hc with rfl | rfl
  · exact k3 ⟨r, hr⟩ ⟨k, hk⟩
  · exact k5 ⟨r, hr⟩ ⟨k, hk⟩
theorem turns_all (c r : Nat) (hc : c = 3 ∨ c = 5) (hr : r < c) : size (turns c r c) = c ∧ turns c r c < 32 := by
  have k3 : ∀ r : Fin 3, size (turns 3 r.val 3) = 3 ∧ turns 3 r.val 3 < 32 := by decide
  have k5 : ∀ r : Fin 5, size (turns 5 r.val 5) = 5 ∧ turns 5 r.val 5 < 32 := by decide
  rcases hc with rfl | rfl
  · exact k3 ⟨r, hr⟩
  · exact k5 ⟨r, hr⟩
/-- the part of a set that lies below k -/
theorem low_succ (a k : Nat) : a % 2 ^ (k + 1) = if a.testBit k = true then (a % 2 ^ k) ||| 2 ^ k else a % 2 ^ k := by
  apply Nat.eq_of_testBit_eq
  intro i
  by_cases hb : a.testBit k = true
  · rw [if_pos hb, Nat.testBit_or, Nat.testBit_mod_two_pow, Nat.testBit_mod_two_pow, Nat.testBit_two_pow]
    by_cases h1 : i < k
    · simp [h1, show i < k + 1 by omega, show k ≠ i by omega]
    · by_cases h2 : i = k
      · subst h2; simp [hb]
      · simp [h1, show ¬ i < k + 1 by omega, show k ≠ i by omega]
  · rw [if_neg hb, Nat.testBit_mod_two_pow, Nat.testBit_mod_two_pow]
    by_cases h1 : i < k
    · simp [h1, show i < k + 1 by omega]
    · by_cases h2 : i = k
      · subst h2; simp at hb; simp [hb]
      · simp [h1, show ¬ i < k + 1 by omega]
end Quo
end Go.Proofs.YtpbjjmenkoigjaaDoor
end

section
namespace Go.Proofs.YtpbjjmenkoigjaaDoor
open Go.RowKit
def qs (s : Int) : Nat := (s % 32).toNat
theorem qs_lt (s : Int) : qs s < 32 := by unfold qs; omega
theorem may_yes (c : Int) (w : World) (h : c = 3 ∨ c = 5) : Calls Tryd.prog 23 #[.int .i64 c] w fun e w' => e = .returned (.bool true) ∧ w = w' := by
  rcases h with rfl | rfl
  all_goals
    go_enter Tryd.func23, Tryd.ntmps23
    go_wp2
    go_ret
    exact ⟨rfl, rfl⟩
theorem may_no (c : Int) (w : World) (h3 : (c == 3) = false) (h5 : (c == 5) = false) : Calls Tryd.prog 23 #[.int .i64 c] w fun e w' => e = .returned (.bool false) ∧ w = w' := by
  go_enter Tryd.func23, Tryd.ntmps23
  go_wp2
  go_ret
  exact ⟨rfl, rfl⟩
theorem cases_count (c : Int) : c = 3 ∨ c = 5 ∨ ((c == 3) = false ∧ (c == 5) = false ∧ c ≠ 3 ∧ c ≠ 5) := by
  by_cases h3 : c = 3
  · exact .inl h3
  · by_cases h5 : c = 5
    · exact .inr (.inl h5)
    · exact .inr (.inr ⟨by simpa using h3, by simpa using h5, h3, h5⟩)
theorem enough_any (c : Int) (w : World) : Calls Tryd.prog 29 #[.int .i64 c] w fun e w' => e = .returned (.int .i64 (Quo.enough c)) ∧ w = w' := by
  rcases cases_count c with rfl | rfl | ⟨h3, h5, n3, n5⟩
  · go_enter Tryd.func29, Tryd.ntmps29
    go_wp2_with (go_at_call 23; refine (may_yes _ _ (.inl rfl)).mono ?_; rintro e w' ⟨rfl, rfl⟩)
    go_ret
    exact ⟨rfl, rfl⟩
  · go_enter Tryd.func29, Tryd.ntmps29
    go_wp2_with (go_at_call 23; refine (may_yes _ _ (.inr rfl)).mono ?_; rintro e w' ⟨rfl, rfl⟩)
    go_ret
    exact ⟨rfl, rfl⟩
  · have hf : Quo.enough c = 0 := by unfold Quo.enough; rw [if_neg n3, if_neg n5]
    have HF := Lib.hid hf
    clear hf n3 n5
    go_enter Tryd.func29, Tryd.ntmps29
    go_wp2_with (go_at_call 23; refine (may_no _ _ h3 h5).mono ?_; rintro e w' ⟨rfl, rfl⟩)
    go_ret
    exact ⟨ret_int HF.out.symm, rfl⟩
theorem prim_yes (c v : Int) (h : c = 3 ∨ c = 5) (h0 : 0 ≤ v) : Quo.primary c v = v % c + 1 := by unfold Quo.primary; rw [if_pos ⟨h, h0⟩]
theorem prim_no (c v : Int) (h : ¬ ((c = 3 ∨ c = 5) ∧ 0 ≤ v)) : Quo.primary c v = 0 := by unfold Quo.primary; rw [if_neg h]
theorem enough_zero (c : Int) (h3 : c ≠ 3) (h5 : c ≠ 5) : Quo.enough c = 0 := by unfold Quo.enough; rw [if_neg h3, if_neg h5]
end Go.Proofs.YtpbjjmenkoigjaaDoor
end

section

end

section
namespace Go.Proofs.YtpbjjmenkoigjaaDoor
open Go.RowKit
set_option linter.unusedVariables false
/-- The letters of a log's fields lie where the program has them. -/
def Gl (w : World) : Prop := w.cell? ⟨0, 6, none⟩ = some (.string ⟨#[118, 108, 99, 67, 73]⟩)
theorem Gl.later {w w' : World} (h : Gl w) (hb : Below w.heap.size w w') : Gl w' := (hb.cell (p := ⟨0, 6, none⟩) (cell_lt h)).trans h
theorem fields_log (w : World) (h : Gl w) : Calls Tryd.prog 51 #[.int .i64 7] w fun e w' => e = .returned (.tuple #[.string ⟨#[118, 108, 99, 67, 73]⟩, .bool true]) ∧ w = w' := by
  unfold Gl at h
  go_enter Tryd.func51, Tryd.ntmps51
  go_wp2_with fail
  go_ret2
  exact ⟨rfl, rfl⟩
theorem mmay_yes (n : Int) (w : World) (h : 0 ≤ n ∧ n ≤ 72057594037927935) : Calls Tryd.prog 52 #[.int .i64 n] w fun e w' => e = .returned (.bool true) ∧ w = w' := by
  obtain ⟨h1, h2⟩ := h
  go_enter Tryd.func52, Tryd.ntmps52
  go_wp2_with fail
  go_ret
  exact ⟨rfl, rfl⟩
theorem mmay_low (n : Int) (w : World) (h : n < 0) : Calls Tryd.prog 52 #[.int .i64 n] w fun e w' => e = .returned (.bool false) ∧ w = w' := by
  go_enter Tryd.func52, Tryd.ntmps52
  go_wp2_with fail
  go_ret
  exact ⟨rfl, rfl⟩
theorem mmay_high (n : Int) (w : World) (h0 : 0 ≤ n) (h : 72057594037927935 < n) : Calls Tryd.prog 52 #[.int .i64 n] w fun e w' => e = .returned (.bool false) ∧ w = w' := by
  go_enter Tryd.func52, Tryd.ntmps52
  go_wp2_with fail
  go_ret
  exact ⟨ret_bool (by simp; omega), rfl⟩
def okN (n : Int) : Bool := decide (0 ≤ n ∧ n ≤ 72057594037927935)
theorem okN_iff (n : Int) : okN n = true ↔ 0 ≤ n ∧ n ≤ 72057594037927935 := by unfold okN; rw [decide_eq_true_iff]
theorem mmay_any (n : Int) (w : World) : Calls Tryd.prog 52 #[.int .i64 n] w fun e w' => e = .returned (.bool (okN n)) ∧ w = w' := by
  by_cases h : 0 ≤ n ∧ n ≤ 72057594037927935
  · rw [(okN_iff n).2 h]; exact mmay_yes n w h
  · have : okN n = false := by unfold okN; simpa using h
    rw [this]
    by_cases h0 : n < 0
    · exact mmay_low n w h0
    · exact mmay_high n w (by omega) (by omega)
theorem number_v (b : Nat) (w : World) : Calls Tryd.prog 54 #[.pointer (some ⟨b, 0, none⟩), .int .i32 118] w fun e w' => e = .returned (.pointer (some ⟨b, 2, none⟩)) ∧ w = w' := by
  go_enter Tryd.func54, Tryd.ntmps54
  go_wp2_with fail
  go_ret
  exact ⟨rfl, rfl⟩
theorem number_l (b : Nat) (w : World) : Calls Tryd.prog 54 #[.pointer (some ⟨b, 0, none⟩), .int .i32 108] w fun e w' => e = .returned (.pointer (some ⟨b, 3, none⟩)) ∧ w = w' := by
  go_enter Tryd.func54, Tryd.ntmps54
  go_wp2_with fail
  go_ret
  exact ⟨rfl, rfl⟩
theorem number_o (b : Nat) (w : World) : Calls Tryd.prog 54 #[.pointer (some ⟨b, 0, none⟩), .int .i32 111] w fun e w' => e = .returned (.pointer (some ⟨b, 4, none⟩)) ∧ w = w' := by
  go_enter Tryd.func54, Tryd.ntmps54
  go_wp2_with fail
  go_ret
  exact ⟨rfl, rfl⟩
theorem number_c (b : Nat) (w : World) : Calls Tryd.prog 54 #[.pointer (some ⟨b, 0, none⟩), .int .i32 99] w fun e w' => e = .returned (.pointer (some ⟨b, 5, none⟩)) ∧ w = w' := by
  go_enter Tryd.func54, Tryd.ntmps54
  go_wp2_with fail
  go_ret
  exact ⟨rfl, rfl⟩
theorem number_w (b : Nat) (w : World) : Calls Tryd.prog 54 #[.pointer (some ⟨b, 0, none⟩), .int .i32 119] w fun e w' => e = .returned (.pointer (some ⟨b, 6, none⟩)) ∧ w = w' := by
  go_enter Tryd.func54, Tryd.ntmps54
  go_wp2_with fail
  go_ret
  exact ⟨rfl, rfl⟩
theorem number_s (b : Nat) (w : World) : Calls Tryd.prog 54 #[.pointer (some ⟨b, 0, none⟩), .int .i32 115] w fun e w' => e = .returned (.pointer (some ⟨b, 7, none⟩)) ∧ w = w' := by
  go_enter Tryd.func54, Tryd.ntmps54
  go_wp2_with fail
  go_ret
  exact ⟨rfl, rfl⟩
theorem number_r (b : Nat) (w : World) : Calls Tryd.prog 54 #[.pointer (some ⟨b, 0, none⟩), .int .i32 114] w fun e w' => e = .returned (.pointer (some ⟨b, 8, none⟩)) ∧ w = w' := by
  go_enter Tryd.func54, Tryd.ntmps54
  go_wp2_with fail
  go_ret
  exact ⟨rfl, rfl⟩
theorem number_p (b : Nat) (w : World) : Calls Tryd.prog 54 #[.pointer (some ⟨b, 0, none⟩), .int .i32 112] w fun e w' => e = .returned (.pointer (some ⟨b, 9, none⟩)) ∧ w = w' := by
  go_enter Tryd.func54, Tryd.ntmps54
  go_wp2_with fail
  go_ret
  exact ⟨rfl, rfl⟩
theorem number_i (b : Nat) (w : World) : Calls Tryd.prog 54 #[.pointer (some ⟨b, 0, none⟩), .int .i32 105] w fun e w' => e = .returned (.pointer (some ⟨b, 10, none⟩)) ∧ w = w' := by
  go_enter Tryd.func54, Tryd.ntmps54
  go_wp2_with fail
  go_ret
  exact ⟨rfl, rfl⟩
theorem number_z (b : Nat) (w : World) : Calls Tryd.prog 54 #[.pointer (some ⟨b, 0, none⟩), .int .i32 122] w fun e w' => e = .returned (.pointer (some ⟨b, 11, none⟩)) ∧ w = w' := by
  go_enter Tryd.func54, Tryd.ntmps54
  go_wp2_with fail
  go_ret
  exact ⟨rfl, rfl⟩
theorem number_C (b : Nat) (w : World) : Calls Tryd.prog 54 #[.pointer (some ⟨b, 0, none⟩), .int .i32 67] w fun e w' => e = .returned (.pointer none) ∧ w = w' := by
  go_enter Tryd.func54, Tryd.ntmps54
  go_wp2_with fail
  go_ret
  exact ⟨rfl, rfl⟩
theorem number_I (b : Nat) (w : World) : Calls Tryd.prog 54 #[.pointer (some ⟨b, 0, none⟩), .int .i32 73] w fun e w' => e = .returned (.pointer none) ∧ w = w' := by
  go_enter Tryd.func54, Tryd.ntmps54
  go_wp2_with fail
  go_ret
  exact ⟨rfl, rfl⟩
theorem index_none (w : World) : (callFunc 85 #[.string ⟨#[118, 108, 99, 67, 73]⟩, .int .u8 69]).run Tryd.prog w = .ok (.value (.int .i64 (-1))) w := by
  rw [run_callFunc_indexByte (P := Tryd.prog) (f := 85) Tryd.func85 (by kernel_rfl) (by kernel_rfl) (by kernel_rfl) (by kernel_rfl), run_indexByte_string]
  rfl
set_option maxRecDepth 100000 in
set_option maxHeartbeats 4000000 in
theorem slib (w : World) : Calls Tryd.prog 80 #[.string ⟨#[118, 108, 99, 67, 73]⟩, .int .u8 69] w fun e w' => e = .returned (.int .i64 (-1)) ∧ w = w' := by
  go_enter Tryd.func80, Tryd.ntmps80
  have h := index_none
  go_wp2_with fail
  go_ret
  exact ⟨rfl, rfl⟩
set_option maxRecDepth 100000 in
set_option maxHeartbeats 4000000 in
theorem sib (w : World) : Calls Tryd.prog 70 #[.string ⟨#[118, 108, 99, 67, 73]⟩, .int .u8 69] w fun e w' => e = .returned (.int .i64 (-1)) ∧ w = w' := by
  go_enter Tryd.func70, Tryd.ntmps70
  go_wp2_with (go_at_call 80; refine (slib _).mono ?_; rintro e w' ⟨rfl, rfl⟩)
  go_ret
  exact ⟨rfl, rfl⟩
set_option maxRecDepth 100000 in
set_option maxHeartbeats 4000000 in
theorem indexE (w : World) : Calls Tryd.prog 63 #[.string ⟨#[118, 108, 99, 67, 73]⟩, .int .i32 69] w fun e w' => e = .returned (.int .i64 (-1)) ∧ w = w' := by
  go_enter Tryd.func63, Tryd.ntmps63
  go_wp2_with (go_at_call 70; refine (sib _).mono ?_; rintro e w' ⟨rfl, rfl⟩)
  go_ret
  exact ⟨rfl, rfl⟩
set_option maxRecDepth 100000 in
set_option maxHeartbeats 4000000 in
theorem containsE (w : World) : Calls Tryd.prog 53 #[.string ⟨#[118, 108, 99, 67, 73]⟩, .int .i32 69] w fun e w' => e = .returned (.bool false) ∧ w = w' := by
  go_enter Tryd.func53, Tryd.ntmps53
  go_wp2_with (go_at_call 63; refine (indexE _).mono ?_; rintro e w' ⟨rfl, rfl⟩)
  go_ret
  exact ⟨rfl, rfl⟩
end Go.Proofs.YtpbjjmenkoigjaaDoor
end

section
namespace Go.Proofs.YtpbjjmenkoigjaaDoor
open Go.RowKit
set_option linter.unusedVariables false
/-- An iterator of a string. -/
def It (w : World) (b : Nat) (s : ByteArray) (pos : Nat) : Prop := w.heap[b]? = some (.stringIter s pos)
theorem It.lt {w : World} {b : Nat} {s : ByteArray} {pos : Nat} (h : It w b s pos) : b < w.heap.size := (Array.getElem?_eq_some_iff.1 h).1
theorem It.turned {w w' : World} {b : Nat} {s : ByteArray} {pos : Nat} {X : Nat → Prop} (h : It w b s pos) (ht : Turned X w w') (hX : ¬ X b) : It w' b s pos := (ht.block b h.lt hX).trans h
theorem It.later {w w' : World} {b : Nat} {s : ByteArray} {pos : Nat} (h : It w b s pos) (hb : Below w.heap.size w w') : It w' b s pos := (hb.block b h.lt).trans h
theorem Blk.turned {X : Nat → Prop} {w w' : World} {b : Nat} {cs : Array Value} (h : Blk w b cs) (ht : Turned X w w') (hn : ¬ X b) : Blk w' b cs :=
  ⟨Nat.lt_of_lt_of_le h.1 ht.size, fun i v hv => ⟨(ht.cell (p := ⟨b, i, none⟩) h.1 hn).trans (h.2 i v hv).1, (ht.frozen (p := ⟨b, i, none⟩) h.1 hn).trans (h.2 i v hv).2⟩⟩
theorem range_it (w : World) (t : TypeId) (s : ByteArray) (h : Tryd.prog.underlying t = some .string) :
    ∃ w', (Instr.range t (.string s)).run Tryd.prog w = .ok (.pointer (some ⟨w.heap.size, 0, none⟩)) w' ∧ It w' w.heap.size s 0 ∧ Below w.heap.size w w' :=
  ⟨_, run_range_string w t s h, World.iter_heap w s 0, (Below.refl _ _).alloc (Nat.le_refl _) _⟩
theorem next_it {w : World} {b : Nat} {s : ByteArray} {pos : Nat} (h : It w b s pos) (hp : pos < s.size) (ha : (s[pos]'hp).toNat < 128) :
    ∃ w', (∀ ty, (Instr.next (.pointer (some ⟨b, 0, none⟩)) true ty).run Tryd.prog w = .ok (.tuple #[.bool true, .int .i64 pos, .int .i32 (s[pos]'hp).toNat]) w') ∧ It w' b s (pos + 1) ∧ Turned (fun q => q = b) w w' := by
  have hb := h.lt
  refine ⟨{ w with heap := w.heap.setIfInBounds b (.stringIter s (pos + 1)) }, fun ty => ?_, ?_, ?_⟩
  · unfold It at h
    simp only [Instr.next, getObj, setObj, Sem.run_bind, Sem.run, h, Result.andThen, hp, if_true, decode_ascii s pos hp ha]
    simp [goInt]
  · unfold It
    simp [Array.getElem?_setIfInBounds_self_of_lt hb]
  · refine ⟨rfl, rfl, rfl, by simp, fun k hk hn => ?_⟩
    simp only []
    rw [Array.getElem?_setIfInBounds_ne (fun e => hn e.symm)]
theorem next_end {w : World} {b : Nat} {s : ByteArray} {pos : Nat} (h : It w b s pos) (hp : ¬ pos < s.size) (ty : TypeId) :
    (Instr.next (.pointer (some ⟨b, 0, none⟩)) true ty).run Tryd.prog w = .ok (.tuple #[.bool false]) w := by
  unfold It at h
  simp [Instr.next, getObj, Sem.run, h, hp]
theorem wpList_range_eq {P : Program} {ops : Array Oper} {rest : List Oper} {op : Oper} {a : Act} {w w' : World} {Q : Exit → Act → World → Prop} (ty : TypeId) (x : Operand) (hgd : op.guard = none) (ho : op.op = .range ty x)
    {p v : Value} (hl : (Instr.range ty p).run P w = .ok v w') (hx : a.eval x = p)
    (h : wpList P ops Q rest (a.put op.dst v) w') : wpList P ops Q (op :: rest) a w :=
  wpList_plain hgd fun _ hK => by
    unfold Oper.wp execOp
    simp only [ho, hx, Sem.run_bind, Sem.run_pure, Result.andThen_ok, hl]
    exact hK _ _ h
theorem wpList_next_eq {P : Program} {ops : Array Oper} {rest : List Oper} {op : Oper} {a : Act} {w w' : World} {Q : Exit → Act → World → Prop} (x : Operand) (hgd : op.guard = none) (ho : op.op = .next x true)
    {p v : Value} (hl : ∀ ty, (Instr.next p true ty).run P w = .ok v w') (hx : a.eval x = p)
    (h : wpList P ops Q rest (a.put op.dst v) w') : wpList P ops Q (op :: rest) a w :=
  wpList_plain hgd fun _ hK => by
    unfold Oper.wp execOp
    simp only [ho, hx, Sem.run_bind, Sem.run_pure, Result.andThen_ok, hl]
    exact hK _ _ h
/-- The log's own fields are wiped one after the other. -/
def Mst.wiped (m : Mst) : Nat → Mst
  | 0 => m
  | 1 => { m with v := 0 }
  | 2 => { m with v := 0, lv := 0 }
  | 3 => { m with v := 0, lv := 0, cm := 0 }
  | 4 => { m with v := 0, lv := 0, cm := 0, co := 0, cv := 0, cs := 0 }
  | _ => { m with v := 0, lv := 0, cm := 0, co := 0, cv := 0, cs := 0, ia := none, ic := 0, is := [] }
theorem setCells_three (w : World) (b o : Nat) (x y z : Value) : w.setCells b o [x, y, z] = ((w.setCell ⟨b, o, none⟩ x).setCell ⟨b, o + 1, none⟩ y).setCell ⟨b, o + 2, none⟩ z := rfl
theorem wipe_v (b : Nat) (m : Mst) (w : World) (h : Blk w b (m.wiped 0).row) : Calls Tryd.prog 55 #[.pointer (some ⟨b, 0, none⟩), .int .i32 118] w fun e w' => e = .returned (.tuple #[]) ∧ Blk w' b (m.wiped 1).row ∧ Turned (fun q => q = b) w w' := by
  have h2 := (h.2 2 _ rfl).1
  have h3 := (h.2 2 _ rfl).2
  have HH := Lib.hid (h.set_ 2 (.int .i64 0))
  clear h
  go_enter Tryd.func55, Tryd.ntmps55
  go_wp2_with (go_at_call 54; refine (number_v _ _).mono ?_; rintro e w' ⟨rfl, rfl⟩)
  refine bodyPost_ret (results_none rfl _ _ _) rfl ?_
  exact ⟨rfl, HH.out, Turned.setCell _ _ rfl⟩
theorem wipe_l (b : Nat) (m : Mst) (w : World) (h : Blk w b (m.wiped 1).row) : Calls Tryd.prog 55 #[.pointer (some ⟨b, 0, none⟩), .int .i32 108] w fun e w' => e = .returned (.tuple #[]) ∧ Blk w' b (m.wiped 2).row ∧ Turned (fun q => q = b) w w' := by
  have h2 := (h.2 3 _ rfl).1
  have h3 := (h.2 3 _ rfl).2
  have HH := Lib.hid (h.set_ 3 (.int .i64 0))
  clear h
  go_enter Tryd.func55, Tryd.ntmps55
  go_wp2_with (go_at_call 54; refine (number_l _ _).mono ?_; rintro e w' ⟨rfl, rfl⟩)
  refine bodyPost_ret (results_none rfl _ _ _) rfl ?_
  exact ⟨rfl, HH.out, Turned.setCell _ _ rfl⟩
theorem wipe_c (b : Nat) (m : Mst) (w : World) (h : Blk w b (m.wiped 2).row) : Calls Tryd.prog 55 #[.pointer (some ⟨b, 0, none⟩), .int .i32 99] w fun e w' => e = .returned (.tuple #[]) ∧ Blk w' b (m.wiped 3).row ∧ Turned (fun q => q = b) w w' := by
  have h2 := (h.2 5 _ rfl).1
  have h3 := (h.2 5 _ rfl).2
  have HH := Lib.hid (h.set_ 5 (.int .i64 0))
  clear h
  go_enter Tryd.func55, Tryd.ntmps55
  go_wp2_with (go_at_call 54; refine (number_c _ _).mono ?_; rintro e w' ⟨rfl, rfl⟩)
  refine bodyPost_ret (results_none rfl _ _ _) rfl ?_
  exact ⟨rfl, HH.out, Turned.setCell _ _ rfl⟩
theorem wipe_C (b : Nat) (m : Mst) (w : World) (h : Blk w b (m.wiped 3).row) : Calls Tryd.prog 55 #[.pointer (some ⟨b, 0, none⟩), .int .i32 67] w fun e w' => e = .returned (.tuple #[]) ∧ Blk w' b (m.wiped 4).row ∧ Turned (fun q => q = b) w w' := by
  have h1 : (Instr.storeAt 27 (.pointer (some ⟨b, 12, none⟩)) (.agg #[.int .i64 0, .int .i64 0, .int .u64 0])).run Tryd.prog w = .ok () (w.setCells b 12 [.int .i64 0, .int .i64 0, .int .u64 0]) :=
    run_storeAt_mid w b 12 27 #[.int .i64 0, .int .i64 0, .int .u64 0] (fun i hi => by
      have hi' : i < 3 := hi
      obtain ⟨v, hv⟩ : ∃ v, (m.wiped 3).row[12 + i]? = some v := by
        match i, hi' with
        | 0, _ => exact ⟨_, rfl⟩
        | 1, _ => exact ⟨_, rfl⟩
        | 2, _ => exact ⟨_, rfl⟩
      have := h.2 (12 + i) v hv
      exact ⟨by rw [this.1]; rfl, this.2⟩) (by kernel_rfl) (by simp [Value.oneCell'])
  obtain ⟨W1, hW1⟩ : ∃ W1, W1 = w.setCells b 12 [.int .i64 0, .int .i64 0, .int .u64 0] := ⟨_, rfl⟩
  rw [← hW1] at h1
  have HB : Hid (Blk W1 b (m.wiped 4).row) := Lib.hid (by rw [hW1]; exact ((h.set_ 12 (.int .i64 0)).set_ 13 (.int .i64 0)).set_ 14 (.int .u64 0))
  have HT : Hid (Turned (fun q => q = b) w W1) := Lib.hid (by rw [hW1]; exact Turned.setCells (X := fun q => q = b) b rfl _ _ _)
  have h1 := Lib.hid h1
  clear h hW1
  go_enter Tryd.func55, Tryd.ntmps55
  go_wp2_with (first | (go_at_call 54; refine (number_C _ _).mono ?_; rintro e w' ⟨rfl, rfl⟩) | (guard_target =~ wpList _ _ _ (⟨_, Op.store _ (Operand.tmp 18) (Operand.tmp 16), _, _, _, _⟩ :: _) _ _; refine wpList_store_eq 27 (Operand.tmp 18) (Operand.tmp 16) rfl rfl h1.out rfl rfl ?_))
  refine bodyPost_end (results_none rfl _ _ _) rfl ?_
  exact ⟨rfl, HB.out, HT.out⟩
theorem wipe_I (b : Nat) (m : Mst) (w : World) (h : Blk w b (m.wiped 4).row) : Calls Tryd.prog 55 #[.pointer (some ⟨b, 0, none⟩), .int .i32 73] w fun e w' => e = .returned (.tuple #[]) ∧ Blk w' b (m.wiped 5).row ∧ Turned (fun q => q = b) w w' := by
  have h2 := (h.2 31 _ rfl).1
  have h3 := (h.2 31 _ rfl).2
  have HH := Lib.hid (h.set_ 31 (.slice none 0 0))
  clear h
  go_enter Tryd.func55, Tryd.ntmps55
  go_wp2_with (go_at_call 54; refine (number_I _ _).mono ?_; rintro e w' ⟨rfl, rfl⟩)
  refine bodyPost_end (results_none rfl _ _ _) rfl ?_
  exact ⟨rfl, HH.out, Turned.setCell _ _ rfl⟩
end Go.Proofs.YtpbjjmenkoigjaaDoor
end

section
namespace Go.Proofs.YtpbjjmenkoigjaaDoor
open Go.RowKit
set_option linter.unusedVariables false
instance : DecidableEq Est := fun x y =>
  if h : x.v = y.v ∧ x.o = y.o ∧ x.u = y.u ∧ x.p = y.p ∧ x.c = y.c ∧ x.s = y.s ∧ x.r = y.r ∧ x.k = y.k ∧ x.b = y.b then
    .isTrue (by obtain ⟨_, _, _, _, _, _, _, _, _⟩ := x; obtain ⟨_, _, _, _, _, _, _, _, _⟩ := y; obtain ⟨rfl, rfl, rfl, rfl, rfl, rfl, rfl, rfl, rfl⟩ := h; rfl)
  else .isFalse (fun q => h (by subst q; exact ⟨rfl, rfl, rfl, rfl, rfl, rfl, rfl, rfl, rfl⟩))
instance : DecidableEq Sst := fun x y =>
  if h : x.o = y.o ∧ x.v = y.v ∧ x.u = y.u ∧ x.p = y.p ∧ x.s = y.s then
    .isTrue (by obtain ⟨_, _, _, _, _⟩ := x; obtain ⟨_, _, _, _, _⟩ := y; obtain ⟨rfl, rfl, rfl, rfl, rfl⟩ := h; rfl)
  else .isFalse (fun q => h (by subst q; exact ⟨rfl, rfl, rfl, rfl, rfl⟩))
theorem wpList_want {P : Program} {ops : Array Oper} {rest : List Oper} {op : Oper} {a : Act} {w : World} {Q : Exit → Act → World → Prop} (hw : Region.wanted op (yielded ops a.tmps) = true)
    (h : ∀ K : Act → World → Prop, (∀ a w, wpList P ops Q rest a w → K a w) → op.wp P a w K Q) : wpList P ops Q (op :: rest) a w :=
  wpList_step fun K hK => by simp only [hw, if_true]; exact h K hK
/-- Two structs are compared. -/
def EqFact (T : TypeId) (xs ys : Array Value) (v : Bool) : Prop := ∀ (xo yo : Operand) (W : World), (do eqGuard .eql T xo yo (.agg xs) (.agg ys); binOp .eql T (.agg xs) (.agg ys)).run Tryd.prog W = .ok (.bool v) W
theorem wpList_eql {ops : Array Oper} {rest : List Oper} {op : Oper} {a : Act} {w : World} {Q : Exit → Act → World → Prop} (T T2 : TypeId) (x y : Operand) (hw : Region.wanted op (yielded ops a.tmps) = true) (ho : op.op = .binOp .eql T x y T2)
    {xs ys : Array Value} {v : Bool} (hl : EqFact T xs ys v) (hx : a.eval x = .agg xs) (hy : a.eval y = .agg ys)
    (h : wpList Tryd.prog ops Q rest (a.put op.dst (.bool v)) w) : wpList Tryd.prog ops Q (op :: rest) a w :=
  wpList_want hw fun _ hK => by
    unfold Oper.wp execOp
    simp only [ho, hx, hy, Sem.run_bind, Sem.run_pure] at *
    have := hl x y w
    simp only [Sem.run_bind] at this
    simp only [this, Result.andThen_ok]
    exact hK _ _ h
theorem wpList_load_w {P : Program} {ops : Array Oper} {rest : List Oper} {op : Oper} {a : Act} {w : World} {Q : Exit → Act → World → Prop} (ty : TypeId) (x : Operand) (hw : Region.wanted op (yielded ops a.tmps) = true) (ho : op.op = .load ty x)
    {p v : Value} (hl : (Instr.loadAt ty p).run P w = .ok v w) (hx : a.eval x = p)
    (h : wpList P ops Q rest (a.put op.dst v) w) : wpList P ops Q (op :: rest) a w :=
  wpList_want hw fun _ hK => by
    unfold Oper.wp execOp
    simp only [ho, hx, Sem.run_bind, Sem.run_pure, Result.andThen_ok, hl]
    exact hK _ _ h
theorem wpList_box_eq {P : Program} {ops : Array Oper} {rest : List Oper} {op : Oper} {a : Act} {w : World} {Q : Exit → Act → World → Prop} (ty : TypeId) (x : Operand) (hgd : op.guard = none) (ho : op.op = .box ty x)
    {cs : Array Value} (hx : a.eval x = .agg cs)
    (h : ∀ w', w' = w.alloc (.cells cs ty) → wpList P ops Q rest (a.put op.dst (.pointer (some ⟨w.heap.size, 0, none⟩))) w') : wpList P ops Q (op :: rest) a w :=
  wpList_plain hgd fun _ hK => by
    unfold Oper.wp execOp
    simp only [ho, hx, Instr.box, newVar, Sem.run_bind, Sem.run_pure]
    have hr : (newRow ty (Value.agg cs).cells).run P w = .ok ⟨w.heap.size, 0, none⟩ (w.alloc (.cells cs ty)) := by simp [newRow, Value.cells, go_sem]
    simp only [hr, Result.andThen_ok]
    exact hK _ _ (h _ rfl)
theorem bytes_eq (a b : ByteArray) : a = b ↔ a.toList = b.toList := by
  rw [ByteArray.toList_eq, ByteArray.toList_eq]
  obtain ⟨⟨x⟩⟩ := a
  obtain ⟨⟨y⟩⟩ := b
  simp
theorem eq_est (x y : Est) : EqFact 35 x.row y.row (decide (x = y)) := by
  intro xo yo W
  obtain ⟨a1, a2, a3, a4, a5, a6, a7, a8, a9⟩ := x
  obtain ⟨b1, b2, b3, b4, b5, b6, b7, b8, b9⟩ := y
  unfold Est.row
  simp only [Est.mk.injEq, bytes_eq a9 b9]
  simp [go_sem]
  repeat' split
  all_goals simp_all
theorem eq_sst (x y : Sst) : EqFact 38 x.row y.row (decide (x = y)) := by
  intro xo yo W
  obtain ⟨a1, a2, a3, a4, a5⟩ := x
  obtain ⟨b1, b2, b3, b4, b5⟩ := y
  unfold Sst.row
  simp only [Sst.mk.injEq]
  simp [go_sem]
  repeat' split
  all_goals simp_all
theorem eq_mark (a1 a2 a3 b1 b2 b3 : Int) : EqFact 27 #[.int .i64 a1, .int .i64 a2, .int .u64 a3] #[.int .i64 b1, .int .i64 b2, .int .u64 b3] (decide (a1 = b1 ∧ a2 = b2 ∧ a3 = b3)) := by
  intro xo yo W
  simp [go_sem]
  repeat' split
  all_goals simp_all
theorem eq_sums (a1 a2 a3 a4 a5 a6 b1 b2 b3 b4 b5 b6 : Int) : EqFact 42 #[.int .u64 a1, .int .u64 a2, .int .u64 a3, .int .u64 a4, .int .u64 a5, .int .u64 a6] #[.int .u64 b1, .int .u64 b2, .int .u64 b3, .int .u64 b4, .int .u64 b5, .int .u64 b6] (decide (a1 = b1 ∧ a2 = b2 ∧ a3 = b3 ∧ a4 = b4 ∧ a5 = b5 ∧ a6 = b6)) := by
  intro xo yo W
  have hu : Tryd.prog.underlying 42 = some (.array 6 25) := by kernel_rfl
  have hu2 : Tryd.prog.underlying 25 = some (.int .u64) := by kernel_rfl
  have hc : Tryd.prog.cellsOf 25 = 1 := by kernel_rfl
  obtain ⟨i, hi⟩ := info_of_underlying hu2
  have hg := run_eqGuard_agg (P := Tryd.prog) W .eql 42 xo yo #[.int .u64 a1, .int .u64 a2, .int .u64 a3, .int .u64 a4, .int .u64 a5, .int .u64 a6] #[.int .u64 b1, .int .u64 b2, .int .u64 b3, .int .u64 b4, .int .u64 b5, .int .u64 b6] (by kernel_rfl)
  have hq : ∀ (d : Nat) (a b : Int), (Op.equalIn (d + 1) 25 (.int .u64 a) (.int .u64 b)).run Tryd.prog W = .ok (a == b) W := fun d a b => run_equalIn_int W d _ _ _ a b hu2
  have hq : ∀ (a b : Int), (Op.equalIn 9999 25 (.int .u64 a) (.int .u64 b)).run Tryd.prog W = .ok (a == b) W := fun a b => hq 9998 a b
  simp only [Sem.run_bind, hg, Result.andThen_ok, run_eql_struct]
  rw [run_equalIn_array W 9999 _ _ hu hi, hc]
  simp [show List.range 6 = [0, 1, 2, 3, 4, 5] from rfl, Op.eqItems, part, isAgg, run_underlying hu2, hq]
  repeat' split
  all_goals simp_all
end Go.Proofs.YtpbjjmenkoigjaaDoor
end

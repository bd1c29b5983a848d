/- What turned; a slice of one's own (its cells, its spare room), wherever it begins; append to it. -/
import Derived.Test.YtecaahcmebdglaaProg
import Derived.WalkKit
import Derived.Below
import Derived.ArgAppend
import Derived.Lib.AppendZeros
import Derived.Lib.Hide
import Derived.Deep.RegionHeld
import Derived.Laws.AppendOwn
namespace Go.Proofs.Ytecaahcmebdglaa
open Go.RowKit
set_option linter.unusedVariables false
/-- Of the blocks that were there those of X alone have turned. -/
structure Turned (X : Nat → Prop) (w w' : World) : Prop where
  os : w'.os = w.os
  tape : w'.tape = w.tape
  output : w'.output = w.output
  size : w.heap.size ≤ w'.heap.size
  block : ∀ k, k < w.heap.size → ¬ X k → w'.heap[k]? = w.heap[k]?
section
variable {X X' : Nat → Prop} {a b c w w' : World}
theorem Turned.refl (X : Nat → Prop) (w : World) : Turned X w w := ⟨rfl, rfl, rfl, Nat.le_refl _, fun _ _ _ => rfl⟩
theorem Turned.trans (h : Turned X a b) (k : Turned X' b c) (hX : ∀ q, X' q → X q ∨ a.heap.size ≤ q) : Turned X a c :=
  ⟨k.os.trans h.os, k.tape.trans h.tape, k.output.trans h.output, Nat.le_trans h.size k.size, fun i hi hn => (k.block i (Nat.lt_of_lt_of_le hi h.size) (fun q => by
    rcases hX i q with r | r
    · exact hn r
    · omega)).trans (h.block i hi hn)⟩
theorem Turned.cell (h : Turned X w w') {p : Addr} (hp : p.block < w.heap.size) (hn : ¬ X p.block) : w'.cell? p = w.cell? p := World.cell?_of_block (h.block p.block hp hn)
theorem Turned.frozen (h : Turned X w w') {p : Addr} (hp : p.block < w.heap.size) (hn : ¬ X p.block) : w'.frozen? p = w.frozen? p := World.frozen?_of_block (h.block p.block hp hn)
theorem Turned.below {B : Nat} (h : Turned X w w') (hX : ∀ q, X q → B ≤ q) (hB : B ≤ w.heap.size) : Below B w w' :=
  ⟨h.os, h.tape, h.output, h.size, fun k hk => h.block k (by omega) (fun q => by have := hX k q; omega)⟩
theorem Turned.of_below (X : Nat → Prop) (h : Below w.heap.size w w') : Turned X w w' := ⟨h.os, h.tape, h.output, h.size, fun k hk _ => h.block k hk⟩
theorem Turned.mono (h : Turned X w w') (hX : ∀ q, X q → X' q ∨ w.heap.size ≤ q) : Turned X' w w' := ⟨h.os, h.tape, h.output, h.size, fun k hk hn => h.block k hk (fun q => by
    rcases hX k q with r | r
    · exact hn r
    · omega)⟩
theorem Turned.grown {row : Option Nat} (h : w.grownBy w' row) (hX : ∀ k, row = some k → X k) : Turned X w w' :=
  ⟨h.os, h.tape, h.output, h.size, fun k hk hn => h.block k hk (fun e => hn (hX k e.symm))⟩
theorem block_setCell (w : World) (p : Addr) (v : Value) (k : Nat) (hk : k ≠ p.block) : (w.setCell p v).heap[k]? = w.heap[k]? := by
  unfold World.setCell
  simp [Array.getElem?_modify, Ne.symm hk]
theorem Turned.setCell (p : Addr) (v : Value) (hp : X p.block) : Turned X w (w.setCell p v) := by
  refine ⟨?_, ?_, ?_, by simp, fun k hk hn => block_setCell w p v k (fun e => hn (e ▸ hp))⟩
  · exact ((Below.refl 0 w).setCell (p := p) (Nat.zero_le _) v).os
  · exact ((Below.refl 0 w).setCell (p := p) (Nat.zero_le _) v).tape
  · exact ((Below.refl 0 w).setCell (p := p) (Nat.zero_le _) v).output
theorem Turned.alloc (w : World) (X : Nat → Prop) (o : Obj) : Turned X w (w.alloc o) := Turned.of_below X ((Below.refl _ _).alloc (Nat.le_refl _) o)
theorem Turned.drew (h : Turned X w w') : Turned X w w'.drew := ⟨h.os, h.tape, h.output, h.size, h.block⟩
theorem Turned.setCells (b : Nat) (hb : X b) : ∀ (vs : List Value) (o : Nat) (w : World), Turned X w (w.setCells b o vs)
  | [], _, w => Turned.refl X w
  | v :: r, o, w => (Turned.setCell ⟨b, o, none⟩ v hb).trans (Turned.setCells b hb r (o + 1) _) (fun q h => .inl h)
end
/-- n elements of so many cells each, in a block of Y. -/
def OwnC (Y : Nat → Prop) (w : World) (v : Value) (n size : Nat) (cs : List Value) : Prop :=
  cs.length = n * size ∧ ((v = .slice none 0 0 ∧ n = 0) ∨ ∃ b off cap, v = .slice (some ⟨b, off, none⟩) n cap ∧ Y b ∧ b < w.heap.size ∧ n ≤ cap ∧ (∀ j u, cs[j]? = some u → w.cell? ⟨b, off + j, none⟩ = some u) ∧
    ∀ j, j < cap * size → (w.cell? ⟨b, off + j, none⟩).isSome = true ∧ w.frozen? ⟨b, off + j, none⟩ = false)
section
variable {Y Y' X : Nat → Prop} {w w' : World} {v : Value} {n size : Nat} {cs : List Value}
theorem OwnC.nil (Y : Nat → Prop) (w : World) (size : Nat) : OwnC Y w (.slice none 0 0) 0 size [] := ⟨by simp, .inl ⟨rfl, rfl⟩⟩
theorem OwnC.mono (h : OwnC Y w v n size cs) (hY : ∀ q, Y q → Y' q) : OwnC Y' w v n size cs := by
  obtain ⟨h1, h2⟩ := h
  refine ⟨h1, ?_⟩
  rcases h2 with h | ⟨b, off, cap, hv, hb, r⟩
  · exact .inl h
  · exact .inr ⟨b, off, cap, hv, hY b hb, r⟩
theorem OwnC.turned (h : OwnC Y w v n size cs) (ht : Turned X w w') (hd : ∀ q, Y q → ¬ X q) : OwnC Y w' v n size cs := by
  obtain ⟨h1, h2⟩ := h
  refine ⟨h1, ?_⟩
  rcases h2 with h | ⟨b, off, cap, hv, hb, hlt, hc, h3, h4⟩
  · exact .inl h
  · refine .inr ⟨b, off, cap, hv, hb, Nat.lt_of_lt_of_le hlt ht.size, hc, fun j u hu => ?_, fun j hj => ?_⟩
    · rw [ht.cell (p := ⟨b, off + j, none⟩) hlt (hd b hb)]; exact h3 j u hu
    · rw [ht.cell (p := ⟨b, off + j, none⟩) hlt (hd b hb), ht.frozen (p := ⟨b, off + j, none⟩) hlt (hd b hb)]; exact h4 j hj
theorem OwnC.later (h : OwnC Y w v n size cs) (hb : Below w.heap.size w w') : OwnC Y w' v n size cs := h.turned (Turned.of_below (fun _ => False) hb) (fun _ _ h => h)
theorem OwnC.of_row {base : Nat} {e : TypeId} (h : w.ownsRow base e size v n cs) : OwnC (fun q => base ≤ q) w v n size cs := by
  obtain ⟨h1, h2⟩ := h
  refine ⟨h1, ?_⟩
  rcases h2 with h | ⟨g, cap, cur, hv, hg, hr, hc, hm, hsz, htk⟩
  · exact .inl h
  · refine .inr ⟨g, 0, cap, hv, hg, (Array.getElem?_eq_some_iff.1 hr).1, hc, fun j u hu => ?_, fun j hj => ⟨?_, ?_⟩⟩
    · rw [Nat.zero_add, cell_of_row _ _ _ _ _ _ hr, ← Array.getElem?_toList]
      rw [← htk] at hu
      have hjl : j < n * size := by
        have := (List.getElem?_eq_some_iff.1 hu).1
        rw [List.length_take] at this; omega
      rw [List.getElem?_take_of_lt hjl] at hu
      exact hu
    · rw [Nat.zero_add, cell_of_row _ _ _ _ _ _ hr, Array.getElem?_eq_getElem (by omega)]; rfl
    · simp [World.frozen?, hr]
/-- append to a slice of one's own. -/
theorem run_app {P : Program} (t ty e : TypeId) (i : TypeInfo) (z : Value) (bytes : Nat) (ht : P.underlying t = some (.slice e)) (hi : P.info? e = some i) (hz : i.zero = some z) (hsize : i.size = size) (hby : i.bytes = bytes) (hzs : z.cells.size = size) (hsz : 0 < size)
    (hO : OwnC Y w v n size cs) (ad : Addr) (m c : Nat) (news : List Value) (hl : news.length = m * size) (hnews : ∀ j u, news[j]? = some u → w.cell? (ad.add j) = some u) (h1 : ∀ u ∈ news, u.oneCell' = true) (h63 : n + m ≤ maxLen) (hbytes : (n + m) * bytes ≤ 140737488355328) :
    ∃ v' w', (Builtin.append_ #[t, t] ty #[v, .slice (some ad) m c]).run P w = .ok v' w' ∧ OwnC (fun q => Y q ∨ w.heap.size ≤ q) w' v' (n + m) size (cs ++ news) ∧ Turned Y w w' := by
  obtain ⟨hlen, h2⟩ := hO
  rcases h2 with ⟨rfl, rfl⟩ | ⟨b, off, cap, rfl, hb, hlt, hc, h3, h4⟩
  · obtain rfl : cs = [] := List.eq_nil_of_length_eq_zero (by simpa using hlen)
    obtain ⟨v', w', hrun, r1, r2, _⟩ := run_append_own (P := P) w w.heap.size t ty e i z size bytes ht hi hz hsize hby hzs hsz (.slice none 0 0) 0 [] (World.ownsRow_nil w _ e size) ad m c news hl hnews h1 h63 hbytes (Nat.le_refl _)
    exact ⟨v', w', hrun, (OwnC.of_row r1).mono (fun q h => .inr h), Turned.grown r2 (fun k hk => by cases hk)⟩
  · by_cases hr : n + m ≤ cap
    · subst hsize
      have hsp : ∀ j, j < news.length → (w.cell? ⟨b, off + n * i.size + j, none⟩).isSome = true ∧ w.frozen? ⟨b, off + n * i.size + j, none⟩ = false := fun j hj => by
        have := h4 (n * i.size + j) (by
          have : (n + m) * i.size ≤ cap * i.size := Nat.mul_le_mul_right _ hr
          rw [Nat.add_mul] at this
          omega)
        rwa [← Nat.add_assoc] at this
      have hrun := run_append_room_cells (P := P) w t ty e i ht hi b off n cap ad m c news hl hnews h1 hr (fun j hj => (hsp j hj).1) (fun j hj => (hsp j hj).2)
      refine ⟨_, _, hrun, ?_, Turned.setCells b hb news _ w⟩
      have hin := World.cell?_setCells_in b news (off + n * i.size) w (fun j hj => (hsp j hj).1)
      have hszc : (w.setCells b (off + n * i.size) news).heap.size = w.heap.size := Nat.le_antisymm (by
        have : ∀ (vs : List Value) (o : Nat) (w : World), (w.setCells b o vs).heap.size ≤ w.heap.size := by
          intro vs
          induction vs with
          | nil => intro o w; exact Nat.le_refl _
          | cons v r ih => intro o w; exact Nat.le_trans (ih (o + 1) _) (by simp)
        exact this _ _ _) (Turned.setCells (X := fun _ => True) b trivial news _ w).size
      refine ⟨by rw [List.length_append, hlen, hl, Nat.add_mul], .inr ⟨b, off, cap, rfl, .inl hb, by rw [hszc]; exact hlt, hr, fun j u hu => ?_, fun j hj => ⟨?_, ?_⟩⟩⟩
      · by_cases hj : j < cs.length
        · rw [List.getElem?_append_left hj] at hu
          rw [World.cell?_setCells_out b _ _ _ _ (fun _ _ => Or.inl (by show off + j < off + n * i.size; omega))]
          exact h3 j u hu
        · rw [List.getElem?_append_right (by omega)] at hu
          obtain ⟨hjl, hv⟩ := List.getElem?_eq_some_iff.1 hu
          have h := hin (j - cs.length) hjl
          rw [show off + n * i.size + (j - cs.length) = off + j by omega] at h
          rw [h, hv]
      · by_cases hj1 : off + j < off + n * i.size
        · rw [World.cell?_setCells_out b _ _ _ _ (fun _ _ => Or.inl hj1)]; exact (h4 j hj).1
        · by_cases hj2 : j - n * i.size < news.length
          · have h := hin (j - n * i.size) hj2
            rw [show off + n * i.size + (j - n * i.size) = off + j by omega] at h
            rw [h]; rfl
          · rw [World.cell?_setCells_out b _ _ _ _ (fun _ _ => Or.inr (by show off + n * i.size + news.length ≤ off + j; omega))]; exact (h4 j hj).1
      · rw [World.frozen?_setCells]; exact (h4 j hj).2
    · have hadd : ∀ j, (⟨b, off, none⟩ : Addr).add j = ⟨b, off + j, none⟩ := by intro j; unfold Addr.add; split <;> simp_all
      obtain ⟨v', w', hrun, r1, r2⟩ := run_append_arg_grows (P := P) w t ty e i z size bytes ht hi hz hsize hby hzs hsz ⟨b, off, none⟩ n cap cs hlen (fun j u hu => by rw [hadd]; exact h3 j u hu) ad m c news hl hnews (by omega) h63 hbytes
      exact ⟨v', w', hrun, (OwnC.of_row r1).mono (fun q h => .inr h), Turned.grown r2 (fun k hk => by cases hk)⟩
end
/-- The append inside a region that draws its order. -/
theorem step_app {P : Program} {ops : Array Oper} {o : Oper} {a : Act} {w : World} {K : Act → World → Prop} {Q : Exit → Act → World → Prop} {E : Prop} (hg : o.guard = none) (s x : Operand) (t : TypeId)
    (hop : o.op = Op.call { callee := Callee.builtin Builtin.append, args := #[s, x], argTypes := #[t, t] }) (v : Value) (X' : Addr) (m c : Nat) (hs : a.eval s = v) (hx : a.eval x = .slice (some X') m c) {v' : Value} {w' : World}
    (hrun : (Builtin.append_ #[t, t] o.type #[v, .slice (some X') m c]).run P w = .ok v' w') (hK : K (a.put o.dst v') w') : if Region.wanted o (yielded ops a.tmps) = true then Oper.wp P o a w K Q else E := by
  have hw : Region.wanted o (yielded ops a.tmps) = true := by simp [Region.wanted, hg]
  rw [if_pos hw]
  unfold Oper.wp
  simp [execOp, hop, resolve, invoke, builtin, hs, hx, hrun, Result.andThen]
  exact hK
end Go.Proofs.Ytecaahcmebdglaa

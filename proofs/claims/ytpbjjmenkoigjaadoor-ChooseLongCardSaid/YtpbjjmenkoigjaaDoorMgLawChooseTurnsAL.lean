/- The walk of Choose. chain of the law. log of the law. What Choose answers to the chapter's examples. awake of the law. -/
import Derived.Test.YtpbjjmenkoigjaaDoorMgLawChooseTurnsAJ
import Derived.Test.YtpbjjmenkoigjaaDoorMgLawChooseTurnsAK
section
namespace Go.Proofs.YtpbjjmenkoigjaaDoor
open Go.RowKit
set_option linter.unusedVariables false
theorem choose_any (C : Int) (ad : Option Addr) (cap : Nat) (L : List Mst) (w : World) (hl : LogsAt w ad cap L) (hg : Gl w) :
    Calls Tryd.prog 10 #[.int .i64 C, .slice ad L.length cap] w fun e w' => CPost w (chooseV C L) e w' := by
  by_cases hC : C = 3 ∨ C = 5
  · by_cases hwh : ((countsL C.toNat L).length : Int) = C
    · exact choose_whole C ad cap L w hl hg hC hwh
    · exact choose_part C ad cap L w hl hg hC hwh
  · exact choose_no C ad cap L w hl hg hC
end Go.Proofs.YtpbjjmenkoigjaaDoor
end

section
namespace Go.Proofs.YtpbjjmenkoigjaaDoor
open Go.RowKit
set_option linter.unusedVariables false
def chainStep (t : List Est × Int × Int × Int) : List Est × Int × Int × Int :=
  let e : Est := ⟨1, nextOp t.2.1 0, t.2.2.1, t.2.2.2, 7, 0, 0, 2, ⟨#[]⟩⟩
  (t.1 ++ [e], e.mo, e.mv, e.sum)
def chainT : Nat → List Est × Int × Int × Int
  | 0 => ([], 0, 0, 0)
  | n + 1 => chainStep (chainT n)
theorem chainT_len : ∀ n, (chainT n).1.length = n
  | 0 => rfl
  | n + 1 => by simp [chainT, chainStep, chainT_len n]
theorem mk_load {W : World} {g : Nat} {a b c : Int} (h : Blk W g (mrow a b c)) : (Instr.loadAt 27 (.pointer (some ⟨g, 0, none⟩))).run Tryd.prog W = .ok (.agg #[.int .i64 a, .int .i64 b, .int .u64 c]) W := load_at (cs := mrow a b c) 27 _ h.range Tryd.underlying27 rfl (by kernel_rfl)
theorem sum_ok (e : Est) (h : 0 ≤ e.p ∧ e.p ≤ 18446744073709551615) : 0 ≤ e.sum ∧ e.sum ≤ 18446744073709551615 := by
  unfold Est.sum mkS
  split
  · have := Chain.chain_lt e.p.toNat (nats (entS e.v e.o e.u e.p e.c e.s e.r e.k e.b)) (by omega)
    omega
  · omega
theorem chainT_p : ∀ n, 0 ≤ (chainT n).2.2.2 ∧ (chainT n).2.2.2 ≤ 18446744073709551615
  | 0 => by simp [chainT]
  | n + 1 => by
    have := chainT_p n
    exact sum_ok _ this
theorem OwnC.empty {Y : Nat → Prop} {w : World} (b off size : Nat) (hY : Y b) (hb : b < w.heap.size) : OwnC Y w (.slice (some ⟨b, off, none⟩) 0 0) 0 size [] :=
  ⟨by simp, .inr ⟨b, off, 0, rfl, hY, hb, Nat.le_refl _, fun j u hu => by simp at hu, fun j hj => absurd hj (by omega)⟩⟩
set_option maxRecDepth 100000 in
set_option maxHeartbeats 20000000 in
theorem lchain_any (n : Nat) (w : World) (hn : n ≤ 1000) :
    Calls Tryd.prog 22 #[.int .i64 n] w fun e w' => (∃ ad cap, e = .returned (.slice ad n cap) ∧ RowsAt 9 w' ad ((chainT n).1.map Est.row) ∧ n ≤ cap) ∧ Below w.heap.size w w' := by
  have H0 : Hid (OwnC (fun q => w.heap.size ≤ q ∧ q ≠ w.heap.size + 1) ((w.alloc (.cells #[] 35)).alloc (.cells #[.int .i64 0, .int .i64 0, .int .u64 0] 27)) (.slice (some ⟨w.heap.size, 0, none⟩) 0 0) 0 9 [] ∧ Blk ((w.alloc (.cells #[] 35)).alloc (.cells #[.int .i64 0, .int .i64 0, .int .u64 0] 27)) (w.heap.size + 1) (mrow 0 0 0) ∧ Below w.heap.size w ((w.alloc (.cells #[] 35)).alloc (.cells #[.int .i64 0, .int .i64 0, .int .u64 0] 27))) := Lib.hid ⟨OwnC.empty _ _ _ ⟨Nat.le_refl _, by omega⟩ (by simp; omega), Blk.new _ _ _ _ (by simp), ((Below.refl _ _).alloc (Nat.le_refl _) _).alloc (by simp) _⟩
  go_enter Tryd.func22, Tryd.ntmps22
  go_wp2_with fail
  generalize (w.alloc (.cells #[] 35)).alloc (.cells #[.int .i64 0, .int .i64 0, .int .u64 0] 27) = W0 at *
  go_loopw [3, 5] (fun lv iv wr => ∃ (j : Nat) (ad : Option Addr) (cap : Nat), j ≤ n ∧ iv = .int .i64 (j : Int) ∧ lv = .slice ad j cap ∧ OwnC (fun q => w.heap.size ≤ q ∧ q ≠ w.heap.size + 1) wr (.slice ad j cap) j 9 (rcells ((chainT j).1.map Est.row)) ∧ Blk wr (w.heap.size + 1) (mrow (chainT j).2.1 (chainT j).2.2.1 (chainT j).2.2.2) ∧ Below w.heap.size w wr) (fun _ iv _ => n - (intOf iv).toNat)
  case atStart => exact ⟨0, some ⟨w.heap.size, 0, none⟩, 0, by omega, rfl, rfl, H0.out.1, H0.out.2.1, H0.out.2.2⟩
  case round =>
    clear H0
    obtain ⟨j, ad, cap, hj, rfl, rfl, hO, hB, hbw⟩ := hrel
    by_cases hlt : j < n
    · have hlti : (j : Int) < (n : Int) := by omega
      have HT : Hid (chainT (j + 1) = chainStep (chainT j)) := Lib.hid rfl
      have HP := Lib.hid (chainT_p j)
      generalize chainT j = t at *
      obtain ⟨E, mo, mv, ms⟩ := t
      unfold chainStep at HT
      simp only at hO hB HT HP
      obtain ⟨e, he⟩ : ∃ e : Est, e = ⟨1, nextOp mo 0, mv, ms, 7, 0, 0, 2, ⟨#[]⟩⟩ := ⟨_, rfl⟩
      have HNX : Hid (∀ W, Calls Tryd.prog 19 #[.agg #[.int .i64 mo, .int .i64 mv, .int .u64 ms], .agg #[.int .i64 1, .int .i64 0, .int .i64 0, .int .u64 0, .int .i64 7, .int .i64 0, .int .i64 0, .int .i64 2, .string ⟨#[]⟩]] W fun x w' => x = .returned (.agg e.row) ∧ Below W.heap.size W w') := Lib.hid (fun W => by rw [he]; exact next_any mo mv ms 1 0 0 0 7 0 0 2 ⟨#[]⟩ W)
      rw [← he] at HT
      have hep : 0 ≤ e.p ∧ e.p ≤ 18446744073709551615 := by rw [he]; exact HP.out
      have HMK := Lib.hid (fun W => markof_any e.v e.o e.u e.c e.s e.r e.k e.p e.b hep W)
      have lm := Lib.hid (mk_load hB)
      have HO := Lib.hid hO.capped
      have HB := Lib.hid hB
      have HBW := Lib.hid hbw
      have hgm : w.heap.size + 1 < wr.heap.size := hB.1
      have HGM := Lib.hid hgm
      clear he hep hO hB hbw hgm
      go_wp2_with (first | (guard_target =~ wpList _ _ _ (⟨_, Op.load _ (Operand.tmp 4), _, _, _, _⟩ :: _) _ _; refine wpList_load_eq 27 (Operand.tmp 4) rfl rfl lm.out rfl ?_))
      refine (HNX.out _).mono ?_
      rintro x w1 ⟨rfl, hb1⟩
      obtain ⟨W2, st6, hW2, hB6, hz2⟩ := fresh w1 #[.int .i64 0, .int .i64 0, .int .i64 0, .int .u64 0, .int .i64 0, .int .i64 0, .int .i64 0, .int .i64 0, .string ⟨#[]⟩] e.row 35 rfl (by kernel_rfl) (Est.row_one e)
      have hb2 : Below wr.heap.size wr W2 := hb1.trans (hW2.mono hb1.size)
      have l6 := Lib.hid (load_at 35 _ hB6.range Tryd.underlying35 rfl (by kernel_rfl))
      have st6 := Lib.hid st6
      have HB6 := Lib.hid hB6
      have HB2 := Lib.hid hb2
      have HZ : Hid (wr.heap.size ≤ w1.heap.size) := Lib.hid hb1.size
      clear hb1 hW2 hB6 hz2 hb2 HNX
      go_wp2_with (first | (guard_target =~ wpList _ _ _ (⟨_, Op.store _ (Operand.tmp 6) (Operand.tmp 16), _, _, _, _⟩ :: _) _ _; refine wpList_store_eq 35 (Operand.tmp 6) (Operand.tmp 16) rfl rfl st6.out rfl rfl ?_) | (guard_target =~ wpList _ _ _ (⟨_, Op.load _ (Operand.tmp 6), _, _, _, _⟩ :: _) _ _; refine wpList_load_eq 35 (Operand.tmp 6) rfl rfl l6.out rfl ?_))
      refine (HMK.out _).mono ?_
      rintro x w3 ⟨rfl, hb3⟩
      obtain ⟨W4, st4, hB4, hT4⟩ := refillT (cs := mrow e.mo e.mv e.sum) 27 ((HB.out.later HB2.out).later hb3) rfl (by kernel_rfl) (mrow_one _ _ _)
      have hgm := HGM.out
      have hzz := HZ.out
      have hO4 := ((HO.out.later HB2.out).later hb3).turned hT4 (fun q hq h => hq.1.2 h)
      have hB64 : Blk W4 w1.heap.size e.row := (HB6.out.later hb3).turned hT4 (by omega)
      have l20 := Lib.hid (load_at 35 _ hB64.range Tryd.underlying35 rfl (by kernel_rfl))
      have hbw4 : Below w.heap.size w W4 := ((HBW.out.trans (HB2.out.mono HBW.out.size)).trans (hb3.mono (HBW.out.trans (HB2.out.mono HBW.out.size)).size)).trans (hT4.below (fun q hq => by omega) (Nat.le_trans (HBW.out.trans (HB2.out.mono HBW.out.size)).size hb3.size))
      have hgz : w.heap.size + 1 < W4.heap.size := hB4.1
      obtain ⟨x', cap', w5, happ, hO5, hT5⟩ := run_ent e hO4 (by omega)
      have HO5 : Hid (OwnC (fun q => w.heap.size ≤ q ∧ q ≠ w.heap.size + 1) w5 (.slice x' (j + 1) cap') (j + 1) 9 (rcells (E.map Est.row) ++ e.row.toList)) := Lib.hid (hO5.mono (fun q hq => by rcases hq with h | h; exact h.1; exact ⟨by omega, by omega⟩))
      have HB5 : Hid (Blk w5 (w.heap.size + 1) (mrow e.mo e.mv e.sum)) := Lib.hid (hB4.turned hT5 (fun h => h.1.2 rfl))
      have HBW5 : Hid (Below w.heap.size w w5) := Lib.hid (hbw4.trans (hT5.below (fun q hq => hq.1.1) hbw4.size))
      have st4 := Lib.hid st4
      have happ := Lib.hid happ
      clear hb3 hB4 hT4 hgm hzz hO4 hB64 hbw4 hO5 hT5 HMK hgz
      go_wp2_with (first | (guard_target =~ wpList _ _ _ (⟨_, Op.store _ (Operand.tmp 4) (Operand.tmp 18), _, _, _, _⟩ :: _) _ _; refine wpList_store_eq 27 (Operand.tmp 4) (Operand.tmp 18) rfl rfl st4.out rfl rfl ?_) | (guard_target =~ wpList _ _ _ (⟨_, Op.load _ (Operand.tmp 6), _, _, _, _⟩ :: _) _ _; refine wpList_load_eq 35 (Operand.tmp 6) rfl rfl l20.out rfl ?_) | (guard_target =~ wpList _ _ _ (⟨_, Op.buildSlice _ 1 _, _, _, _, _⟩ :: _) _ _; refine wpList_bslice_eq 28 (Operand.tmp 20) rfl rfl rfl (bslice_ent e _) ?_) | (guard_target =~ wpList _ _ _ (⟨_, Op.call { callee := Callee.builtin _, args := _, argTypes := _ }, _, _, _, _⟩ :: _) _ _; refine wpList_app_eq 28 (Operand.tmp 19) (Operand.tmp 21) rfl rfl rfl rfl rfl happ.out ?_))
      go_roundw
      case rel => exact ⟨j + 1, x', cap', by omega, by go_num, rfl, by rw [HT.out]; have := HO5.out; rw [rcells_snoc] at this; simpa using this, by rw [HT.out]; exact HB5.out, HBW5.out⟩
      case measure => simp [intOf]; omega
    · obtain rfl : n = j := by omega
      have hl := chainT_len n
      have hr := hO
      have hlm : ((chainT n).1.map Est.row).length = n := by rw [List.length_map, hl]
      have hrw : RowsAt 9 wr ad ((chainT n).1.map Est.row) ∧ n ≤ cap := by
        have h2 : OwnC (fun q => w.heap.size ≤ q ∧ q ≠ w.heap.size + 1) wr (.slice ad ((chainT n).1.map Est.row).length cap) ((chainT n).1.map Est.row).length 9 (rcells ((chainT n).1.map Est.row)) := by rw [hlm]; exact hr
        have h3 := h2.rowsAt (fun y hy => by obtain ⟨m, _, rfl⟩ := List.mem_map.1 hy; rfl)
        rw [hlm] at h3
        exact h3
      have HE := Lib.hid (And.intro hrw hbw)
      clear hl hr hlm hrw hO hB hbw
      go_wp2_with fail
      go_ret
      exact ⟨⟨_, _, rfl, HE.out.1.1, HE.out.1.2⟩, HE.out.2⟩
end Go.Proofs.YtpbjjmenkoigjaaDoor
end

section
namespace Go.Proofs.YtpbjjmenkoigjaaDoor
open Go.RowKit
set_option linter.unusedVariables false
/-- Rows of k cells in a block, from its beginning. -/
def RowB (k : Nat) (w : World) (g : Nat) (rows : List (Array Value)) : Prop := g < w.heap.size ∧ (∀ x ∈ rows, x.size = k) ∧ ∀ (q : Nat) (x : Array Value), rows[q]? = some x → ∀ (r : Nat) (u : Value), x[r]? = some u → w.cell? ⟨g, q * k + r, none⟩ = some u ∧ w.frozen? ⟨g, q * k + r, none⟩ = false
theorem RowB.of_blk {k : Nat} {w : World} {g : Nat} {rows : List (Array Value)} (hk : ∀ x ∈ rows, x.size = k) (h : Blk w g (rcells rows).toArray) : RowB k w g rows :=
  ⟨h.1, hk, fun q x hx r u hu => h.2 (q * k + r) u (by simpa using rcells_get hk hx hu)⟩
theorem RowB.turned {X : Nat → Prop} {k : Nat} {w w' : World} {g : Nat} {rows : List (Array Value)} (h : RowB k w g rows) (ht : Turned X w w') (hn : ¬ X g) : RowB k w' g rows :=
  ⟨Nat.lt_of_lt_of_le h.1 ht.size, h.2.1, fun q x hx r u hu => ⟨(ht.cell (p := ⟨g, q * k + r, none⟩) h.1 hn).trans (h.2.2 q x hx r u hu).1, (ht.frozen (p := ⟨g, q * k + r, none⟩) h.1 hn).trans (h.2.2 q x hx r u hu).2⟩⟩
theorem RowB.later {k : Nat} {w w' : World} {g : Nat} {rows : List (Array Value)} (h : RowB k w g rows) (hb : Below w.heap.size w w') : RowB k w' g rows := h.turned (Turned.of_below (fun _ => False) hb) (fun h => h)
theorem RowB.rowsAt {k : Nat} {w : World} {g : Nat} {rows : List (Array Value)} (h : RowB k w g rows) : RowsAt k w (some ⟨g, 0, none⟩) rows :=
  fun i x hx => ⟨g, 0, rfl, h.1, fun j u hu => by rw [Nat.zero_add]; exact (h.2.2 i x hx j u hu).1⟩
theorem cell_isSome {w : World} {p : Addr} {v : Value} (h : w.cell? p = some v) : (w.cell? p).isSome = true := by rw [h]; rfl
/-- A row is written anew. -/
theorem RowB.stored {k : Nat} {w : World} {g : Nat} {rows : List (Array Value)} (h : RowB k w g rows) {j : Nat} (hj : j < rows.length) (y : Array Value) (hy : y.size = k) : RowB k (w.setCells g (j * k) y.toList) g (rows.set j y) := by
  obtain ⟨h1, h2, h3⟩ := h
  have hin := World.cell?_setCells_in g y.toList (j * k) w (fun r hr => by
    have hr' : r < (rows[j]).size := by rw [h2 _ (List.getElem_mem hj), ← hy]; simpa using hr
    exact cell_isSome (h3 j rows[j] (List.getElem?_eq_getElem hj) r _ (Array.getElem?_eq_getElem hr')).1)
  refine ⟨Nat.lt_of_lt_of_le h1 (setCells_size _ _ _ _), fun x hx => ?_, fun q x hx r u hu => ?_⟩
  · rcases List.mem_or_eq_of_mem_set hx with h | rfl
    · exact h2 x h
    · exact hy
  · by_cases hq : q = j
    · subst hq
      rw [List.getElem?_set_self hj] at hx
      injection hx with hx
      subst hx
      have hr : r < y.size := (Array.getElem?_eq_some_iff.1 hu).1
      refine ⟨?_, ?_⟩
      · rw [hin r (by simpa using hr), ← hu]
        simp [Array.getElem?_eq_getElem hr]
      · rw [World.frozen?_setCells]
        have hr' : r < (rows[q]).size := by rw [h2 _ (List.getElem_mem hj), ← hy]; exact hr
        exact (h3 q rows[q] (List.getElem?_eq_getElem hj) r _ (Array.getElem?_eq_getElem hr')).2
    · rw [List.getElem?_set_ne (Ne.symm hq)] at hx
      have hr : r < k := by rw [← h2 x (List.mem_of_getElem? hx)]; exact (Array.getElem?_eq_some_iff.1 hu).1
      have := h3 q x hx r u hu
      refine ⟨?_, by rw [World.frozen?_setCells]; exact this.2⟩
      rw [World.cell?_setCells_out g _ _ _ _ (fun _ _ => ?_)]
      · exact this.1
      · have hl : y.toList.length = k := by rw [Array.length_toList]; exact hy
        rw [hl]
        show q * k + r < j * k ∨ j * k + k ≤ q * k + r
        rcases Nat.lt_or_gt_of_ne hq with h | h
        · left
          have := Nat.mul_le_mul_right k (show q + 1 ≤ j from h)
          rw [Nat.add_mul, Nat.one_mul] at this
          omega
        · right
          have := Nat.mul_le_mul_right k (show j + 1 ≤ q from h)
          rw [Nat.add_mul, Nat.one_mul] at this
          omega
theorem blk_of_alloc (w : World) (cs : Array Value) (T : TypeId) : Blk (w.alloc (.cells cs T)) w.heap.size cs := Blk.new _ _ _ _ rfl
def holdIt (e : Est) : Ist := ⟨1, stubV e, e⟩
def itemsOf (l : List Est) (n : Nat) : List Ist := l.map holdIt ++ List.replicate n Ist.zero
def logM (who view : Int) (g : Nat) (is : List Ist) : Mst := ⟨7, who, 9, view, 0, 0, 0, 0, 0, 0, 0, 0, 0, 0, 0, 0, 0, 0, 0, 0, 0, Est.zero, none, 0, [], some ⟨g, 0, none⟩, 8, is, ⟨#[]⟩⟩
theorem make_items (w : World) : (Instr.makeSlice 43 (.int .i64 8) (.int .i64 8)).run Tryd.prog w = .ok (.slice (some ⟨w.heap.size, 0, none⟩) 8 8) (w.alloc (.cells (rcells ((List.replicate 8 Ist.zero).map Ist.row)).toArray 40)) := by kernel_rfl
theorem build_item (s : Sst) (e : Est) (w : World) : (Instr.build 40 #[(0, .int .i64 1), (1, .agg s.row), (2, .agg e.row)]).run Tryd.prog w = .ok (.agg (Ist.row ⟨1, s, e⟩)) w := by kernel_rfl
theorem mk_items (w : World) : ∃ W, (Instr.makeSlice 43 (.int .i64 8) (.int .i64 8)).run Tryd.prog w = .ok (.slice (some ⟨w.heap.size, 0, none⟩) 8 8) W ∧ RowB 15 W w.heap.size ((List.replicate 8 Ist.zero).map Ist.row) ∧ Below w.heap.size w W :=
  ⟨_, make_items w, RowB.of_blk (fun x hx => by obtain ⟨y, _, rfl⟩ := List.mem_map.1 hx; rfl) (blk_of_alloc _ _ _), (Below.refl _ _).alloc (Nat.le_refl _) _⟩
theorem wpList_make_eq {P : Program} {ops : Array Oper} {rest : List Oper} {op : Oper} {a : Act} {w w' : World} {Q : Exit → Act → World → Prop} (TS : TypeId) (x y : Operand) (hgd : op.guard = none) (ho : op.op = .makeSlice TS x y)
    {v : Value} (hl : (Instr.makeSlice TS (a.eval x) (a.eval y)).run P w = .ok v w')
    (h : wpList P ops Q rest (a.put op.dst v) w') : wpList P ops Q (op :: rest) a w :=
  wpList_plain hgd fun _ hK => by
    unfold Oper.wp execOp
    simp only [ho, Sem.run_bind, Sem.run_pure, Result.andThen_ok, hl]
    exact hK _ _ h
theorem exec_build3 {P : Program} {op : Oper} {a : Act} {w : World} (T : TypeId) (i j k : Nat) (x y z : Operand) (ho : op.op = .build T #[(i, x), (j, y), (k, z)]) {p q r v : Value} (hx : a.eval x = p) (hy : a.eval y = q) (hz : a.eval z = r) (hl : (Instr.build T #[(i, p), (j, q), (k, r)]).run P w = .ok v w) :
    (execOp a.eval op).run P w = .ok (.value v) w := by
  unfold execOp
  simp only [ho, List.map_toArray, List.map_cons, List.map_nil, hx, hy, hz, Sem.run_bind, Sem.run_pure, Result.andThen_ok, hl]
theorem items_set {l : List Est} {j : Nat} {e : Est} (h : l[j]? = some e) (h8 : j < 8) : ((itemsOf (l.take j) (8 - j)).map Ist.row).set j (holdIt e).row = (itemsOf (l.take (j + 1)) (8 - (j + 1))).map Ist.row := by
  have hj : j < l.length := (List.getElem?_eq_some_iff.1 h).1
  have hl : (l.take j).length = j := by rw [List.length_take]; omega
  have hn : 8 - j = (8 - (j + 1)) + 1 := by omega
  unfold itemsOf
  rw [take_snoc h, hn, List.replicate_succ]
  simp only [List.map_append, List.map_cons, List.map_nil, List.append_assoc]
  rw [List.set_append_right _ _ (by rw [List.length_map, List.length_map, hl]; exact Nat.le_refl _), List.length_map, List.length_map, hl, Nat.sub_self]
  rfl
theorem itemsOf_len {l : List Est} (h : l.length ≤ 8) : (itemsOf l (8 - l.length)).length = 8 := by simp [itemsOf]; omega
theorem logM_row (who view : Int) (g : Nat) (a b : List Ist) (h : a.length = b.length) : (logM who view g a).row = (logM who view g b).row := by
  unfold Mst.row logM
  simp only [h]
theorem results_log {tmps : Array Value} {w : World} {g : Nat} {m : Mst} (hp : tmps[6]?.getD undef = .pointer (some ⟨g, 0, none⟩)) (hB : Blk w g m.row) :
    (results Tryd.f21 tmps).run Tryd.prog w = .ok (.agg m.row) w := by
  have hl := run_loadVar_mid (P := Tryd.prog) w g 0 45 m.row.toList _ hB.range Tryd.underlying45 rfl (by kernel_rfl)
  rw [show results Tryd.f21 tmps = (do return (← loadVar 45 (← asAddr (tmps[6]?.getD undef)))) from by simp [results], hp]
  simp [asAddr, hl]
structure LoI (w wr : World) (gm gi : Nat) (row : Array Value) (rows : List (Array Value)) : Prop where
  below : Below w.heap.size w wr
  res : Blk wr w.heap.size #[.int .i64 0, .int .i64 0, .int .i64 0, .int .i64 0, .int .i64 0, .int .i64 0, .int .i64 0, .int .i64 0, .int .i64 0, .int .i64 0, .int .i64 0, .int .i64 0, .int .i64 0, .int .i64 0, .int .u64 0, .int .u64 0, .int .u64 0, .int .u64 0, .int .u64 0, .int .u64 0, .int .u64 0, .int .i64 0, .int .i64 0, .int .i64 0, .int .u64 0, .int .i64 0, .int .i64 0, .int .i64 0, .int .i64 0, .string ⟨#[]⟩, .slice none 0 0, .slice none 0 0, .string ⟨#[]⟩]
  msg : Blk wr gm row
  its : RowB 15 wr gi rows
theorem LoI.later {w wr w' : World} {gm gi : Nat} {row : Array Value} {rows : List (Array Value)} (h : LoI w wr gm gi row rows) (hb : Below wr.heap.size wr w') : LoI w w' gm gi row rows :=
  ⟨h.below.trans (hb.mono h.below.size), h.res.later hb, h.msg.later hb, h.its.later hb⟩
set_option maxRecDepth 100000 in
set_option maxHeartbeats 20000000 in
theorem log_any (who view : Int) (ad : Option Addr) (cap : Nat) (l : List Est) (w : World) (hr : RowsAt 9 w ad (l.map Est.row)) (hc : l.length ≤ cap) (h8 : l.length ≤ 8) (hok : ∀ e ∈ l, e.Ok) :
    Calls Tryd.prog 21 #[.int .i64 who, .int .i64 view, .slice ad l.length cap] w fun e w' => (∃ g, e = .returned (.agg (logM who view g (itemsOf l (8 - l.length))).row) ∧ RowB 15 w' g ((itemsOf l (8 - l.length)).map Ist.row) ∧ w.heap.size ≤ g) ∧ Below w.heap.size w w' := by
  obtain ⟨WA, hWA⟩ : ∃ WA, WA = w.alloc (.cells #[.int .i64 0, .int .i64 0, .int .i64 0, .int .i64 0, .int .i64 0, .int .i64 0, .int .i64 0, .int .i64 0, .int .i64 0, .int .i64 0, .int .i64 0, .int .i64 0, .int .i64 0, .int .i64 0, .int .u64 0, .int .u64 0, .int .u64 0, .int .u64 0, .int .u64 0, .int .u64 0, .int .u64 0, .int .i64 0, .int .i64 0, .int .i64 0, .int .u64 0, .int .i64 0, .int .i64 0, .int .i64 0, .int .i64 0, .string ⟨#[]⟩, .slice none 0 0, .slice none 0 0, .string ⟨#[]⟩] 45) := ⟨_, rfl⟩
  have hA1 : Below w.heap.size w WA := by rw [hWA]; exact (Below.refl _ _).alloc (Nat.le_refl _) _
  have hA2 : Blk WA w.heap.size #[.int .i64 0, .int .i64 0, .int .i64 0, .int .i64 0, .int .i64 0, .int .i64 0, .int .i64 0, .int .i64 0, .int .i64 0, .int .i64 0, .int .i64 0, .int .i64 0, .int .i64 0, .int .i64 0, .int .u64 0, .int .u64 0, .int .u64 0, .int .u64 0, .int .u64 0, .int .u64 0, .int .u64 0, .int .i64 0, .int .i64 0, .int .i64 0, .int .u64 0, .int .i64 0, .int .i64 0, .int .i64 0, .int .i64 0, .string ⟨#[]⟩, .slice none 0 0, .slice none 0 0, .string ⟨#[]⟩] := by rw [hWA]; exact Blk.new _ _ _ _ rfl
  have HSA : Hid (WA.heap.size = w.heap.size + 1) := Lib.hid (by rw [hWA]; simp)
  obtain ⟨WB, mk, hRB, hbB⟩ := mk_items WA
  obtain ⟨W7, st7, hW7, hB7, hz7⟩ := fresh WB #[.int .i64 0, .int .i64 0, .int .i64 0, .int .i64 0, .int .i64 0, .int .i64 0, .int .i64 0, .int .i64 0, .int .i64 0, .int .i64 0, .int .i64 0, .int .i64 0, .int .i64 0, .int .i64 0, .int .u64 0, .int .u64 0, .int .u64 0, .int .u64 0, .int .u64 0, .int .u64 0, .int .u64 0, .int .i64 0, .int .i64 0, .int .i64 0, .int .u64 0, .int .i64 0, .int .i64 0, .int .i64 0, .int .i64 0, .string ⟨#[]⟩, .slice none 0 0, .slice none 0 0, .string ⟨#[]⟩] (logM who view WA.heap.size (List.replicate 8 Ist.zero)).row 45 rfl (by kernel_rfl) (Mst.row_one _)
  have HWA := Lib.hid hWA
  have HMKS := Lib.hid mk
  have ST7 := Lib.hid st7
  have hb7 : Below w.heap.size w W7 := (hA1.trans (hbB.mono hA1.size)).trans (hW7.mono (hA1.trans (hbB.mono hA1.size)).size)
  have HS : Hid (LoI w W7 WB.heap.size WA.heap.size (logM who view WA.heap.size (List.replicate 8 Ist.zero)).row ((itemsOf (l.take 0) 8).map Ist.row)) := Lib.hid ⟨hb7, (hA2.later hbB).later hW7, hB7, by simpa [itemsOf] using hRB.later hW7⟩
  have HSB : Hid (WA.heap.size < WB.heap.size) := Lib.hid hRB.1
  have HR := Lib.hid hr
  have HOK := Lib.hid hok
  obtain ⟨N, hN⟩ : ∃ N, N = l.length := ⟨_, rfl⟩
  have HN := Lib.hid hN
  rw [← hN] at hc h8 ⊢
  clear mk st7 hWA hA1 hA2 hRB hbB hW7 hB7 hz7 hb7 hr hok hN
  go_enter Tryd.func21, Tryd.ntmps21
  go_wp2_with (first | (guard_target =~ wpList _ _ _ (⟨_, Op.makeSlice _ _ _, _, _, _, _⟩ :: _) _ _; generalize hWX : w.alloc _ = WX; obtain rfl : WX = WA := (hWX.symm.trans HWA.out.symm); clear hWX; refine wpList_make_eq 43 _ _ rfl rfl HMKS.out ?_) | (guard_target =~ wpList _ _ _ (⟨_, Op.store _ (Operand.tmp 7) (Operand.tmp 12), _, _, _, _⟩ :: _) _ _; refine wpList_store_eq 45 (Operand.tmp 7) (Operand.tmp 12) rfl rfl ST7.out rfl rfl ?_))
  clear HMKS ST7 HWA
  have HGI : Hid (w.heap.size < WX.heap.size ∧ WX.heap.size < WB.heap.size) := Lib.hid ⟨by rw [HSA.out]; omega, HSB.out⟩
  clear HSA HSB
  generalize WX.heap.size = gi at *
  generalize WB.heap.size = gm at *
  have hrow31 : (logM who view gi (List.replicate 8 Ist.zero)).row[31]? = some (.slice (some ⟨gi, 0, none⟩) 8 8) := rfl
  have HR31 := Lib.hid hrow31
  have HROW : Hid ((logM who view gi (itemsOf l (8 - l.length))).row = (logM who view gi (List.replicate 8 Ist.zero)).row) := Lib.hid (logM_row _ _ _ _ _ (by rw [itemsOf_len (by rw [← HN.out]; exact h8)]; rfl))
  have HLM : Hid (∃ m : Mst, m.row = (logM who view gi (List.replicate 8 Ist.zero)).row) := Lib.hid ⟨_, rfl⟩
  have HCS : Hid (∀ W, Blk W gm (logM who view gi (List.replicate 8 Ist.zero)).row → W.cell? ⟨gm, 31, none⟩ = some (.slice (some ⟨gi, 0, none⟩) 8 8)) := Lib.hid (fun W hB => (hB.2 31 _ hrow31).1)
  clear hrow31
  try simp only [Act.put, List.setIfInBounds_toArray, List.set_cons_zero, List.set_cons_succ]
  go_loopw [8] (fun iv wr => ∃ j : Nat, j ≤ N ∧ iv = .int .i64 (j : Int) ∧ LoI w wr gm gi (logM who view gi (List.replicate 8 Ist.zero)).row ((itemsOf (l.take j) (8 - j)).map Ist.row)) (fun iv _ => N - (intOf iv).toNat)
  case atStart => exact ⟨0, by omega, rfl, HS.out⟩
  case round =>
    clear HS
    obtain ⟨j, hj, rfl, hS⟩ := hrel
    have HS := Lib.hid hS
    by_cases hlt : j < N
    · have hlti : (j : Int) < (N : Int) := by omega
      have hj8 : (j : Int) < 8 := by omega
      obtain ⟨e, he⟩ : ∃ e, l[j]? = some e := ⟨l[j]'(by rw [← HN.out]; exact hlt), List.getElem?_eq_getElem _⟩
      obtain ⟨b, off, rfl, hbl, hra⟩ := HR.out.range (i := j) (x := e.row) (by rw [List.getElem?_map, he]; rfl)
      have HE := Lib.hid he
      have HL : Hid (∀ W, Below w.heap.size w W → (Instr.loadAt 35 (.pointer (some ⟨b, off + j * 9, none⟩))).run Tryd.prog W = .ok (.agg e.row) W) := Lib.hid (fun W hW => load_at 35 _ (rangeAt.later hra hbl hW) Tryd.underlying35 rfl (by kernel_rfl))
      have HSB := Lib.hid (fun W => stubof_any e W (HOK.out e (List.mem_of_getElem? he)))
      have HSET := Lib.hid (items_set he (by omega))
      have HLEN : Hid (j < ((itemsOf (l.take j) (8 - j)).map Ist.row).length) := Lib.hid (by have := (List.getElem?_eq_some_iff.1 he).1; simp [itemsOf]; omega)
      generalize (itemsOf (l.take j) (8 - j)).map Ist.row = rows at *
      clear hra hbl he hS
      go_wp2_with fail
      refine wp_region_noPanic ?_
      refine wp_region_held_drew (S := fun W => ∃ rs, LoI w W gm gi (logM who view gi (List.replicate 8 Ist.zero)).row rs) (by kernel_rfl) (show ∃ rs, LoI w wr.drew gm gi (logM who view gi (List.replicate 8 Ist.zero)).row rs from ⟨_, HS.out.later ⟨rfl, rfl, rfl, Nat.le_refl _, fun _ _ => rfl⟩⟩) (fun hHeld => ?_)
      have hHeld : LoI w wr.drew gm gi (logM who view gi (List.replicate 8 Ist.zero)).row rows := HS.out.later ⟨rfl, rfl, rfl, Nat.le_refl _, fun _ _ => rfl⟩
      generalize wr.drew = w2 at *
      refine wpAnyH_take (i := 0) (oi := { dst := some 19, op := _, type := _, pos := _, after := _, guard := _ }) (v := ?_) rfl (by kernel_rfl) (by kernel_rfl) (by kernel_rfl) (fun _ _ _ h => h) (Or.inl ⟨by rfl, ?_⟩) ⟨_, hHeld⟩ ?_
      rotate_left
      · intro W hSw
        obtain ⟨rs, hSw⟩ := hSw
        have hS1 := hSw.below
        have c31 := HCS.out W hSw.msg
        clear hSw
        go_simp
        first | done | rfl
      try simp only [Act.put, List.setIfInBounds_toArray, List.set_cons_zero, List.set_cons_succ]
      refine wpAnyH_take (i := 2) (oi := { dst := some 21, op := _, type := _, pos := _, after := _, guard := _ }) (v := ?_) rfl (by kernel_rfl) (by kernel_rfl) (by kernel_rfl) (fun _ _ _ h => h) (Or.inl ⟨by rfl, ?_⟩) ⟨_, hHeld⟩ ?_
      rotate_left
      · intro W hSw
        obtain ⟨rs, hSw⟩ := hSw
        have hS1 := hSw.below
        have c31 := HCS.out W hSw.msg
        clear hSw
        go_simp
        first | done | rfl
      try simp only [Act.put, List.setIfInBounds_toArray, List.set_cons_zero, List.set_cons_succ]
      refine wpAnyH_take (i := 3) (oi := { dst := some 22, op := _, type := _, pos := _, after := _, guard := _ }) (v := ?_) rfl (by kernel_rfl) (by kernel_rfl) (by kernel_rfl) (fun _ _ _ h => h) (Or.inl ⟨by rfl, ?_⟩) ⟨_, hHeld⟩ ?_
      rotate_left
      · intro W hSw
        obtain ⟨rs, hSw⟩ := hSw
        have hS1 := hSw.below
        have c31 := HCS.out W hSw.msg
        clear hSw
        go_simp
        first | done | rfl
      try simp only [Act.put, List.setIfInBounds_toArray, List.set_cons_zero, List.set_cons_succ]
      refine wpAnyH_take (i := 4) (oi := { dst := some 23, op := _, type := _, pos := _, after := _, guard := _ }) (v := ?_) rfl (by kernel_rfl) (by kernel_rfl) (by kernel_rfl) (fun _ _ _ h => h) (Or.inl ⟨by rfl, ?_⟩) ⟨_, hHeld⟩ ?_
      rotate_left
      · intro W hSw
        obtain ⟨rs, hSw⟩ := hSw
        have hS1 := hSw.below
        have c31 := HCS.out W hSw.msg
        clear hSw
        go_simp
        first | done | rfl
      try simp only [Act.put, List.setIfInBounds_toArray, List.set_cons_zero, List.set_cons_succ]
      refine wpAnyH_take (i := 8) (oi := { dst := some 27, op := _, type := _, pos := _, after := _, guard := _ }) (v := ?_) rfl (by kernel_rfl) (by kernel_rfl) (by kernel_rfl) (fun _ _ _ h => h) (Or.inl ⟨by rfl, ?_⟩) ⟨_, hHeld⟩ ?_
      rotate_left
      · intro W hSw
        obtain ⟨rs, hSw⟩ := hSw
        have hS1 := hSw.below
        have c31 := HCS.out W hSw.msg
        clear hSw
        go_simp
        first | done | rfl
      try simp only [Act.put, List.setIfInBounds_toArray, List.set_cons_zero, List.set_cons_succ]
      refine wpAnyH_take (i := 9) (oi := { dst := some 28, op := _, type := _, pos := _, after := _, guard := _ }) (v := ?_) rfl (by kernel_rfl) (by kernel_rfl) (by kernel_rfl) (fun _ _ _ h => h) (Or.inl ⟨by rfl, ?_⟩) ⟨_, hHeld⟩ ?_
      rotate_left
      · intro W hSw
        obtain ⟨rs, hSw⟩ := hSw
        have hS1 := hSw.below
        have c31 := HCS.out W hSw.msg
        clear hSw
        go_simp
        first | done | rfl
      try simp only [Act.put, List.setIfInBounds_toArray, List.set_cons_zero, List.set_cons_succ]
      refine wpAnyH_take (i := 1) (oi := { dst := some 20, op := _, type := _, pos := _, after := _, guard := _ }) (v := ?_) rfl (by kernel_rfl) (by kernel_rfl) (by kernel_rfl) (fun _ _ _ h => h) (Or.inl ⟨by rfl, ?_⟩) ⟨_, hHeld⟩ ?_
      rotate_left
      · intro W hSw
        obtain ⟨rs, hSw⟩ := hSw
        have hS1 := hSw.below
        have c31 := HCS.out W hSw.msg
        clear hSw
        go_simp
        first | done | rfl
      try simp only [Act.put, List.setIfInBounds_toArray, List.set_cons_zero, List.set_cons_succ]
      refine wpAnyH_take (i := 5) (oi := { dst := some 24, op := _, type := _, pos := _, after := _, guard := _ }) (v := ?_) rfl (by kernel_rfl) (by kernel_rfl) (by kernel_rfl) (fun _ _ _ h => h) (Or.inl ⟨by rfl, ?_⟩) ⟨_, hHeld⟩ ?_
      rotate_left
      · intro W hSw
        obtain ⟨rs, hSw⟩ := hSw
        have hS1 := hSw.below
        have c31 := HCS.out W hSw.msg
        clear hSw
        go_simp
        first | done | rfl
      try simp only [Act.put, List.setIfInBounds_toArray, List.set_cons_zero, List.set_cons_succ]
      refine wpAnyH_take (i := 10) (oi := { dst := some 29, op := _, type := _, pos := _, after := _, guard := _ }) (v := ?_) rfl (by kernel_rfl) (by kernel_rfl) (by kernel_rfl) (fun _ _ _ h => h) (Or.inl ⟨by rfl, ?_⟩) ⟨_, hHeld⟩ ?_
      rotate_left
      · intro W hSw
        obtain ⟨rs, hSw⟩ := hSw
        have hS1 := hSw.below
        have c31 := HCS.out W hSw.msg
        clear hSw
        go_simp
        first | done | rfl
      try simp only [Act.put, List.setIfInBounds_toArray, List.set_cons_zero, List.set_cons_succ]
      refine wpAnyH_take (i := 6) (oi := { dst := some 25, op := _, type := _, pos := _, after := _, guard := _ }) (v := .agg e.row) rfl (by kernel_rfl) (by kernel_rfl) (by kernel_rfl) (fun _ _ _ h => h) (Or.inl ⟨by rfl, ?_⟩) ⟨_, hHeld⟩ ?_
      · intro W hSw
        obtain ⟨rs, hSw⟩ := hSw
        have hS1 := hSw.below
        have c31 := HCS.out W hSw.msg
        clear hSw
        exact exec_load 35 (Operand.tmp 24) rfl rfl (HL.out W hS1)
      try simp only [Act.put, List.setIfInBounds_toArray, List.set_cons_zero, List.set_cons_succ]
      refine wpAnyH_take (i := 11) (oi := { dst := some 30, op := _, type := _, pos := _, after := _, guard := _ }) (v := .agg e.row) rfl (by kernel_rfl) (by kernel_rfl) (by kernel_rfl) (fun _ _ _ h => h) (Or.inl ⟨by rfl, ?_⟩) ⟨_, hHeld⟩ ?_
      · intro W hSw
        obtain ⟨rs, hSw⟩ := hSw
        have hS1 := hSw.below
        have c31 := HCS.out W hSw.msg
        clear hSw
        exact exec_load 35 (Operand.tmp 29) rfl rfl (HL.out W hS1)
      try simp only [Act.put, List.setIfInBounds_toArray, List.set_cons_zero, List.set_cons_succ]
      refine wpAnyH_ready (rs := [7]) (by kernel_rfl) (by simp) ?_
      refine AllReadyH.cons (o := { dst := some 26, op := _, type := _, pos := _, after := _, guard := _ }) rfl (fun K hK => ?_) AllReadyH.nil
      go_simp
      refine (HSB.out _).mono ?_
      rintro ev wx ⟨rfl, hbx⟩
      have hS2 := hHeld.later hbx
      clear hbx
      refine hK.out _ _ ⟨_, hS2⟩ (fun _ => ?_)
      clear hK K
      try simp only [Act.put, List.setIfInBounds_toArray, List.set_cons_zero, List.set_cons_succ]
      refine wpAnyH_take (i := 12) (oi := { dst := some 31, op := _, type := _, pos := _, after := _, guard := _ }) (v := .agg (Ist.row ⟨1, stubV e, e⟩)) rfl (by kernel_rfl) (by kernel_rfl) (by kernel_rfl) (fun _ _ _ h => h) (Or.inl ⟨by rfl, ?_⟩) ⟨_, hS2⟩ ?_
      · intro W hSw
        obtain ⟨rs, hSw⟩ := hSw
        have hS1 := hSw.below
        have c31 := HCS.out W hSw.msg
        clear hSw
        exact exec_build3 (p := .int .i64 1) (q := .agg (stubV e).row) (r := .agg e.row) 40 0 1 2 _ (Operand.tmp 26) (Operand.tmp 30) rfl rfl rfl rfl (build_item (stubV e) e W)
      try simp only [Act.put, List.setIfInBounds_toArray, List.set_cons_zero, List.set_cons_succ]
      refine wpAnyH_take (i := 13) (oi := { dst := some 32, op := _, type := _, pos := _, after := _, guard := _ }) (v := ?_) rfl (by kernel_rfl) (by kernel_rfl) (by kernel_rfl) (fun _ _ _ h => h) (Or.inl ⟨by rfl, ?_⟩) ⟨_, hS2⟩ ?_
      rotate_left
      · intro W hSw
        obtain ⟨rs, hSw⟩ := hSw
        have hS1 := hSw.below
        have c31 := HCS.out W hSw.msg
        clear hSw
        go_simp
        first | done | rfl
      try simp only [Act.put, List.setIfInBounds_toArray, List.set_cons_zero, List.set_cons_succ]
      refine wpAnyH_ready (rs := [14]) (by kernel_rfl) (by simp) ?_
      refine AllReadyH.cons (o := { dst := none, op := _, type := _, pos := _, after := _, guard := _ }) rfl (fun K hK => ?_) AllReadyH.nil
      have hg := HGI.out
      have hst := run_storeAt_mid (P := Tryd.prog) wx gi (j * 15) 40 (Ist.row ⟨1, stubV e, e⟩) (fun r hr => by
          have hr' : r < (rows[j]'HLEN.out).size := by rw [hS2.its.2.1 _ (List.getElem_mem HLEN.out)]; exact hr
          have := hS2.its.2.2 j _ (List.getElem?_eq_getElem HLEN.out) r _ (Array.getElem?_eq_getElem hr')
          exact ⟨cell_isSome this.1, this.2⟩) (by kernel_rfl) (Ist.row_one _)
      have hR3 := hS2.its.stored HLEN.out (Ist.row ⟨1, stubV e, e⟩) rfl
      have hT3 : Turned (fun q => q = gi) wx (wx.setCells gi (j * 15) (Ist.row ⟨1, stubV e, e⟩).toList) := Turned.setCells (X := fun q => q = gi) gi rfl _ _ _
      generalize wx.setCells gi (j * 15) (Ist.row ⟨1, stubV e, e⟩).toList = W3 at *
      have hS3 : LoI w W3 gm gi (logM who view gi (List.replicate 8 Ist.zero)).row (rows.set j (Ist.row ⟨1, stubV e, e⟩)) := ⟨hS2.below.trans (hT3.below (fun q hq => by omega) hS2.below.size), hS2.res.turned hT3 (by omega), hS2.msg.turned hT3 (by omega), hR3⟩
      clear hR3 hT3
      refine wp_store_eq 40 (Operand.tmp 32) (Operand.tmp 31) rfl hst rfl rfl ?_
      refine hK.out _ _ ⟨_, hS3⟩ (fun _ => ?_)
      clear hK K
      try simp only [Act.put, List.setIfInBounds_toArray, List.set_cons_zero, List.set_cons_succ]
      refine wpAnyH_done (by kernel_rfl) ?_ _
      refine NoPanic.normal ?_
      go_wp2_with fail
      go_roundw
      case rel => exact ⟨j + 1, by omega, by go_num, by rw [← HSET.out]; exact hS3⟩
      case measure => simp [intOf]; omega

    · obtain rfl : N = j := by omega
      obtain ⟨W9, st9, hB9, hT9⟩ := refillT (cs := (logM who view gi (List.replicate 8 Ist.zero)).row) 45 hS.res rfl (by kernel_rfl) (Mst.row_one _)
      have l33 := Lib.hid (load_at 45 _ hS.msg.range Tryd.underlying45 rfl (by kernel_rfl))
      have HB9 := Lib.hid hB9
      have ST9 := Lib.hid st9
      have hg := HGI.out
      have HF : Hid (RowB 15 W9 gi ((itemsOf l (8 - l.length)).map Ist.row) ∧ Below w.heap.size w W9) := Lib.hid ⟨by have := hS.its.turned hT9 (by omega); rw [HN.out, List.take_length] at this; exact this, hS.below.trans (hT9.below (fun q hq => by omega) hS.below.size)⟩
      clear hS st9 hB9 hT9
      go_wp2_with (first | (guard_target =~ wpList _ _ _ (⟨_, Op.load _ (Operand.tmp 7), _, _, _, _⟩ :: _) _ _; refine wpList_load_eq 45 (Operand.tmp 7) rfl rfl l33.out rfl ?_) | (guard_target =~ wpList _ _ _ (⟨_, Op.store _ (Operand.tmp 6) (Operand.tmp 33), _, _, _, _⟩ :: _) _ _; refine wpList_store_eq 45 (Operand.tmp 6) (Operand.tmp 33) rfl rfl ST9.out rfl rfl ?_))
      exact bodyPost_ret (results_log rfl HB9.out) rfl ⟨⟨gi, by rw [HN.out, HROW.out], by rw [HN.out]; exact HF.out.1, by omega⟩, HF.out.2⟩
end Go.Proofs.YtpbjjmenkoigjaaDoor
end

section
namespace Go.Proofs.YtpbjjmenkoigjaaDoor
open Go.RowKit
set_option linter.unusedVariables false
def E1 : Est := ⟨1, 1, 0, 0, 7, 0, 0, 2, ⟨#[]⟩⟩
def E2 : Est := ⟨1, 2, 1, E1.sum, 7, 0, 0, 2, ⟨#[]⟩⟩
theorem E1B : E1.B = true := by decide
theorem E2B : E2.B = true := by show entB 1 2 1 7 0 0 2 ⟨#[]⟩ = true; decide
theorem E1mo : E1.mo = 1 := by show (if E1.B = true then (1 : Int) else 0) = 1; exact if_pos E1B
theorem E1mv : E1.mv = 1 := by show (if E1.B = true then (1 : Int) else 0) = 1; exact if_pos E1B
theorem E2mo : E2.mo = 2 := by show (if E2.B = true then (2 : Int) else 0) = 2; exact if_pos E2B
theorem E2mv : E2.mv = 1 := by show (if E2.B = true then (1 : Int) else 0) = 1; exact if_pos E2B
theorem chain2 : (chainT 2).1 = [E1, E2] := by
  have h1 : chainT 1 = ([E1], 1, 1, E1.sum) := by
    show chainStep ([], 0, 0, 0) = _
    unfold chainStep
    have : (⟨1, nextOp 0 0, 0, 0, 7, 0, 0, 2, ⟨#[]⟩⟩ : Est) = E1 := by unfold E1; rfl
    simp only [this, E1mo, E1mv]
    rfl
  show (chainStep (chainT 1)).1 = _
  rw [h1]
  rfl
theorem stub1 : stubV E1 = ⟨1, 1, 0, 0, E1.sum⟩ := if_pos E1B
theorem stub2 : stubV E2 = ⟨2, 1, 1, E1.sum, E2.sum⟩ := if_pos E2B
theorem E1ok : E1.Ok := by unfold Est.Ok E1; simp
theorem E2ok : E2.Ok := by
  have := sum_ok E1 (by unfold E1; simp)
  unfold Est.Ok E2
  simp only
  omega
theorem item_hold {e : Est} (h : e.B = true) : itemB (holdIt e) = true := by
  show (if (1 : Int) = 0 ∨ (1 : Int) = 3 then _ else if (1 : Int) = 1 then e.B && decide (stubV e = stubV e) else _) = true
  rw [if_neg (by decide), if_pos rfl, h]
  simp
theorem item_zero : itemB Ist.zero = true := by decide
def unsure : Ist := ⟨3, Sst.zero, Est.zero⟩
theorem item_unsure : itemB unsure = true := by decide
theorem rightB_log {who view : Int} {g : Nat} {is : List Ist} (hw : 0 ≤ who ∧ who ≤ 255) (hv : 0 ≤ view ∧ view ≤ 72057594037927935) (h8 : is.length = 8) (ha : is.all itemB = true) : rightB (logM who view g is) = true := by
  have he : emptyB ((logM who view g is).wiped 5) = true := decide_eq_true ⟨fun j hj => by
    match j, hj with
    | 0, _ => rfl
    | 1, _ => rfl
    | 2, _ => rfl
    | 3, _ => rfl
    | 4, _ => rfl
    | 5, _ => rfl
    | 6, _ => rfl
    | 7, _ => rfl
    | 8, _ => rfl
    | 9, _ => rfl, ⟨rfl, rfl, rfl⟩, ⟨rfl, rfl, rfl, rfl, rfl, rfl⟩, rfl, rfl, rfl, rfl⟩
  have hl : listsB (logM who view g is) = true := by
    show (([] : List Est).all Est.B && (is.all itemB && (decide ((0 : Nat) ≤ 8) && (decide ((7 : Int) ≠ 7) || decide (is.length = 8))))) = true
    rw [ha, h8]
    rfl
  show (decide (0 ≤ who) && (decide (who ≤ 255) && (decide ((0 : Int) ≤ 255) && (okN 0 && (okN 0 && (decide ((0 : Nat) ≤ 200) && (okN 9 && (okN view && (okN 0 && (emptyB ((logM who view g is).wiped 5) && listsB (logM who view g is))))))))))) = true
  rw [he, hl, (okN_iff view).2 hv, decide_eq_true hw.1, decide_eq_true hw.2]
  decide
theorem isLog_log {w2 who view : Int} {g : Nat} {is : List Ist} (hw : 0 ≤ who ∧ who ≤ 255) (hv : 0 ≤ view ∧ view ≤ 72057594037927935) (h8 : is.length = 8) (ha : is.all itemB = true) : isLog w2 (logM who view g is) = decide (who = w2) := by
  by_cases h : who = w2
  · rw [isLog_yes rfl h (rightB_log hw hv h8 ha), decide_eq_true h]
  · rw [isLog_no (fun q => h q.2.1), decide_eq_false h]
def isA : List Ist := [holdIt E1, holdIt E2, Ist.zero, Ist.zero, Ist.zero, Ist.zero, Ist.zero, Ist.zero]
def isB : List Ist := [holdIt E1, Ist.zero, Ist.zero, Ist.zero, Ist.zero, Ist.zero, Ist.zero, Ist.zero]
def isU : List Ist := [holdIt E1, unsure, Ist.zero, Ist.zero, Ist.zero, Ist.zero, Ist.zero, Ist.zero]
def isZ : List Ist := [Ist.zero, Ist.zero, Ist.zero, Ist.zero, Ist.zero, Ist.zero, Ist.zero, Ist.zero]
theorem isA_all : isA.all itemB = true := by simp [isA, item_hold E1B, item_hold E2B, item_zero]
theorem isB_all : isB.all itemB = true := by simp [isB, item_hold E1B, item_zero]
theorem isU_all : isU.all itemB = true := by simp [isU, item_hold E1B, item_zero, item_unsure]
theorem isZ_all : isZ.all itemB = true := by simp [isZ, item_zero]
section
variable (ga gb gc : Nat)
theorem logA (w2 : Int) : isLog w2 (logM 1 1 ga isA) = decide ((1 : Int) = w2) := isLog_log (by decide) (by decide) rfl isA_all
theorem logB (w2 : Int) : isLog w2 (logM 2 2 gb isB) = decide ((2 : Int) = w2) := isLog_log (by decide) (by decide) rfl isB_all
theorem logU (w2 : Int) : isLog w2 (logM 2 2 gb isU) = decide ((2 : Int) = w2) := isLog_log (by decide) (by decide) rfl isU_all
theorem logZ (w2 : Int) : isLog w2 (logM 3 0 gc isZ) = decide ((3 : Int) = w2) := isLog_log (by decide) (by decide) rfl isZ_all
theorem countsX : countsL 3 [logM 1 1 ga isA, logM 2 2 gb isB] = [logM 1 1 ga isA, logM 2 2 gb isB] := by
  simp [countsL, lastOf, List.find?, logA, logB]
theorem countsY : countsL 3 [logM 1 1 ga isA, logM 2 2 gb isU] = [logM 1 1 ga isA, logM 2 2 gb isU] := by
  simp [countsL, lastOf, List.find?, logA, logU]
theorem countsZ : countsL 3 [logM 1 1 ga isA, logM 2 2 gb isU, logM 3 0 gc isZ] = [logM 1 1 ga isA, logM 2 2 gb isU, logM 3 0 gc isZ] := by
  simp [countsL, lastOf, List.find?, logA, logU, logZ]
theorem chooseY : (chooseV 3 [logM 1 1 ga isA, logM 2 2 gb isU]).r = false := by
  have h : chooseV 3 [logM 1 1 ga isA, logM 2 2 gb isU] = chooseL 3 [logM 1 1 ga isA, logM 2 2 gb isU] := by
    unfold chooseV
    rw [if_pos (.inl rfl), show (3 : Int).toNat = 3 from rfl, countsY]
  have hs := chooseL_stop (C := 3) (l := [logM 1 1 ga isA, logM 2 2 gb isU]) ⟨decide_eq_false (show ¬ ((2 : Int) = 3) by decide), .inl (any_yes (j := 1) (x := logM 2 2 gb isU) rfl (any_yes (j := 1) (x := unsure) rfl (by decide)))⟩
  rw [h, hs]
  rfl
theorem saysA (n : Nat) (hn : 1 ≤ n) (who view : Int) (g : Nat) (is : List Ist) : (logM who view g is).says (n : Int) = (is[n - 1]?).getD Ist.zero := by
  show (if 0 ≤ (n : Int) - 1 - 0 then (is[((n : Int) - 1 - 0).toNat]?).getD Ist.zero else Ist.zero) = _
  rw [if_pos (by omega), show ((n : Int) - 1 - 0).toNat = n - 1 by omega]
theorem runC_stop {l : List Mst} {wh : Bool} {f : Nat} {o v s : Int} {E : List Est} (h : badStub (told l (o + 1)) o v s) : runC l wh (f + 1) o v s E = some E := if_pos h
theorem runC_go {l : List Mst} {wh : Bool} {f : Nat} {o v s : Int} {E : List Est} {t : Int} {st : Sst} {e : Est} (ht : told l (o + 1) = (t, st, true)) (h1 : st.o = o + 1) (h2 : st.u = v) (h3 : st.p = s) (hh : held l (o + 1) st = some e) :
    runC l wh (f + 1) o v s E = runC l wh f e.mo e.mv e.sum (E ++ [e]) := by
  rw [show runC l wh (f + 1) o v s E = (if badStub (told l (o + 1)) o v s then some E else match held l (o + 1) (told l (o + 1)).2.1 with
      | none => if wh = true then some E else none
      | some e => runC l wh f e.mo e.mv e.sum (E ++ [e])) from rfl, ht]
  rw [if_neg (by unfold badStub; simp [h1, h2, h3])]
  simp only [hh]
theorem toldX1 : told [logM 1 1 ga isA, logM 2 2 gb isB] (0 + 1) = (2, stubV E1, true) := by
  have a := saysA 1 (by decide) 1 1 ga isA
  have b := saysA 1 (by decide) 2 2 gb isB
  simp only [told, List.foldl, toldStep, show ((0 : Int) + 1) = ((1 : Nat) : Int) from rfl, a, b]
  simp [isA, isB, holdIt, logM]
theorem toldX2 : told [logM 1 1 ga isA, logM 2 2 gb isB] (1 + 1) = (2, stubV E2, false) := by
  have a := saysA 2 (by decide) 1 1 ga isA
  have b := saysA 2 (by decide) 2 2 gb isB
  simp only [told, List.foldl, toldStep, show ((1 : Int) + 1) = ((2 : Nat) : Int) from rfl, a, b]
  simp [isA, isB, holdIt, logM, Ist.zero]
theorem heldA1 (m : List Mst) : held (logM 1 1 ga isA :: m) (0 + 1) (stubV E1) = some E1 := by
  have a := saysA 1 (by decide) 1 1 ga isA
  have h : hasIt (0 + 1) (stubV E1) (logM 1 1 ga isA) = true := hasIt_yes (by rw [show ((0 : Int) + 1) = ((1 : Nat) : Int) from rfl, a]; rfl) (by rw [show ((0 : Int) + 1) = ((1 : Nat) : Int) from rfl, a]; rfl)
  unfold held
  rw [List.find?_cons, h]
  show some ((logM 1 1 ga isA).says (0 + 1)).e = _
  rw [show ((0 : Int) + 1) = ((1 : Nat) : Int) from rfl, a]
  rfl
theorem heldA2 (m : List Mst) : held (logM 1 1 ga isA :: m) (1 + 1) (stubV E2) = some E2 := by
  have a := saysA 2 (by decide) 1 1 ga isA
  have h : hasIt (1 + 1) (stubV E2) (logM 1 1 ga isA) = true := hasIt_yes (by rw [show ((1 : Int) + 1) = ((2 : Nat) : Int) from rfl, a]; rfl) (by rw [show ((1 : Int) + 1) = ((2 : Nat) : Int) from rfl, a]; rfl)
  unfold held
  rw [List.find?_cons, h]
  show some ((logM 1 1 ga isA).says (1 + 1)).e = _
  rw [show ((1 : Int) + 1) = ((2 : Nat) : Int) from rfl, a]
  rfl
theorem chooseX : (chooseV 3 [logM 1 1 ga isA, logM 2 2 gb isB]).r = true ∧ (chooseV 3 [logM 1 1 ga isA, logM 2 2 gb isB]).es.length = 1 := by
  have h : chooseV 3 [logM 1 1 ga isA, logM 2 2 gb isB] = chooseL 3 [logM 1 1 ga isA, logM 2 2 gb isB] := by
    unfold chooseV
    rw [if_pos (.inl rfl), show (3 : Int).toNat = 3 from rfl, countsX]
  have hd : [logM 1 1 ga isA, logM 2 2 gb isB].any dirtyB = false := by simp [dirtyB, logM, isA, isB, badB, holdIt, Ist.zero]
  rw [h, chooseL_go (m0 := logM 1 1 ga isA) rfl (fun q => by
    rcases q.2 with q | q
    · rw [hd] at q; cases q
    · exact absurd q (by show ¬ ((2 : Int) < Quo.enough 3); decide))]
  have ht : topCk [logM 1 1 ga isA, logM 2 2 gb isB] (logM 1 1 ga isA) = (0, 0, 0, 0) := rfl
  rw [ht]
  show (finish (0, 0, 0, 0) (runC _ _ 8 0 0 0 [])).r = true ∧ (finish (0, 0, 0, 0) (runC _ _ 8 0 0 0 [])).es.length = 1
  rw [runC_go (toldX1 ga gb) (by rw [stub1]; rfl) (by rw [stub1]) (by rw [stub1]) (heldA1 ga _), E1mo, E1mv, runC_stop (by rw [toldX2]; exact .inl rfl)]
  exact ⟨rfl, rfl⟩
theorem toldZ1 : told [logM 1 1 ga isA, logM 2 2 gb isU, logM 3 0 gc isZ] (0 + 1) = (2, stubV E1, true) := by
  have a := saysA 1 (by decide) 1 1 ga isA
  have b := saysA 1 (by decide) 2 2 gb isU
  have c := saysA 1 (by decide) 3 0 gc isZ
  simp only [told, List.foldl, toldStep, show ((0 : Int) + 1) = ((1 : Nat) : Int) from rfl, a, b, c]
  simp [isA, isU, isZ, holdIt, logM, Ist.zero]
theorem toldZ2 : told [logM 1 1 ga isA, logM 2 2 gb isU, logM 3 0 gc isZ] (1 + 1) = (1, stubV E2, true) := by
  have a := saysA 2 (by decide) 1 1 ga isA
  have b := saysA 2 (by decide) 2 2 gb isU
  have c := saysA 2 (by decide) 3 0 gc isZ
  simp only [told, List.foldl, toldStep, show ((1 : Int) + 1) = ((2 : Nat) : Int) from rfl, a, b, c]
  simp [isA, isU, isZ, holdIt, logM, Ist.zero, unsure]
theorem toldZ3 : (told [logM 1 1 ga isA, logM 2 2 gb isU, logM 3 0 gc isZ] (2 + 1)).2.2 = false := by
  have a := saysA 3 (by decide) 1 1 ga isA
  have b := saysA 3 (by decide) 2 2 gb isU
  have c := saysA 3 (by decide) 3 0 gc isZ
  simp only [told, List.foldl, toldStep, show ((2 : Int) + 1) = ((3 : Nat) : Int) from rfl, a, b, c]
  simp [isA, isU, isZ, holdIt, logM, Ist.zero, unsure]
theorem chooseZ : (chooseV 3 [logM 1 1 ga isA, logM 2 2 gb isU, logM 3 0 gc isZ]).r = true ∧ (chooseV 3 [logM 1 1 ga isA, logM 2 2 gb isU, logM 3 0 gc isZ]).es.length = 2 := by
  have h : chooseV 3 [logM 1 1 ga isA, logM 2 2 gb isU, logM 3 0 gc isZ] = chooseL 3 [logM 1 1 ga isA, logM 2 2 gb isU, logM 3 0 gc isZ] := by
    unfold chooseV
    rw [if_pos (.inl rfl), show (3 : Int).toNat = 3 from rfl, countsZ]
  rw [h, chooseL_go (m0 := logM 1 1 ga isA) rfl (fun q => by have q := of_decide_eq_false q.1; exact q rfl)]
  have ht : topCk [logM 1 1 ga isA, logM 2 2 gb isU, logM 3 0 gc isZ] (logM 1 1 ga isA) = (0, 0, 0, 0) := rfl
  rw [ht]
  show (finish (0, 0, 0, 0) (runC _ _ 8 0 0 0 [])).r = true ∧ (finish (0, 0, 0, 0) (runC _ _ 8 0 0 0 [])).es.length = 2
  rw [runC_go (toldZ1 ga gb gc) (by rw [stub1]; rfl) (by rw [stub1]) (by rw [stub1]) (heldA1 ga _), E1mo, E1mv,
    runC_go (toldZ2 ga gb gc) (by rw [stub2]; rfl) (by rw [stub2]) (by rw [stub2]) (heldA2 ga _), E2mo, E2mv, runC_stop (.inl (toldZ3 ga gb gc))]
  exact ⟨rfl, rfl⟩
end
end Go.Proofs.YtpbjjmenkoigjaaDoor
end

section
namespace Go.Proofs.YtpbjjmenkoigjaaDoor
open Go.RowKit
set_option linter.unusedVariables false
theorem bslice_two (a b : Mst) (w : World) : (Instr.buildSlice 22 2 #[(0, .agg a.row), (1, .agg b.row)]).run Tryd.prog w = .ok (.slice (some ⟨w.heap.size, 0, none⟩) 2 2) (w.alloc (.cells (rcells [a.row, b.row]).toArray 45)) := by kernel_rfl
theorem bslice_three (a b c : Mst) (w : World) : (Instr.buildSlice 22 3 #[(0, .agg a.row), (1, .agg b.row), (2, .agg c.row)]).run Tryd.prog w = .ok (.slice (some ⟨w.heap.size, 0, none⟩) 3 3) (w.alloc (.cells (rcells [a.row, b.row, c.row]).toArray 45)) := by kernel_rfl
theorem mk_two (a b : Mst) (w : World) : ∃ W, (Instr.buildSlice 22 2 #[(0, .agg a.row), (1, .agg b.row)]).run Tryd.prog w = .ok (.slice (some ⟨w.heap.size, 0, none⟩) 2 2) W ∧ RowB 33 W w.heap.size ([a, b].map Mst.row) ∧ Below w.heap.size w W :=
  ⟨_, bslice_two a b w, RowB.of_blk (fun x hx => by obtain ⟨y, _, rfl⟩ := List.mem_map.1 hx; rfl) (blk_of_alloc _ _ _), (Below.refl _ _).alloc (Nat.le_refl _) _⟩
theorem mk_three (a b c : Mst) (w : World) : ∃ W, (Instr.buildSlice 22 3 #[(0, .agg a.row), (1, .agg b.row), (2, .agg c.row)]).run Tryd.prog w = .ok (.slice (some ⟨w.heap.size, 0, none⟩) 3 3) W ∧ RowB 33 W w.heap.size ([a, b, c].map Mst.row) ∧ Below w.heap.size w W :=
  ⟨_, bslice_three a b c w, RowB.of_blk (fun x hx => by obtain ⟨y, _, rfl⟩ := List.mem_map.1 hx; rfl) (blk_of_alloc _ _ _), (Below.refl _ _).alloc (Nat.le_refl _) _⟩
theorem wpList_bs2_eq {P : Program} {ops : Array Oper} {rest : List Oper} {op : Oper} {a : Act} {w w' : World} {Q : Exit → Act → World → Prop} (TS : TypeId) (x y : Operand) (hgd : op.guard = none) (ho : op.op = .buildSlice TS 2 #[(0, x), (1, y)])
    {p q v : Value} (hx : a.eval x = p) (hy : a.eval y = q) (hl : (Instr.buildSlice TS 2 #[(0, p), (1, q)]).run P w = .ok v w')
    (h : wpList P ops Q rest (a.put op.dst v) w') : wpList P ops Q (op :: rest) a w :=
  wpList_plain hgd fun _ hK => by
    unfold Oper.wp execOp
    simp only [ho, List.map_toArray, List.map_cons, List.map_nil, hx, hy, Sem.run_bind, Sem.run_pure, Result.andThen_ok, hl]
    exact hK _ _ h
theorem wp_bs3_eq {P : Program} {op : Oper} {a : Act} {w w' : World} {K : Act → World → Prop} {Q : Exit → Act → World → Prop} (TS : TypeId) (x y z : Operand) (ho : op.op = .buildSlice TS 3 #[(0, x), (1, y), (2, z)])
    {p q r v : Value} (hx : a.eval x = p) (hy : a.eval y = q) (hz : a.eval z = r) (hl : (Instr.buildSlice TS 3 #[(0, p), (1, q), (2, r)]).run P w = .ok v w') (h : K (a.put op.dst v) w') : op.wp P a w K Q := by
  unfold Oper.wp execOp
  simp only [ho, List.map_toArray, List.map_cons, List.map_nil, hx, hy, hz, Sem.run_bind, Sem.run_pure, Result.andThen_ok, hl]
  exact h
theorem RowB.setCell {k : Nat} {w : World} {g : Nat} {rows : List (Array Value)} (h : RowB k w g rows) {j r0 : Nat} {x0 : Array Value} (hx0 : rows[j]? = some x0) (hr0 : r0 < x0.size) (v : Value) :
    RowB k (w.setCell ⟨g, j * k + r0, none⟩ v) g (rows.set j (x0.setIfInBounds r0 v)) := by
  obtain ⟨h1, h2, h3⟩ := h
  have hj : j < rows.length := (List.getElem?_eq_some_iff.1 hx0).1
  have hk0 : x0.size = k := h2 _ (List.mem_of_getElem? hx0)
  refine ⟨by simpa using h1, fun x hx => ?_, fun q x hx r u hu => ?_⟩
  · rcases List.mem_or_eq_of_mem_set hx with h | rfl
    · exact h2 x h
    · simpa using hk0
  · by_cases hq : q = j
    · subst hq
      rw [List.getElem?_set_self hj] at hx
      injection hx with hx
      subst hx
      by_cases hr : r = r0
      · subst hr
        rw [Array.getElem?_setIfInBounds_self_of_lt hr0] at hu
        injection hu with hu
        subst hu
        have := h3 q x0 hx0 r _ (Array.getElem?_eq_getElem hr0)
        exact ⟨World.cell?_setCell_same _ _ _ this.1, by rw [World.frozen?_setCell]; exact this.2⟩
      · rw [Array.getElem?_setIfInBounds_ne (fun e => hr e.symm)] at hu
        have := h3 q x0 hx0 r u hu
        refine ⟨?_, by rw [World.frozen?_setCell]; exact this.2⟩
        rw [World.cell?_setCell_other]
        exact this.1
        intro e
        injection e with _ e2
        omega
    · rw [List.getElem?_set_ne (Ne.symm hq)] at hx
      have hrk : r < k := by rw [← h2 x (List.mem_of_getElem? hx)]; exact (Array.getElem?_eq_some_iff.1 hu).1
      have := h3 q x hx r u hu
      refine ⟨?_, by rw [World.frozen?_setCell]; exact this.2⟩
      rw [World.cell?_setCell_other]
      exact this.1
      intro e
      injection e with _ e2
      rcases Nat.lt_or_gt_of_ne hq with h | h
      · have := Nat.mul_le_mul_right k (show q + 1 ≤ j from h)
        rw [Nat.add_mul, Nat.one_mul] at this
        omega
      · have := Nat.mul_le_mul_right k (show j + 1 ≤ q from h)
        rw [Nat.add_mul, Nat.one_mul] at this
        omega
theorem logM_in {w : World} {who view : Int} {g : Nat} {is : List Ist} (h : RowB 15 w g (is.map Ist.row)) (hl : is.length ≤ 8) (hok : ∀ x ∈ is, x.Ok) : (logM who view g is).In w :=
  ⟨RowsAt.nil _ _ _, h.rowsAt, Nat.le_refl _, hl, by show 0 ≤ 9223372036854775807; decide, by show is.length ≤ _; omega, fun e he => (by cases he), hok, by show (-9223372036854775808 : Int) ≤ 0 ∧ (0 : Int) ≤ 9223372036854775807; omega, Ist.zero_ok.2⟩
theorem hold_ok {e : Est} (h : e.Ok) (hb : e.B = true) : (holdIt e).Ok := by
  refine ⟨?_, h⟩
  show (stubV e).Ok
  have hs : stubV e = ⟨e.o, e.v, e.u, e.p, e.sum⟩ := if_pos hb
  rw [hs]
  exact ⟨h.1, h.2, sum_ok e h.2⟩
theorem isA_ok : ∀ x ∈ isA, x.Ok := by
  intro x hx
  simp only [isA, List.mem_cons, List.not_mem_nil, or_false] at hx
  rcases hx with rfl | rfl | rfl | rfl | rfl | rfl | rfl | rfl <;> first | exact Ist.zero_ok | exact hold_ok E1ok E1B | exact hold_ok E2ok E2B
theorem isB_ok : ∀ x ∈ isB, x.Ok := by
  intro x hx
  simp only [isB, List.mem_cons, List.not_mem_nil, or_false] at hx
  rcases hx with rfl | rfl | rfl | rfl | rfl | rfl | rfl | rfl <;> first | exact Ist.zero_ok | exact hold_ok E1ok E1B
theorem unsure_ok : unsure.Ok := by unfold Ist.Ok Sst.Ok Est.Ok unsure Sst.zero Est.zero; simp
theorem isU_ok : ∀ x ∈ isU, x.Ok := by
  intro x hx
  simp only [isU, List.mem_cons, List.not_mem_nil, or_false] at hx
  rcases hx with rfl | rfl | rfl | rfl | rfl | rfl | rfl | rfl <;> first | exact Ist.zero_ok | exact hold_ok E1ok E1B | exact unsure_ok
theorem isZ_ok : ∀ x ∈ isZ, x.Ok := by
  intro x hx
  simp only [isZ, List.mem_cons, List.not_mem_nil, or_false] at hx
  rcases hx with rfl | rfl | rfl | rfl | rfl | rfl | rfl | rfl <;> exact Ist.zero_ok
end Go.Proofs.YtpbjjmenkoigjaaDoor
end

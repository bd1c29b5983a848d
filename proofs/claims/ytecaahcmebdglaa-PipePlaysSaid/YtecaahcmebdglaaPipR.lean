/- The reference's pipe. -/
import Derived.Test.YtecaahcmebdglaaPipE
namespace Go.Proofs.Ytecaahcmebdglaa
open Go.RowKit
set_option linter.unusedVariables false
theorem info_pair : ∃ i, Try.prog.info? 75 = some i ∧ i.zero = some (.agg #[.int .i64 0, .int .i64 0]) ∧ i.size = 2 ∧ i.bytes = 16 := ⟨_, rfl, rfl, rfl, rfl⟩
def prs : List (Int × Int) → List Value
  | [] => []
  | p :: r => .int .i64 p.1 :: .int .i64 p.2 :: prs r
theorem prs_length : ∀ l, (prs l).length = l.length * 2
  | [] => rfl
  | p :: r => by simp [prs, prs_length r]; omega
theorem prs_append : ∀ l m, prs (l ++ m) = prs l ++ prs m
  | [], m => rfl
  | p :: r, m => by simp [prs, prs_append r m]
theorem prs_get : ∀ (l : List (Int × Int)) (i : Nat) (p : Int × Int), l[i]? = some p → (prs l)[i * 2]? = some (.int .i64 p.1) ∧ (prs l)[i * 2 + 1]? = some (.int .i64 p.2)
  | [], i, p, h => by simp at h
  | q :: r, 0, p, h => by simp at h; subst h; exact ⟨rfl, rfl⟩
  | q :: r, i + 1, p, h => by
    have := prs_get r i p (by simpa using h)
    rw [show (i + 1) * 2 = i * 2 + 2 by omega]
    exact this
/-- The reference's pipe at g. -/
def Rp (Z : Nat → Prop) (w : World) (g : Nat) (c who k h : Int) (row : List (Int × Int)) : Prop :=
  Z g ∧ ∃ v, Blk w g #[.int .i64 c, .int .i64 who, .int .i64 k, .int .i64 h, v] ∧ OwnC (fun q => Z q ∧ q ≠ g) w v row.length 2 (prs row)
theorem Rp.mono {Z Z' : Nat → Prop} {w : World} {g : Nat} {c who k h : Int} {l : List (Int × Int)} (hP : Rp Z w g c who k h l) (hZ : ∀ q, Z q → Z' q) : Rp Z' w g c who k h l := by
  obtain ⟨hg, v, hB, hO⟩ := hP
  exact ⟨hZ g hg, v, hB, hO.mono (fun q hq => ⟨hZ q hq.1, hq.2⟩)⟩
theorem Rp.later {Z : Nat → Prop} {w w' : World} {g : Nat} {c who k h : Int} {l : List (Int × Int)} (hP : Rp Z w g c who k h l) (hb : Below w.heap.size w w') : Rp Z w' g c who k h l := by
  obtain ⟨hg, v, hB, hO⟩ := hP
  exact ⟨hg, v, hB.later hb, hO.later hb⟩
theorem Rp.turned {Z X : Nat → Prop} {w w' : World} {g : Nat} {c who k h : Int} {l : List (Int × Int)} (hP : Rp Z w g c who k h l) (ht : Turned X w w') (hd : ∀ q, Z q → ¬ X q) : Rp Z w' g c who k h l := by
  obtain ⟨hg, v, hB, hO⟩ := hP
  exact ⟨hg, v, hB.turned ht (hd g hg), hO.turned ht (fun q hq => hd q hq.1)⟩
theorem Rp.grow {Z : Nat → Prop} {w w2 : World} {g : Nat} {c who k h : Int} {v v' : Value} {l' : List (Int × Int)} {n : Nat} {cs : List Value} (hZ : Z g) (hg : g < w.heap.size) (hB : Blk w2 g #[.int .i64 c, .int .i64 who, .int .i64 k, .int .i64 h, v])
    (hO : OwnC (fun q => (Z q ∧ q ≠ g) ∨ w.heap.size ≤ q) w2 v' n 2 cs) (hT : Turned Z w w2) (hn : n = l'.length) (hcs : cs = prs l') : Rp (fun q => Z q ∨ w.heap.size ≤ q) (w2.setCell ⟨g, 4, none⟩ v') g c who k h l' ∧ Turned Z w (w2.setCell ⟨g, 4, none⟩ v') := by
  subst hn hcs
  refine ⟨⟨.inl hZ, v', hB.set_ 4 v', (hO.set_other (fun h => ?_) 4 v').mono (fun q h => ?_)⟩, hT.trans (Turned.setCell (X := Z) ⟨g, 4, none⟩ v' hZ) (fun q h => .inl h)⟩
  · rcases h with h | h
    · exact h.2 rfl
    · omega
  · rcases h with h | h
    · exact ⟨.inl h.1, h.2⟩
    · exact ⟨.inr h, fun e => by omega⟩
/-- What the pipe's block holds, where its rows lie. -/
theorem Rp.parts {Z : Nat → Prop} {w : World} {g : Nat} {c who k h : Int} {l : List (Int × Int)} (hP : Rp Z w g c who k h l) : ∃ x cap, Blk w g #[.int .i64 c, .int .i64 who, .int .i64 k, .int .i64 h, .slice x l.length cap] ∧ OwnC (fun q => Z q ∧ q ≠ g) w (.slice x l.length cap) l.length 2 (prs l) := by
  obtain ⟨_, v, hB, hO⟩ := hP
  obtain ⟨x, cap, rfl⟩ := hO.shape
  exact ⟨x, cap, hB, hO⟩
theorem refhas_p {Z : Nat → Prop} {w : World} {g : Nat} {c who k h : Int} {row : List (Int × Int)} (hP : Rp Z w g c who k h row) (op j : Int) (hn : row.length ≤ 1000000) : Calls Try.prog 57 #[.pointer (some ⟨g, 0, none⟩), .int .i64 op, .int .i64 j] w fun e w' => e = .returned (.bool (Pip.hasR row op j)) ∧ w = w' := by
  obtain ⟨x, cap, hB, hO⟩ := hP.parts
  have r4 := (hB.2 4 _ rfl).1
  have HO := Lib.hid hO
  clear hB hP hO
  obtain ⟨n, hnn⟩ : ∃ n, n = row.length := ⟨_, rfl⟩
  have HN := Lib.hid hnn
  rw [← hnn] at r4 hn
  clear hnn
  go_enter Try.func57, Try.ntmps57
  go_wp2_with fail
  go_loopw [7] (fun iv wr => ∃ i : Nat, i ≤ n ∧ iv = .int .i64 i ∧ Pip.hasR (row.take i) op j = false ∧ wr = w) (fun iv _ => n - (intOf iv).toNat)
  case atStart => exact ⟨0, by omega, rfl, rfl, rfl⟩
  case round =>
    obtain ⟨i, hi, rfl, hf, rfl⟩ := hrel
    by_cases hlt : i < n
    · obtain ⟨p, hp⟩ : ∃ p, row[i]? = some p := ⟨row[i]'(by rw [← HN.out]; exact hlt), List.getElem?_eq_getElem _⟩
      have hg := prs_get row i p hp
      obtain ⟨p1, p2⟩ := p
      have HT : Hid (row.take (i + 1) = row.take i ++ [(p1, p2)]) := Lib.hid (by rw [List.take_add_one, hp]; rfl)
      have HF := Lib.hid hf
      have HP : Hid (row[i]? = some (p1, p2)) := Lib.hid hp
      obtain ⟨b, off, hx, hc1, hc2⟩ : ∃ b off, x = some ⟨b, off, none⟩ ∧ wr.cell? ⟨b, off + i * 2, none⟩ = some (.int .i64 p1) ∧ wr.cell? ⟨b, off + i * 2 + 1, none⟩ = some (.int .i64 p2) := by
        rcases HO.out.2 with ⟨hv, hn0⟩ | ⟨b, off, cap', hv, _, _, _, h3, _⟩
        · rw [← HN.out] at hn0; omega
        · injection hv with hv1 hv2 hv3
          exact ⟨b, off, hv1, h3 _ _ hg.1, by rw [Nat.add_assoc]; exact h3 _ _ hg.2⟩
      subst hx
      clear hp hg hf
      by_cases q1 : p1 = op
      · by_cases q2 : p2 = j
        · subst q1 q2
          have HR : Hid (true = Pip.hasR row p1 p2) := Lib.hid (by
            unfold Pip.hasR
            exact (List.any_eq_true.2 ⟨(p1, p2), List.mem_of_getElem? HP.out, by simp⟩).symm)
          go_wp2_with fail
          go_ret
          exact ⟨ret_bool HR.out, rfl⟩
        · subst q1
          have q2' : (p2 == j) = false := by simp [q2]
          have HR : Hid (Pip.hasR (row.take (i + 1)) p1 j = false) := Lib.hid (by rw [HT.out, Pip.hasR_append, HF.out]; simp [q2])
          clear q2
          go_wp2_with fail
          go_roundw
          case rel => exact ⟨i + 1, by omega, by go_num, HR.out, by trivial⟩
          case measure => simp [intOf]; omega
      · have q1' : (p1 == op) = false := by simp [q1]
        have HR : Hid (Pip.hasR (row.take (i + 1)) op j = false) := Lib.hid (by rw [HT.out, Pip.hasR_append, HF.out]; simp [q1])
        clear q1
        go_wp2_with fail
        go_roundw
        case rel => exact ⟨i + 1, by omega, by go_num, HR.out, by trivial⟩
        case measure => simp [intOf]; omega
    · obtain rfl : i = n := by omega
      have HR : Hid (false = Pip.hasR row op j) := Lib.hid (by rw [HN.out, List.take_length] at hf; exact hf.symm)
      clear hf
      go_wp2_with fail
      go_ret
      exact ⟨ret_bool HR.out, rfl⟩
theorem refmany_p {Z : Nat → Prop} {w : World} {g : Nat} {c who k h : Int} {row : List (Int × Int)} (hP : Rp Z w g c who k h row) (cN : Nat) (hc : c = (cN : Int)) (hc5 : cN ≤ 5) (op : Int) (hn : row.length ≤ 1000000) : Calls Try.prog 56 #[.pointer (some ⟨g, 0, none⟩), .int .i64 op] w fun e w' => e = .returned (.int .i64 ((Pip.manyR row op cN : Nat) : Int)) ∧ w = w' := by
  subst hc
  have HH : Hid (∀ j : Int, Calls Try.prog 57 #[.pointer (some ⟨g, 0, none⟩), .int .i64 op, .int .i64 j] w fun e w' => e = .returned (.bool (Pip.hasR row op j)) ∧ w = w') := Lib.hid (fun j => refhas_p hP op j hn)
  obtain ⟨x, cap, hB, hO⟩ := hP.parts
  have r0 := (hB.2 0 _ rfl).1
  clear hB hP hO
  go_enter Try.func56, Try.ntmps56
  go_wp2_with fail
  go_loopw [5, 6] (fun nv iv wr => ∃ j : Nat, j ≤ cN ∧ iv = .int .i64 ((j + 1 : Nat) : Int) ∧ nv = .int .i64 ((Pip.manyR row op j : Nat) : Int) ∧ wr = w) (fun _ iv _ => 6 - (intOf iv).toNat)
  case atStart => exact ⟨0, by omega, rfl, rfl, rfl⟩
  case round =>
    obtain ⟨j, hj, rfl, rfl, rfl⟩ := hrel
    have hml := Pip.manyR_le row op j
    obtain ⟨m, hm⟩ : ∃ m, m = Pip.manyR row op j := ⟨_, rfl⟩
    have HM := Lib.hid hm
    have HS : Hid (Pip.manyR row op (j + 1) = Pip.manyR row op j + (Pip.hasR row op ((j + 1 : Nat) : Int)).toNat) := Lib.hid rfl
    rw [← hm] at hml ⊢
    by_cases hlt : j < cN
    · have HJ := HH.out ((j + 1 : Nat) : Int)
      have hS := HS.out
      obtain ⟨J, hJ⟩ : ∃ J : Int, J = ((j + 1 : Nat) : Int) := ⟨_, rfl⟩
      have HJJ := Lib.hid hJ
      have hJ1 : 1 ≤ J ∧ J ≤ cN := by omega
      have hJ5 : J ≤ 5 := by omega
      rw [← hJ] at HJ hS ⊢
      cases hh : Pip.hasR row op J with
      | true =>
        rw [hh] at HJ hS
        have HS2 := Lib.hid hS
        have HJ2 := Lib.hid HJ
        clear hm hJ hh HJ hS HS HH
        go_wp2_with (go_at_call 57; refine (HJ2.out).mono ?_; rintro e w' ⟨rfl, rfl⟩)
        go_roundw
        case rel => exact ⟨j + 1, by omega, by rw [HJJ.out]; go_num, by rw [HS2.out, ← HM.out]; go_num, by trivial⟩
        case measure => simp [intOf]; omega
      | false =>
        rw [hh] at HJ hS
        have HS2 := Lib.hid hS
        have HJ2 := Lib.hid HJ
        clear hm hJ hh HJ hS HS HH
        go_wp2_with (go_at_call 57; refine (HJ2.out).mono ?_; rintro e w' ⟨rfl, rfl⟩)
        go_roundw
        case rel => exact ⟨j + 1, by omega, by rw [HJJ.out]; go_num, by rw [HS2.out, ← HM.out]; simp, by trivial⟩
        case measure => simp [intOf]; omega
    · obtain rfl : j = cN := by omega
      clear HH HS
      have HX := Lib.hid (show (m : Int) = ((Pip.manyR row op j : Nat) : Int) by rw [hm])
      clear hm HM
      go_wp2_with fail
      go_ret
      exact ⟨ret_int HX.out, rfl⟩
/-- The append of one pair, in a world where the rows are one's own. -/
theorem run_pair {Y : Nat → Prop} {w0 : World} {x : Option Addr} {n cap : Nat} {cs : List Value} (a b : Int) (hO : OwnC Y w0 (.slice x n cap) n 2 cs) (hn : n ≤ 1000000) :
    ∃ x' cap' w2, (Builtin.append_ #[56, 56] 56 #[.slice x n cap, .slice (some ⟨w0.heap.size, 0, none⟩) 1 1]).run Try.prog (w0.alloc (.cells #[.int .i64 a, .int .i64 b] 75)) = .ok (.slice x' (n + 1) cap') w2 ∧ OwnC (fun q => Y q ∨ w0.heap.size ≤ q) w2 (.slice x' (n + 1) cap') (n + 1) 2 (cs ++ [.int .i64 a, .int .i64 b]) ∧ Turned Y (w0.alloc (.cells #[.int .i64 a, .int .i64 b] 75)) w2 := by
  have hnews : ∀ (j : Nat) (u : Value), ([.int .i64 a, .int .i64 b] : List Value)[j]? = some u → (w0.alloc (.cells #[.int .i64 a, .int .i64 b] 75)).cell? ((⟨w0.heap.size, 0, none⟩ : Addr).add j) = some u := by
    intro j u hu
    match j with
    | 0 =>
      injection hu with hu
      subst hu
      exact (cell_of_row _ _ _ _ _ _ (heap_alloc_new w0 _)).trans rfl
    | 1 =>
      injection hu with hu
      subst hu
      exact (cell_of_row _ _ _ _ _ _ (heap_alloc_new w0 _)).trans rfl
    | j + 2 => exact absurd hu (by simp)
  obtain ⟨i0, hi0, hi1, hi2, hi3⟩ := info_pair
  obtain ⟨v', w2, hrun, hO2, hT2⟩ := run_app (P := Try.prog) 56 56 75 i0 (.agg #[.int .i64 0, .int .i64 0]) 16 Try.underlying56 hi0 hi1 hi2 hi3 rfl (by decide) (hO.later ((Below.refl _ _).alloc (Nat.le_refl _) (.cells #[.int .i64 a, .int .i64 b] 75))) ⟨w0.heap.size, 0, none⟩ 1 1 [.int .i64 a, .int .i64 b] rfl hnews (by simp [Value.oneCell']) (by rw [show maxLen = 9223372036854775807 from rfl]; omega) (by omega)
  obtain ⟨x', cap', rfl⟩ := hO2.shape
  exact ⟨x', cap', w2, hrun, hO2.mono (fun q h => h.imp id (fun h => by simp at h; omega)), hT2⟩
/-- 'append(l, pair)', l one's own, in a region that draws nothing. -/
theorem app_p {Y : Nat → Prop} {wr : World} {ops : Array Oper} {rest : List Oper} {o : Oper} {a : Act} {Q : Exit → Act → World → Prop} (hgd : o.guard = none) (s x : Operand)
    (ho : o.op = .call { callee := .builtin .append, args := #[s, x], argTypes := #[56, 56] }) (hty : o.type = 56) (x0 : Option Addr) (n cap : Nat) (cs : List Value) (hs : a.eval s = .slice x0 n cap) (hO : OwnC Y wr (.slice x0 n cap) n 2 cs)
    (b1 b2 : Int) (hx : a.eval x = .slice (some ⟨wr.heap.size, 0, none⟩) 1 1) (hn : n ≤ 1000000)
    (h : ∀ x' cap' w', OwnC (fun q => Y q ∨ wr.heap.size ≤ q) w' (.slice x' (n + 1) cap') (n + 1) 2 (cs ++ [.int .i64 b1, .int .i64 b2]) → Turned Y wr w' → wpList Try.prog ops Q rest (a.put o.dst (.slice x' (n + 1) cap')) w') : wpList Try.prog ops Q (o :: rest) a (wr.alloc (.cells #[.int .i64 b1, .int .i64 b2] 75)) := by
  obtain ⟨x', cap', w2, hrun, hO2, hT2⟩ := run_pair b1 b2 hO hn
  refine wpList_plain hgd fun K hK => ?_
  unfold Oper.wp
  simp only [execOp, ho, resolve, invoke, builtin, Sem.run_bind, Sem.run_pure, Result.andThen_ok, List.map_toArray, List.map_cons, List.map_nil, hs, hx, hty, hrun]
  exact hK _ _ (h x' cap' w2 hO2 ((Turned.alloc wr Y _).trans hT2 (fun q h => .inl h)))
def RS (g : Nat) (c who k h : Int) (W : World) : Prop := ∃ v, Blk W g #[.int .i64 c, .int .i64 who, .int .i64 k, .int .i64 h, v]
theorem RS.r {g : Nat} {c who k h : Int} {W : World} (hS : RS g c who k h W) : W.cell? ⟨g, 1, none⟩ = some (.int .i64 who) ∧ W.cell? ⟨g, 3, none⟩ = some (.int .i64 h) := by
  obtain ⟨v, hB⟩ := hS
  exact ⟨(hB.2 1 _ rfl).1, (hB.2 3 _ rfl).1⟩
theorem refadd_full {Z : Nat → Prop} {w : World} {g : Nat} {c who k h : Int} {row : List (Int × Int)} (hP : Rp Z w g c who k h row) (h0 : 0 ≤ k) (hk : k ≤ h) (hh : h ≤ 72057594037927935) (hf : h = 72057594037927935 ∨ 16 ≤ h - k) : Calls Try.prog 42 #[.pointer (some ⟨g, 0, none⟩)] w fun e w' => e = .returned (.tuple #[.int .i64 0, .int .i64 9]) ∧ ∃ m, w' = w.drewN m := by
  obtain ⟨x, cap, hB, hO⟩ := hP.parts
  have r2 := (hB.2 2 _ rfl).1
  have r3 := (hB.2 3 _ rfl).1
  clear hB hO hP
  by_cases q : 72057594037927935 ≤ h
  · clear hf
    go_enter Try.func42, Try.ntmps42
    go_wp2_with fail
    go_quiet (fail)
    go_wp2_with fail
    go_ret2
    exact ⟨rfl, _, rfl⟩
  · have q2 : 16 ≤ h - k := by omega
    have hw : IntKind.i64.wrap (h - k) = h - k := IntWalk.i64_in _ (by omega)
    clear hf
    go_enter Try.func42, Try.ntmps42
    go_wp2_with fail
    go_quiet (fail)
    go_wp2_with fail
    go_ret2
    exact ⟨rfl, _, rfl⟩
def RAddPost (Z : Nat → Prop) (w : World) (g : Nat) (c who k h : Int) (row : List (Int × Int)) (e : Ending) (w' : World) : Prop :=
  e = .returned (.tuple #[.int .i64 (h + 1), .int .i64 0]) ∧ Rp (fun q => Z q ∨ w.heap.size ≤ q) w' g c who k (h + 1) (row ++ [(h + 1, who)]) ∧ Turned Z w w'
set_option maxHeartbeats 4000000 in
theorem refadd_ok {Z : Nat → Prop} {w : World} {g : Nat} {c who k h : Int} {row : List (Int × Int)} (hP : Rp Z w g c who k h row) (h0 : 0 ≤ k) (hk : k ≤ h) (hh : h < 72057594037927935) (hf : h - k < 16) (hn : row.length ≤ 100000) : Calls Try.prog 42 #[.pointer (some ⟨g, 0, none⟩)] w (RAddPost Z w g c who k h row) := by
  have hZ := Lib.hid hP.1
  obtain ⟨x, cap, hB, hO⟩ := hP.parts
  obtain ⟨n, hnn⟩ : ∃ n, n = row.length := ⟨_, rfl⟩
  have HN := Lib.hid hnn
  rw [← hnn] at hB hO hn
  have r2 := (hB.2 2 _ rfl).1
  have r3 := (hB.2 3 _ rfl).1
  have f3 := (hB.2 3 _ rfl).2
  have HB := Lib.hid hB
  have HO := Lib.hid hO
  have q1 : ¬ 72057594037927935 ≤ h := by omega
  have q2 : ¬ 16 ≤ h - k := by omega
  have hw : IntKind.i64.wrap (h - k) = h - k := IntWalk.i64_in _ (by omega)
  have hw2 : IntKind.i64.wrap (h + 1) = h + 1 := IntWalk.i64_in _ (by omega)
  clear hB hO hP hnn hf hh
  go_enter Try.func42, Try.ntmps42
  go_wp2_with fail
  go_quiet (fail)
  go_wp2_with fail
  clear r2 r3 f3
  have HB0 : Blk ((w.drewN nq).setCell ⟨g, 3, none⟩ (.int .i64 (h + 1))).drew g #[.int .i64 c, .int .i64 who, .int .i64 k, .int .i64 (h + 1), .slice x n cap] := Blk.set_ (show Blk (w.drewN nq) g _ from HB.out) 3 (.int .i64 (h + 1))
  have HO0 : OwnC (fun q => Z q ∧ q ≠ g) ((w.drewN nq).setCell ⟨g, 3, none⟩ (.int .i64 (h + 1))).drew (.slice x n cap) n 2 (prs row) := (HO.out.later (w' := w.drewN nq) ⟨rfl, rfl, rfl, Nat.le_refl _, fun _ _ => rfl⟩).set_other (fun q => q.2 rfl) 3 _
  have HT0 : Turned Z w ((w.drewN nq).setCell ⟨g, 3, none⟩ (.int .i64 (h + 1))).drew := (Turned.trans (a := w) (b := w.drewN nq) ⟨rfl, rfl, rfl, Nat.le_refl _, fun _ _ _ => rfl⟩ (Turned.setCell (X := Z) ⟨g, 3, none⟩ (.int .i64 (h + 1)) hZ.out) (fun q h => .inl h)).drew
  have hgw := HB.out.1
  refine wp_region_noPanic ?_
  refine wp_region_held_drew (S := RS g c who k (h + 1)) (by kernel_rfl) (show RS g c who k (h + 1) _ from ⟨_, HB0⟩) (fun hHeld => ?_)
  generalize ((w.drewN nq).setCell ⟨g, 3, none⟩ (.int .i64 (h + 1))).drew = w0 at *
  clear HB HO
  obtain ⟨r4, f4⟩ := HB0.2 4 _ rfl
  have hB1 : Blk (w0.alloc (.cells #[.int .i64 (h + 1), .int .i64 who] 75)) g #[.int .i64 c, .int .i64 who, .int .i64 k, .int .i64 (h + 1), .slice x n cap] := HB0.alloc _
  obtain ⟨r4', f4'⟩ := hB1.2 4 _ rfl
  obtain ⟨x', cap', w2, hrun, hO2, hT2⟩ := run_pair (h + 1) who HO0 (by omega)
  have hB2 := hB1.turned hT2 (fun q => q.2 rfl)
  obtain ⟨r4'', f4''⟩ := hB2.2 4 _ rfl
  have hB3 := hB2.set_ 4 (.slice x' (n + 1) cap')
  obtain ⟨r5, f5⟩ := hB3.2 3 _ rfl
  have HFIN : Hid (RAddPost Z w g c who k h row (.returned (.tuple #[.int .i64 (h + 1), .int .i64 0])) (w2.setCell ⟨g, 4, none⟩ (.slice x' (n + 1) cap'))) := Lib.hid (by
    have hsz := HT0.size
    have hT3 : Turned Z w w2 := (HT0.trans (Turned.alloc w0 Z (.cells #[.int .i64 (h + 1), .int .i64 who] 75)) (fun q h => .inl h)).trans hT2 (fun q h => .inl h.1)
    have hP := Rp.grow (Z := Z) (w := w) (l' := row ++ [(h + 1, who)]) hZ.out hgw hB2 (hO2.mono (fun q h => h.imp id (fun h => by omega))) hT3 (by rw [List.length_append, HN.out]; rfl) (by rw [prs_append]; rfl)
    exact ⟨rfl, hP.1, hP.2⟩)
  clear HT0
  refine wpAnyH_take (i := 0) (oi := { dst := some 29, op := _, type := _, pos := _, after := _, guard := _ }) (v := ?_) rfl (by kernel_rfl) (by kernel_rfl) (by kernel_rfl) (fun _ _ _ h => h) (Or.inl ⟨by rfl, ?_⟩) hHeld ?_
  rotate_left
  · intro W hSw
    obtain ⟨hS1, hS3⟩ := RS.r hSw
    go_simp
    first | done | rfl
  try simp only [Act.put, List.setIfInBounds_toArray, List.set_cons_zero, List.set_cons_succ]
  refine wpAnyH_take (i := 1) (oi := { dst := some 30, op := _, type := _, pos := _, after := _, guard := _ }) (v := ?_) rfl (by kernel_rfl) (by kernel_rfl) (by kernel_rfl) (fun _ _ _ h => h) (Or.inl ⟨by rfl, ?_⟩) hHeld ?_
  rotate_left
  · intro W hSw
    obtain ⟨hS1, hS3⟩ := RS.r hSw
    go_simp
    first | done | rfl
  try simp only [Act.put, List.setIfInBounds_toArray, List.set_cons_zero, List.set_cons_succ]
  refine wpAnyH_take (i := 5) (oi := { dst := some 34, op := _, type := _, pos := _, after := _, guard := _ }) (v := ?_) rfl (by kernel_rfl) (by kernel_rfl) (by kernel_rfl) (fun _ _ _ h => h) (Or.inl ⟨by rfl, ?_⟩) hHeld ?_
  rotate_left
  · intro W hSw
    obtain ⟨hS1, hS3⟩ := RS.r hSw
    go_simp
    first | done | rfl
  try simp only [Act.put, List.setIfInBounds_toArray, List.set_cons_zero, List.set_cons_succ]
  refine wpAnyH_take (i := 9) (oi := { dst := some 38, op := _, type := _, pos := _, after := _, guard := _ }) (v := ?_) rfl (by kernel_rfl) (by kernel_rfl) (by kernel_rfl) (fun _ _ _ h => h) (Or.inl ⟨by rfl, ?_⟩) hHeld ?_
  rotate_left
  · intro W hSw
    obtain ⟨hS1, hS3⟩ := RS.r hSw
    go_simp
    first | done | rfl
  try simp only [Act.put, List.setIfInBounds_toArray, List.set_cons_zero, List.set_cons_succ]
  refine wpAnyH_take (i := 2) (oi := { dst := some 31, op := _, type := _, pos := _, after := _, guard := _ }) (v := ?_) rfl (by kernel_rfl) (by kernel_rfl) (by kernel_rfl) (fun _ _ _ h => h) (Or.inl ⟨by rfl, ?_⟩) hHeld ?_
  rotate_left
  · intro W hSw
    obtain ⟨hS1, hS3⟩ := RS.r hSw
    go_simp
    first | done | rfl
  try simp only [Act.put, List.setIfInBounds_toArray, List.set_cons_zero, List.set_cons_succ]
  refine wpAnyH_take (i := 6) (oi := { dst := some 35, op := _, type := _, pos := _, after := _, guard := _ }) (v := ?_) rfl (by kernel_rfl) (by kernel_rfl) (by kernel_rfl) (fun _ _ _ h => h) (Or.inl ⟨by rfl, ?_⟩) hHeld ?_
  rotate_left
  · intro W hSw
    obtain ⟨hS1, hS3⟩ := RS.r hSw
    go_simp
    first | done | rfl
  try simp only [Act.put, List.setIfInBounds_toArray, List.set_cons_zero, List.set_cons_succ]
  refine wpAnyH_take (i := 10) (oi := { dst := some 39, op := _, type := _, pos := _, after := _, guard := _ }) (v := ?_) rfl (by kernel_rfl) (by kernel_rfl) (by kernel_rfl) (fun _ _ _ h => h) (Or.inl ⟨by rfl, ?_⟩) hHeld ?_
  rotate_left
  · intro W hSw
    obtain ⟨hS1, hS3⟩ := RS.r hSw
    go_simp
    first | done | rfl
  try simp only [Act.put, List.setIfInBounds_toArray, List.set_cons_zero, List.set_cons_succ]
  refine wpAnyH_take (i := 3) (oi := { dst := some 32, op := _, type := _, pos := _, after := _, guard := _ }) (v := ?_) rfl (by kernel_rfl) (by kernel_rfl) (by kernel_rfl) (fun _ _ _ h => h) (Or.inl ⟨by rfl, ?_⟩) hHeld ?_
  rotate_left
  · intro W hSw
    obtain ⟨hS1, hS3⟩ := RS.r hSw
    go_simp
    first | done | rfl
  try simp only [Act.put, List.setIfInBounds_toArray, List.set_cons_zero, List.set_cons_succ]
  refine wpAnyH_take (i := 7) (oi := { dst := some 36, op := _, type := _, pos := _, after := _, guard := _ }) (v := ?_) rfl (by kernel_rfl) (by kernel_rfl) (by kernel_rfl) (fun _ _ _ h => h) (Or.inl ⟨by rfl, ?_⟩) hHeld ?_
  rotate_left
  · intro W hSw
    obtain ⟨hS1, hS3⟩ := RS.r hSw
    go_simp
    first | done | rfl
  try simp only [Act.put, List.setIfInBounds_toArray, List.set_cons_zero, List.set_cons_succ]
  refine wpAnyH_take (i := 11) (oi := { dst := some 40, op := _, type := _, pos := _, after := _, guard := _ }) (v := ?_) rfl (by kernel_rfl) (by kernel_rfl) (by kernel_rfl) (fun _ _ _ h => h) (Or.inl ⟨by rfl, ?_⟩) hHeld ?_
  rotate_left
  · intro W hSw
    obtain ⟨hS1, hS3⟩ := RS.r hSw
    go_simp
    first | done | rfl
  try simp only [Act.put, List.setIfInBounds_toArray, List.set_cons_zero, List.set_cons_succ]
  refine wpAnyH_take (i := 8) (oi := { dst := some 37, op := _, type := _, pos := _, after := _, guard := _ }) (v := ?_) rfl (by kernel_rfl) (by kernel_rfl) (by kernel_rfl) (fun _ _ _ h => h) (Or.inl ⟨by rfl, ?_⟩) hHeld ?_
  rotate_left
  · intro W hSw
    obtain ⟨hS1, hS3⟩ := RS.r hSw
    go_simp
    first | done | rfl
  try simp only [Act.put, List.setIfInBounds_toArray, List.set_cons_zero, List.set_cons_succ]
  refine wpAnyH_take (i := 12) (oi := { dst := some 41, op := _, type := _, pos := _, after := _, guard := _ }) (v := ?_) rfl (by kernel_rfl) (by kernel_rfl) (by kernel_rfl) (fun _ _ _ h => h) (Or.inl ⟨by rfl, ?_⟩) hHeld ?_
  rotate_left
  · intro W hSw
    obtain ⟨hS1, hS3⟩ := RS.r hSw
    go_simp
    first | done | rfl
  try simp only [Act.put, List.setIfInBounds_toArray, List.set_cons_zero, List.set_cons_succ]
  refine wpAnyH_take (i := 13) (oi := { dst := some 42, op := _, type := _, pos := _, after := _, guard := _ }) (v := ?_) rfl (by kernel_rfl) (by kernel_rfl) (by kernel_rfl) (fun _ _ _ h => h) (Or.inl ⟨by rfl, ?_⟩) hHeld ?_
  rotate_left
  · intro W hSw
    obtain ⟨hS1, hS3⟩ := RS.r hSw
    go_simp
    first | done | rfl
  try simp only [Act.put, List.setIfInBounds_toArray, List.set_cons_zero, List.set_cons_succ]
  refine wpAnyH_ready (rs := [4, 14]) (by kernel_rfl) (by simp) ?_
  refine AllReadyH.cons (o := { dst := some 33, op := _, type := _, pos := _, after := _, guard := _ }) rfl (fun K hK => ?_) ?_
  · go_simp
    refine hK.out _ _ hHeld (fun _ => ?_)
    clear hK K
    try simp only [Act.put, List.setIfInBounds_toArray, List.set_cons_zero, List.set_cons_succ]
    refine wpAnyH_ready (rs := [14]) (by kernel_rfl) (by simp) ?_
    refine AllReadyH.cons (o := { dst := some 43, op := _, type := _, pos := _, after := _, guard := _ }) rfl (fun K hK => ?_) AllReadyH.nil
    go_simp
    refine hK.out _ _ ⟨_, hB1⟩ (fun _ => ?_)
    clear hK K
    try simp only [Act.put, List.setIfInBounds_toArray, List.set_cons_zero, List.set_cons_succ]
    refine wpAnyH_ready (rs := [15]) (by kernel_rfl) (by simp) ?_
    refine AllReadyH.cons (o := { dst := some 44, op := _, type := _, pos := _, after := _, guard := _ }) rfl (fun K hK => ?_) AllReadyH.nil
    refine step_app rfl _ _ 56 rfl _ _ 1 1 rfl rfl hrun ?_
    refine hK.out _ _ ⟨_, hB2⟩ (fun _ => ?_)
    clear hK K
    try simp only [Act.put, List.setIfInBounds_toArray, List.set_cons_zero, List.set_cons_succ]
    refine wpAnyH_take (i := 16) (oi := { dst := some 45, op := _, type := _, pos := _, after := _, guard := _ }) (v := ?_) rfl (by kernel_rfl) (by kernel_rfl) (by kernel_rfl) (fun _ _ _ h => h) (Or.inl ⟨by rfl, ?_⟩) ⟨_, hB2⟩ ?_
    rotate_left
    · intro W hSw
      obtain ⟨hS1, hS3⟩ := RS.r hSw
      go_simp
      first | done | rfl
    try simp only [Act.put, List.setIfInBounds_toArray, List.set_cons_zero, List.set_cons_succ]
    refine wpAnyH_take (i := 17) (oi := { dst := some 46, op := _, type := _, pos := _, after := _, guard := _ }) (v := ?_) rfl (by kernel_rfl) (by kernel_rfl) (by kernel_rfl) (fun _ _ _ h => h) (Or.inl ⟨by rfl, ?_⟩) ⟨_, hB2⟩ ?_
    rotate_left
    · intro W hSw
      obtain ⟨hS1, hS3⟩ := RS.r hSw
      go_simp
      first | done | rfl
    try simp only [Act.put, List.setIfInBounds_toArray, List.set_cons_zero, List.set_cons_succ]
    refine wpAnyH_ready (rs := [18]) (by kernel_rfl) (by simp) ?_
    refine AllReadyH.cons (o := { dst := none, op := _, type := _, pos := _, after := _, guard := _ }) rfl (fun K hK => ?_) AllReadyH.nil
    go_simp
    refine hK.out _ _ ⟨_, hB3⟩ (fun _ => ?_)
    clear hK K
    try simp only [Act.put, List.setIfInBounds_toArray, List.set_cons_zero, List.set_cons_succ]
    refine wpAnyH_done (by kernel_rfl) ?_ _
    refine NoPanic.normal ?_
    go_wp2_with fail
    go_ret2
    exact HFIN.out
  refine AllReadyH.cons (o := { dst := some 43, op := _, type := _, pos := _, after := _, guard := _ }) rfl (fun K hK => ?_) ?_
  · go_simp
    refine hK.out _ _ ⟨_, hB1⟩ (fun _ => ?_)
    clear hK K
    try simp only [Act.put, List.setIfInBounds_toArray, List.set_cons_zero, List.set_cons_succ]
    refine wpAnyH_ready (rs := [4]) (by kernel_rfl) (by simp) ?_
    refine AllReadyH.cons (o := { dst := some 33, op := _, type := _, pos := _, after := _, guard := _ }) rfl (fun K hK => ?_) AllReadyH.nil
    go_simp
    refine hK.out _ _ ⟨_, hB1⟩ (fun _ => ?_)
    clear hK K
    try simp only [Act.put, List.setIfInBounds_toArray, List.set_cons_zero, List.set_cons_succ]
    refine wpAnyH_ready (rs := [15]) (by kernel_rfl) (by simp) ?_
    refine AllReadyH.cons (o := { dst := some 44, op := _, type := _, pos := _, after := _, guard := _ }) rfl (fun K hK => ?_) AllReadyH.nil
    refine step_app rfl _ _ 56 rfl _ _ 1 1 rfl rfl hrun ?_
    refine hK.out _ _ ⟨_, hB2⟩ (fun _ => ?_)
    clear hK K
    try simp only [Act.put, List.setIfInBounds_toArray, List.set_cons_zero, List.set_cons_succ]
    refine wpAnyH_take (i := 16) (oi := { dst := some 45, op := _, type := _, pos := _, after := _, guard := _ }) (v := ?_) rfl (by kernel_rfl) (by kernel_rfl) (by kernel_rfl) (fun _ _ _ h => h) (Or.inl ⟨by rfl, ?_⟩) ⟨_, hB2⟩ ?_
    rotate_left
    · intro W hSw
      obtain ⟨hS1, hS3⟩ := RS.r hSw
      go_simp
      first | done | rfl
    try simp only [Act.put, List.setIfInBounds_toArray, List.set_cons_zero, List.set_cons_succ]
    refine wpAnyH_take (i := 17) (oi := { dst := some 46, op := _, type := _, pos := _, after := _, guard := _ }) (v := ?_) rfl (by kernel_rfl) (by kernel_rfl) (by kernel_rfl) (fun _ _ _ h => h) (Or.inl ⟨by rfl, ?_⟩) ⟨_, hB2⟩ ?_
    rotate_left
    · intro W hSw
      obtain ⟨hS1, hS3⟩ := RS.r hSw
      go_simp
      first | done | rfl
    try simp only [Act.put, List.setIfInBounds_toArray, List.set_cons_zero, List.set_cons_succ]
    refine wpAnyH_ready (rs := [18]) (by kernel_rfl) (by simp) ?_
    refine AllReadyH.cons (o := { dst := none, op := _, type := _, pos := _, after := _, guard := _ }) rfl (fun K hK => ?_) AllReadyH.nil
    go_simp
    refine hK.out _ _ ⟨_, hB3⟩ (fun _ => ?_)
    clear hK K
    try simp only [Act.put, List.setIfInBounds_toArray, List.set_cons_zero, List.set_cons_succ]
    refine wpAnyH_done (by kernel_rfl) ?_ _
    refine NoPanic.normal ?_
    go_wp2_with fail
    go_ret2
    exact HFIN.out
  exact AllReadyH.nil
end Go.Proofs.Ytecaahcmebdglaa

/- pipe.Due. -/
import Derived.Test.YtecaahcmebdglaaPipD
namespace Go.Proofs.Ytecaahcmebdglaa
open Go.RowKit
set_option linter.unusedVariables false
/-- 'append(l, x)' of one number, l one's own, in a region that draws nothing. -/
theorem app_i {Y : Nat → Prop} {wr : World} {ops : Array Oper} {rest : List Oper} {o : Oper} {a : Act} {Q : Exit → Act → World → Prop} (hgd : o.guard = none) (s x : Operand)
    (ho : o.op = .call { callee := .builtin .append, args := #[s, x], argTypes := #[31, 31] }) (hty : o.type = 31) (x0 : Option Addr) (n cap : Nat) (cs : List Value) (hs : a.eval s = .slice x0 n cap) (hO : OwnC Y wr (.slice x0 n cap) n 1 cs)
    (b : Int) (hx : a.eval x = .slice (some ⟨wr.heap.size, 0, none⟩) 1 1) (hn : n ≤ 1000000)
    (h : ∀ x' cap' w', OwnC (fun q => Y q ∨ wr.heap.size ≤ q) w' (.slice x' (n + 1) cap') (n + 1) 1 (cs ++ [.int .i64 b]) → Turned Y wr w' → wpList Try.prog ops Q rest (a.put o.dst (.slice x' (n + 1) cap')) w') : wpList Try.prog ops Q (o :: rest) a (wr.alloc (.cells #[.int .i64 b] 3)) := by
  obtain ⟨x', cap', w2, hrun, hO2, hT2⟩ := run_one b hO hn
  refine wpList_plain hgd fun K hK => ?_
  unfold Oper.wp
  simp only [execOp, ho, resolve, invoke, builtin, Sem.run_bind, Sem.run_pure, Result.andThen_ok, List.map_toArray, List.map_cons, List.map_nil, hs, hx, hty, hrun]
  exact hK _ _ (h x' cap' w2 hO2 ((Turned.alloc wr Y _).trans hT2 (fun q h => .inl h)))
def ints (l : List Int) : List Value := l.map (.int .i64)
theorem due_none {w : World} {g : Nat} {c who k : Int} {x : Option Addr} {n cap : Nat} (h : PC w g c who k x n cap) (h0 : 0 ≤ k) (h1 : k + n ≤ 72057594037927935) (op : Int) (ho : ¬ (k < op ∧ op ≤ k + n)) : Calls Try.prog 40 #[.pointer (some ⟨g, 0, none⟩), .int .i64 op] w fun e w' => e = .returned (.slice none 0 0) ∧ ∃ m, w' = w.drewN m := by
  have HI := Lib.hid (in_pc h h0 (by omega) op)
  rw [show pin k n op = -1 from if_neg ho] at HI
  go_enter Try.func40, Try.ntmps40
  go_wp2_with (go_at_call 55; refine (HI.out).mono ?_; rintro e w' ⟨rfl, m, rfl⟩)
  go_ret
  exact ⟨rfl, _, rfl⟩
/-- A list of numbers of one's own, newer than a world. -/
def Own1 (w : World) (l : List Int) (e : Ending) (w' : World) : Prop := ∃ x cap, e = .returned (.slice x l.length cap) ∧ OwnC (fun q => w.heap.size ≤ q) w' (.slice x l.length cap) l.length 1 (ints l) ∧ Below w.heap.size w w'
set_option maxHeartbeats 2000000 in
theorem due_ok {Z : Nat → Prop} {w : World} {g : Nat} {c who k : Int} {l : List Nat} {cN : Nat} (h : Pp Z w g c who k l) (hcN : c = (cN : Int)) (hc5 : cN ≤ 5) (h0 : 0 ≤ k) (h1 : k + l.length ≤ 72057594037927935) (hs32 : ∀ s ∈ l, s < 32) (i s : Nat) (hi : l[i]? = some s) (op : Int) (hop : op = k + 1 + i) :
    Calls Try.prog 40 #[.pointer (some ⟨g, 0, none⟩), .int .i64 op] w (Own1 w (Pip.due (Quo.has s) cN)) := by
  subst hcN
  have hil := (List.getElem?_eq_some_iff.1 hi).1
  obtain ⟨x, cap, hB, hO⟩ := h.pc
  have HIN : Hid (Calls Try.prog 55 #[.pointer (some ⟨g, 0, none⟩), .int .i64 op] w fun e w' => e = .returned (.int .i64 (i : Int)) ∧ ∃ m, w' = w.drewN m) := Lib.hid (by
    have := in_pc hB h0 (by omega) op
    rwa [show pin k l.length op = (i : Int) from by unfold pin; rw [if_pos (by omega)]; omega] at this)
  obtain ⟨b, off, hx, hYb, hlt, hcap, hcells, -⟩ : ∃ b off, x = some ⟨b, off, none⟩ ∧ (Z b ∧ b ≠ g) ∧ b < w.heap.size ∧ l.length ≤ cap ∧ (∀ (j : Nat) (u : Value), (ivs l)[j]? = some u → w.cell? ⟨b, off + j, none⟩ = some u) ∧ ∀ j, j < cap * 1 → (w.cell? ⟨b, off + j, none⟩).isSome = true ∧ w.frozen? ⟨b, off + j, none⟩ = false := by
    rcases hO.2 with ⟨hv, hn⟩ | ⟨b, off, cap', hv, r⟩
    · omega
    · injection hv with hv1 hv2 hv3
      subst hv3
      exact ⟨b, off, hv1, r⟩
  subst hx
  have hs5 : s < 32 := hs32 s (List.mem_of_getElem? hi)
  have rs : w.cell? ⟨b, off + i, none⟩ = some (.int .i64 (s : Int)) := hcells i _ (by unfold ivs; rw [List.getElem?_map, hi]; rfl)
  have HHS : Hid (∀ (w : World) (j : Nat), j ≤ 5 → Calls Try.prog 22 #[.int .i64 (s : Int), .int .i64 (((j + 1 : Nat) : Int))] w fun e w' => e = .returned (.bool (Quo.has s ((j + 1 : Nat) : Int))) ∧ w = w') := Lib.hid (fun w j hj => by
    have := has_any s ((j + 1 : Nat) : Int) w (by omega) (by omega)
    rwa [show qs (s : Int) = s from by unfold qs; omega] at this)
  obtain ⟨n, hn⟩ : ∃ n, n = l.length := ⟨_, rfl⟩
  rw [← hn] at hil hB hcap h1
  have hgw := hB.1
  obtain ⟨r0, -, r2, r3⟩ := PK.r hB
  clear hn hB hO hcells hop hi hs32 h h0 h1
  go_enter Try.func40, Try.ntmps40
  go_wp2_with (go_at_call 55; refine (HIN.out).mono ?_; rintro e w' ⟨rfl, m, rfl⟩)
  go_loopw [6, 7] (fun v iv wr => ∃ j : Nat, j ≤ cN ∧ iv = .int .i64 ((j + 1 : Nat) : Int) ∧ (∃ x cap, v = .slice x (Pip.due (Quo.has s) j).length cap ∧ OwnC (fun q => w.heap.size ≤ q) wr (.slice x (Pip.due (Quo.has s) j).length cap) (Pip.due (Quo.has s) j).length 1 (ints (Pip.due (Quo.has s) j))) ∧ Below w.heap.size w wr) (fun _ iv _ => 6 - (intOf iv).toNat)
  case atStart => exact ⟨0, by omega, rfl, ⟨none, 0, rfl, OwnC.nil _ _ _⟩, rfl, rfl, rfl, Nat.le_refl _, fun _ _ => rfl⟩
  case round =>
    obtain ⟨j, hj, rfl, ⟨x, cap3, rfl, hO⟩, hb1⟩ := hrel
    have r0' : wr.cell? ⟨g, 0, none⟩ = some (.int .i64 (cN : Int)) := (hb1.cell (p := ⟨g, 0, none⟩) hgw).trans r0
    have r3' : wr.cell? ⟨g, 3, none⟩ = some (.slice (some ⟨b, off, none⟩) n cap) := (hb1.cell (p := ⟨g, 3, none⟩) hgw).trans r3
    have rs' : wr.cell? ⟨b, off + i, none⟩ = some (.int .i64 (s : Int)) := (hb1.cell (p := ⟨b, off + i, none⟩) hlt).trans rs
    clear r0 r2 r3 rs
    by_cases hlt2 : j < cN
    · have HL := Lib.hid (Pip.due_len (Quo.has s) j)
      have HD : Hid (Pip.due (Quo.has s) (j + 1) = Pip.due (Quo.has s) j ++ (if Quo.has s ((j + 1 : Nat) : Int) = true then [] else [((j + 1 : Nat) : Int)])) := Lib.hid rfl
      have HH : Hid (∀ w, Calls Try.prog 22 #[.int .i64 (s : Int), .int .i64 (((j + 1 : Nat) : Int))] w fun e w' => e = .returned (.bool (Quo.has s ((j + 1 : Nat) : Int))) ∧ w = w') := Lib.hid (fun w => HHS.out w j (by omega))
      clear HHS
      obtain ⟨n3, hn3⟩ : ∃ n3, n3 = (Pip.due (Quo.has s) j).length := ⟨_, rfl⟩
      obtain ⟨L3, hL3⟩ : ∃ L3, L3 = ints (Pip.due (Quo.has s) j) := ⟨_, rfl⟩
      rw [← hn3, ← hL3] at hO
      have HN3 := Lib.hid hn3
      have HL3 := Lib.hid hL3
      have hn35 : n3 ≤ 5 := by have := HL.out; omega
      obtain ⟨J, hJ⟩ : ∃ J : Int, J = ((j + 1 : Nat) : Int) := ⟨_, rfl⟩
      have HJ := Lib.hid hJ
      have hJ1 : 1 ≤ J ∧ J ≤ 5 := by omega
      have hJc : J ≤ cN := by omega
      rw [← hJ] at HH HD ⊢
      have hD := HD.out
      rw [← hn3]
      cases hh : Quo.has s J with
      | true =>
        rw [hh] at HH hD
        rw [if_pos rfl, List.append_nil] at hD
        have HE := Lib.hid hD
        clear hn3 hL3 hJ hh HL hD HD
        go_wp2_with (go_at_call 22; refine (HH.out _).mono ?_; rintro e w' ⟨rfl, rfl⟩)
        go_roundw
        case rel => exact ⟨j + 1, by omega, by rw [HJ.out]; go_num, ⟨x, cap3, by rw [HE.out, ← HN3.out], by rw [HE.out, ← HN3.out, ← HL3.out]; exact hO⟩, hb1⟩
        case measure => simp [intOf]; omega
      | false =>
        rw [hh] at HH hD
        rw [if_neg (by decide)] at hD
        have HE := Lib.hid hD
        clear hn3 hL3 hJ hh HL hD HD
        go_wp2_with (first | (go_at_call 22; refine (HH.out _).mono ?_; rintro e w' ⟨rfl, rfl⟩) | (with_reducible refine app_i rfl _ _ rfl rfl _ _ _ _ rfl hO _ rfl ?hc ?_))
        case hc => omega
        intro x' cap' w' hO' hT'
        have hb2 : Below w.heap.size w w' := hb1.trans (hT'.below (fun q h => h) hb1.size)
        have hO2 := hO'.mono (Y' := fun q => w.heap.size ≤ q) (fun q h => by have := hb1.size; omega)
        clear hO' hT'
        go_wp2_with fail
        go_roundw
        case rel => exact ⟨j + 1, by omega, by rw [HJ.out]; go_num, ⟨x', cap', by rw [HE.out, HN3.out, List.length_append]; rfl, by rw [HE.out, List.length_append, ← HN3.out, show ints (Pip.due (Quo.has s) j ++ [J]) = L3 ++ [.int .i64 J] by rw [HL3.out]; simp [ints]]; exact hO2⟩, hb2⟩
        case measure => simp [intOf]; omega
    · obtain rfl : j = cN := by omega
      go_wp2_with fail
      go_ret
      exact ⟨x, cap3, rfl, hO, hb1⟩
end Go.Proofs.Ytecaahcmebdglaa

/- More than is gone through? Same of the references, at equal choices. The order in which logs come counts for nothing: in plain Lean. -/
import Derived.Test.YtpbjjmenkoigjaaDoorMgLawChooseTurnsAF
import Derived.Test.YtpbjjmenkoigjaaDoorMgLawChooseTurnsAL
import Derived.Test.YtpbjjmenkoigjaaDoorMgLawChooseTurnsAI
section
namespace Go.Proofs.YtpbjjmenkoigjaaDoor
open Go.RowKit
set_option linter.unusedVariables false
def Greats (L : List Mst) (w : World) (e : Ending) (w' : World) : Prop := (∃ v, e = .returned (.bool v) ∧ (v = false → L.length ≤ 12)) ∧ w = w'
set_option maxRecDepth 100000 in
set_option maxHeartbeats 20000000 in
theorem great_any (ad : Option Addr) (cap : Nat) (L : List Mst) (w : World) (hr : RowsAt 33 w ad (L.map Mst.row)) (hin : ∀ m ∈ L, m.In w) :
    Calls Tryd.prog 9 #[.slice ad L.length cap] w fun e w' => Greats L w e w' := by
  have HG : Hid (∀ v : Bool, ∀ W, w = W → (v = false → L.length ≤ 12) → Greats L w (.returned (.bool v)) W) := Lib.hid (fun v W h1 h => ⟨⟨v, rfl, h⟩, h1⟩)
  have HR := Lib.hid hr
  have HIN := Lib.hid hin
  obtain ⟨N, hN⟩ : ∃ N, N = L.length := ⟨_, rfl⟩
  have HN := Lib.hid hN
  rw [← hN] at HG ⊢
  clear hr hin hN
  go_enter Tryd.func9, Tryd.ntmps9
  by_cases h12 : (12 : Int) < N
  · go_wp2_with fail
    go_ret
    exact HG.out true _ rfl (fun h => by cases h)
  · have hN12 : N ≤ 12 := by omega
    go_wp2_with fail
    go_loopw [3] (fun iv wr => w = wr ∧ ∃ j : Nat, j ≤ N ∧ iv = .int .i64 (j : Int)) (fun iv _ => N - (intOf iv).toNat)
    case atStart => exact ⟨rfl, 0, by omega, rfl⟩
    case round =>
      obtain ⟨rfl, j, hj, rfl⟩ := hrel
      by_cases hlt : j < N
      · have hlti : (j : Int) < (N : Int) := by omega
        obtain ⟨x, hx⟩ : ∃ x, L[j]? = some x := ⟨L[j]'(by rw [← HN.out]; exact hlt), List.getElem?_eq_getElem _⟩
        obtain ⟨b, off, rfl, hbl, hra⟩ := HR.out.range (i := j) (x := x.row) (by rw [List.getElem?_map, hx]; rfl)
        have hi := HIN.out x (List.mem_of_getElem? hx)
        have c31 : w.cell? ⟨b, off + j * 33 + 31, none⟩ = some (.slice x.ia x.is.length x.ic) := hra 31 _ rfl
        have c30 : w.cell? ⟨b, off + j * 33 + 30, none⟩ = some (.slice x.ea x.es.length x.ec) := hra 30 _ rfl
        have HI := Lib.hid hi
        have hil := hi.il
        have hel := hi.el
        have hic := hi.ic
        have hec := hi.ec
        generalize hA : x.ea = ae at *
        generalize hB : x.ia = ai at *
        generalize x.ec = ec at *
        generalize x.ic = ic at *
        obtain ⟨NI, hNI⟩ : ∃ n, n = x.is.length := ⟨_, rfl⟩
        obtain ⟨NE, hNE⟩ : ∃ n, n = x.es.length := ⟨_, rfl⟩
        rw [← hNI] at c31 hil hic
        rw [← hNE] at c30 hel hec
        have HA := Lib.hid (And.intro hA (And.intro hB (And.intro hNI hNE)))
        clear hra hi hx hA hB hNI hNE
        by_cases i20 : (20 : Int) < NI
        · go_wp2_with fail
          go_ret
          exact HG.out true _ rfl (fun h => by cases h)
        · by_cases e20 : (20 : Int) < NE
          · go_wp2_with fail
            go_ret
            exact HG.out true _ rfl (fun h => by cases h)
          · go_wp2_with fail
            go_loopw [4] (fun iv wr' => w = wr' ∧ ∃ k : Nat, k ≤ NI ∧ iv = .int .i64 (k : Int)) (fun iv _ => NI - (intOf iv).toNat)
            case atStart => exact ⟨rfl, 0, by omega, rfl⟩
            case round =>
              obtain ⟨rfl, k, hk, rfl⟩ := hrel
              by_cases hkl : k < NI
              · have hkli : (k : Int) < (NI : Int) := by omega
                obtain ⟨y, hy⟩ : ∃ y, x.is[k]? = some y := ⟨x.is[k]'(by rw [← HA.out.2.2.1]; exact hkl), List.getElem?_eq_getElem _⟩
                obtain ⟨b2, off2, hd, hbl2, hra2⟩ := HI.out.is.range (i := k) (x := y.row) (by rw [List.getElem?_map, hy]; rfl)
                rw [HA.out.2.1] at hd
                subst hd
                have cb : w.cell? ⟨b2, off2 + k * 15 + 6 + 8, none⟩ = some (.string y.e.b) := hra2 14 _ rfl
                have cb' : w.cell? ⟨b2, off2 + k * 15 + 14, none⟩ = some (.string y.e.b) := hra2 14 _ rfl
                generalize y.e.b = bb at *
                clear hra2 hy
                by_cases hb : (1000 : Int) < bb.size
                · go_wp2_with fail
                  go_ret
                  exact HG.out true _ rfl (fun h => by cases h)
                · go_wp2_with fail
                  go_roundw
                  case rel => exact ⟨trivial, k + 1, by omega, by go_num⟩
                  case measure => simp [intOf]; omega
              · obtain rfl : NI = k := by omega
                go_wp2_with fail
                go_loopw [5] (fun iv wr2 => w = wr2 ∧ ∃ k : Nat, k ≤ NE ∧ iv = .int .i64 (k : Int)) (fun iv _ => NE - (intOf iv).toNat)
                case atStart => exact ⟨rfl, 0, by omega, rfl⟩
                case round =>
                  obtain ⟨rfl, k, hk, rfl⟩ := hrel
                  by_cases hkl : k < NE
                  · have hkli : (k : Int) < (NE : Int) := by omega
                    obtain ⟨y, hy⟩ : ∃ y, x.es[k]? = some y := ⟨x.es[k]'(by rw [← HA.out.2.2.2]; exact hkl), List.getElem?_eq_getElem _⟩
                    obtain ⟨b2, off2, hd, hbl2, hra2⟩ := HI.out.es.range (i := k) (x := y.row) (by rw [List.getElem?_map, hy]; rfl)
                    rw [HA.out.1] at hd
                    subst hd
                    have cb : w.cell? ⟨b2, off2 + k * 9 + 8, none⟩ = some (.string y.b) := hra2 8 _ rfl
                    generalize y.b = bb at *
                    clear hra2 hy
                    by_cases hb : (1000 : Int) < bb.size
                    · go_wp2_with fail
                      go_ret
                      exact HG.out true _ rfl (fun h => by cases h)
                    · go_wp2_with fail
                      go_roundw
                      case rel => exact ⟨trivial, k + 1, by omega, by go_num⟩
                      case measure => simp [intOf]; omega
                  · obtain rfl : NE = k := by omega
                    go_wp2_with fail
                    go_roundw
                    case rel => exact ⟨trivial, j + 1, by omega, by go_num⟩
                    case measure => simp [intOf]; omega
      · obtain rfl : N = j := by omega
        go_wp2_with fail
        go_ret
        exact HG.out false _ rfl (fun _ => hN12)
end Go.Proofs.YtpbjjmenkoigjaaDoor
end

section
namespace Go.Proofs.YtpbjjmenkoigjaaDoor
open Go.RowKit
set_option linter.unusedVariables false
def NeFact (T : TypeId) (xs ys : Array Value) (v : Bool) : Prop := ∀ (xo yo : Operand) (W : World), (do eqGuard .neq T xo yo (.agg xs) (.agg ys); binOp .neq T (.agg xs) (.agg ys)).run Tryd.prog W = .ok (.bool v) W
theorem exec_neq {op : Oper} {a : Act} {w : World} (T T2 : TypeId) (x y : Operand) (ho : op.op = .binOp .neq T x y T2)
    {xs ys : Array Value} {v : Bool} (hx : a.eval x = .agg xs) (hy : a.eval y = .agg ys) (hl : NeFact T xs ys v) :
    (execOp a.eval op).run Tryd.prog w = .ok (.value (.bool v)) w := by
  unfold execOp
  have := hl x y w
  simp only [Sem.run_bind] at this
  simp only [ho, hx, hy, Sem.run_bind, Sem.run_pure, this, Result.andThen_ok]
theorem ne_est (x : Est) : NeFact 35 x.row x.row false := by
  intro xo yo W
  obtain ⟨a1, a2, a3, a4, a5, a6, a7, a8, a9⟩ := x
  unfold Est.row
  simp [go_sem]
set_option maxRecDepth 100000 in
set_option maxHeartbeats 20000000 in
theorem same09_eq (ad ad2 : Option Addr) (cap cap2 : Nat) (E : List Est) (w : World) (h1 : RowsAt 9 w ad (E.map Est.row)) (h2 : RowsAt 9 w ad2 (E.map Est.row)) (hc : E.length ≤ cap) (hc2 : E.length ≤ cap2) (hs : E.length ≤ 1000) :
    Calls Tryd.prog 35 #[.slice ad E.length cap, .slice ad2 E.length cap2] w fun e w' => e = .returned (.bool true) ∧ Below w.heap.size w w' := by
  have H1 := Lib.hid h1
  have H2 := Lib.hid h2
  obtain ⟨N, hN⟩ : ∃ N, N = E.length := ⟨_, rfl⟩
  have HN := Lib.hid hN
  rw [← hN] at hc hc2 hs ⊢
  clear h1 h2 hN
  go_enter Tryd.func35, Tryd.ntmps35
  go_wp2_with fail
  go_loopw [5] (fun iv wr => ∃ j : Nat, j ≤ N ∧ iv = .int .i64 (j : Int) ∧ Below w.heap.size w wr) (fun iv _ => N - (intOf iv).toNat)
  case atStart => exact ⟨0, by omega, rfl, Below.refl _ _⟩
  case round =>
    obtain ⟨j, hj, rfl, hbw⟩ := hrel
    by_cases hlt : j < N
    · have hlti : (j : Int) < (N : Int) := by omega
      obtain ⟨x, hx⟩ : ∃ x, E[j]? = some x := ⟨E[j]'(by rw [← HN.out]; exact hlt), List.getElem?_eq_getElem _⟩
      obtain ⟨b, off, rfl, hbl, hra⟩ := H1.out.range (i := j) (x := x.row) (by rw [List.getElem?_map, hx]; rfl)
      obtain ⟨b2, off2, rfl, hbl2, hra2⟩ := H2.out.range (i := j) (x := x.row) (by rw [List.getElem?_map, hx]; rfl)
      have HL1 : Hid (∀ W, Below w.heap.size w W → (Instr.loadAt 35 (.pointer (some ⟨b, off + j * 9, none⟩))).run Tryd.prog W = .ok (.agg x.row) W) := Lib.hid (fun W hW => load_at 35 _ (rangeAt.later hra hbl hW) Tryd.underlying35 rfl (by kernel_rfl))
      have HL2 : Hid (∀ W, Below w.heap.size w W → (Instr.loadAt 35 (.pointer (some ⟨b2, off2 + j * 9, none⟩))).run Tryd.prog W = .ok (.agg x.row) W) := Lib.hid (fun W hW => load_at 35 _ (rangeAt.later hra2 hbl2 hW) Tryd.underlying35 rfl (by kernel_rfl))
      have HB := Lib.hid hbw
      clear hra hra2 hx hbl hbl2 hbw
      go_wp2_with fail
      refine wp_region_noPanic ?_
      refine wp_region_held_drew (S := fun W => Below w.heap.size w W) (by kernel_rfl) (show Below w.heap.size w wr.drew from HB.out.trans ⟨rfl, rfl, rfl, Nat.le_refl _, fun _ _ => rfl⟩) (fun hHeld => ?_)
      generalize wr.drew = w2 at *
      refine wpAnyH_take (i := 0) (oi := { dst := some 17, op := _, type := _, pos := _, after := _, guard := _ }) (v := ?_) rfl (by kernel_rfl) (by kernel_rfl) (by kernel_rfl) (fun _ _ _ h => h) (Or.inl ⟨by rfl, ?_⟩) hHeld ?_
      rotate_left
      · intro W hSw
        skip
        go_simp
        first | done | rfl
      try simp only [Act.put, List.setIfInBounds_toArray, List.set_cons_zero, List.set_cons_succ]
      refine wpAnyH_take (i := 1) (oi := { dst := some 18, op := _, type := _, pos := _, after := _, guard := _ }) (v := ?_) rfl (by kernel_rfl) (by kernel_rfl) (by kernel_rfl) (fun _ _ _ h => h) (Or.inl ⟨by rfl, ?_⟩) hHeld ?_
      rotate_left
      · intro W hSw
        skip
        go_simp
        first | done | rfl
      try simp only [Act.put, List.setIfInBounds_toArray, List.set_cons_zero, List.set_cons_succ]
      refine wpAnyH_take (i := 4) (oi := { dst := some 21, op := _, type := _, pos := _, after := _, guard := _ }) (v := ?_) rfl (by kernel_rfl) (by kernel_rfl) (by kernel_rfl) (fun _ _ _ h => h) (Or.inl ⟨by rfl, ?_⟩) hHeld ?_
      rotate_left
      · intro W hSw
        skip
        go_simp
        first | done | rfl
      try simp only [Act.put, List.setIfInBounds_toArray, List.set_cons_zero, List.set_cons_succ]
      refine wpAnyH_take (i := 5) (oi := { dst := some 22, op := _, type := _, pos := _, after := _, guard := _ }) (v := ?_) rfl (by kernel_rfl) (by kernel_rfl) (by kernel_rfl) (fun _ _ _ h => h) (Or.inl ⟨by rfl, ?_⟩) hHeld ?_
      rotate_left
      · intro W hSw
        skip
        go_simp
        first | done | rfl
      try simp only [Act.put, List.setIfInBounds_toArray, List.set_cons_zero, List.set_cons_succ]
      refine wpAnyH_take (i := 2) (oi := { dst := some 19, op := _, type := _, pos := _, after := _, guard := _ }) (v := ?_) rfl (by kernel_rfl) (by kernel_rfl) (by kernel_rfl) (fun _ _ _ h => h) (Or.inl ⟨by rfl, ?_⟩) hHeld ?_
      rotate_left
      · intro W hSw
        skip
        go_simp
        first | done | rfl
      try simp only [Act.put, List.setIfInBounds_toArray, List.set_cons_zero, List.set_cons_succ]
      refine wpAnyH_take (i := 6) (oi := { dst := some 23, op := _, type := _, pos := _, after := _, guard := _ }) (v := ?_) rfl (by kernel_rfl) (by kernel_rfl) (by kernel_rfl) (fun _ _ _ h => h) (Or.inl ⟨by rfl, ?_⟩) hHeld ?_
      rotate_left
      · intro W hSw
        skip
        go_simp
        first | done | rfl
      try simp only [Act.put, List.setIfInBounds_toArray, List.set_cons_zero, List.set_cons_succ]
      refine wpAnyH_take (i := 3) (oi := { dst := some 20, op := _, type := _, pos := _, after := _, guard := _ }) (v := .agg x.row) rfl (by kernel_rfl) (by kernel_rfl) (by kernel_rfl) (fun _ _ _ h => h) (Or.inl ⟨by rfl, ?_⟩) hHeld ?_
      · intro W hSw
        skip
        exact exec_load 35 (Operand.tmp 19) rfl rfl (HL1.out W hSw)
      try simp only [Act.put, List.setIfInBounds_toArray, List.set_cons_zero, List.set_cons_succ]
      refine wpAnyH_take (i := 7) (oi := { dst := some 24, op := _, type := _, pos := _, after := _, guard := _ }) (v := .agg x.row) rfl (by kernel_rfl) (by kernel_rfl) (by kernel_rfl) (fun _ _ _ h => h) (Or.inl ⟨by rfl, ?_⟩) hHeld ?_
      · intro W hSw
        skip
        exact exec_load 35 (Operand.tmp 23) rfl rfl (HL2.out W hSw)
      try simp only [Act.put, List.setIfInBounds_toArray, List.set_cons_zero, List.set_cons_succ]
      refine wpAnyH_take (i := 8) (oi := { dst := some 25, op := _, type := _, pos := _, after := _, guard := _ }) (v := .bool false) rfl (by kernel_rfl) (by kernel_rfl) (by kernel_rfl) (fun _ _ _ h => h) (Or.inl ⟨by rfl, ?_⟩) hHeld ?_
      · intro W hSw
        skip
        exact exec_neq 35 _ (Operand.tmp 20) (Operand.tmp 24) rfl rfl rfl (ne_est x)
      try simp only [Act.put, List.setIfInBounds_toArray, List.set_cons_zero, List.set_cons_succ]
      refine wpAnyH_done (by kernel_rfl) ?_ _
      refine NoPanic.normal ?_
      go_wp2_with fail
      go_roundw
      case rel => exact ⟨j + 1, by omega, by go_num, hHeld⟩
      case measure => simp [intOf]; omega

    · obtain rfl : N = j := by omega
      have HB := Lib.hid hbw
      clear hbw
      go_wp2_with fail
      go_ret
      exact ⟨rfl, HB.out⟩
set_option maxRecDepth 100000 in
set_option maxHeartbeats 20000000 in
theorem same18_eq (r : Bool) (a b c d : Int) (ea ea2 : Option Addr) (cap cap2 n : Nat) (E : List Est) (w : World) (hn : n = E.length) (h1 : RowsAt 9 w ea (E.map Est.row)) (h2 : RowsAt 9 w ea2 (E.map Est.row)) (hc : E.length ≤ cap) (hc2 : E.length ≤ cap2) (hs : E.length ≤ 1000) :
    Calls Tryd.prog 17 #[.agg (crow r a b c d ea n cap), .agg (crow r a b c d ea2 n cap2)] w fun e w' => e = .returned (.bool true) ∧ Below w.heap.size w w' := by
  have hbw : Below w.heap.size w ((w.alloc (.cells (crow r a b c d ea n cap) 30)).alloc (.cells (crow r a b c d ea2 n cap2) 30)) := ((Below.refl _ _).alloc (Nat.le_refl _) _).alloc (by simp) _
  have hA : Blk ((w.alloc (.cells (crow r a b c d ea n cap) 30)).alloc (.cells (crow r a b c d ea2 n cap2) 30)) w.heap.size (crow r a b c d ea n cap) := Blk.alloc (Blk.new _ _ _ _ rfl) _
  have hB : Blk ((w.alloc (.cells (crow r a b c d ea n cap) 30)).alloc (.cells (crow r a b c d ea2 n cap2) 30)) (w.heap.size + 1) (crow r a b c d ea2 n cap2) := Blk.new _ _ _ _ (by simp)
  have HS := Lib.hid (same09_eq ea ea2 cap cap2 E ((w.alloc (.cells (crow r a b c d ea n cap) 30)).alloc (.cells (crow r a b c d ea2 n cap2) 30)) (h1.later hbw) (h2.later hbw) hc hc2 hs)
  rw [← hn] at HS
  have HBW := Lib.hid hbw
  go_enter Tryd.func17, Tryd.ntmps17
  have l1 := Lib.hid (ck_load hA)
  have l2 := Lib.hid (ck_load hB)
  have a0 : ((w.alloc (.cells (crow r a b c d ea n cap) 30)).alloc (.cells (crow r a b c d ea2 n cap2) 30)).cell? ⟨w.heap.size, 0, none⟩ = some (.bool r) := (hA.2 0 _ rfl).1
  have b0 : ((w.alloc (.cells (crow r a b c d ea n cap) 30)).alloc (.cells (crow r a b c d ea2 n cap2) 30)).cell? ⟨w.heap.size + 1, 0, none⟩ = some (.bool r) := (hB.2 0 _ rfl).1
  have a4 : ((w.alloc (.cells (crow r a b c d ea n cap) 30)).alloc (.cells (crow r a b c d ea2 n cap2) 30)).cell? ⟨w.heap.size, 4, none⟩ = some (.int .i64 d) := (hA.2 4 _ rfl).1
  have b4 : ((w.alloc (.cells (crow r a b c d ea n cap) 30)).alloc (.cells (crow r a b c d ea2 n cap2) 30)).cell? ⟨w.heap.size + 1, 4, none⟩ = some (.int .i64 d) := (hB.2 4 _ rfl).1
  have a5 : ((w.alloc (.cells (crow r a b c d ea n cap) 30)).alloc (.cells (crow r a b c d ea2 n cap2) 30)).cell? ⟨w.heap.size, 5, none⟩ = some (.slice ea n cap) := (hA.2 5 _ rfl).1
  have b5 : ((w.alloc (.cells (crow r a b c d ea n cap) 30)).alloc (.cells (crow r a b c d ea2 n cap2) 30)).cell? ⟨w.heap.size + 1, 5, none⟩ = some (.slice ea2 n cap2) := (hB.2 5 _ rfl).1
  have eM : EqFact 27 (mrow a b c) (mrow a b c) true := by have := eq_mark a b c a b c; rw [decide_eq_true ⟨rfl, rfl, rfl⟩] at this; exact this
  have eM := Lib.hid eM
  clear h1 h2 hbw hA hB hn hc hc2 hs
  go_wp2_with (first | (guard_target =~ wpList _ _ _ (⟨_, Op.load _ (Operand.tmp 11), _, _, _, _⟩ :: _) _ _; refine wpList_load_w 27 (Operand.tmp 11) (by kernel_rfl) rfl l1.out rfl ?_) | (guard_target =~ wpList _ _ _ (⟨_, Op.load _ (Operand.tmp 13), _, _, _, _⟩ :: _) _ _; refine wpList_load_w 27 (Operand.tmp 13) (by kernel_rfl) rfl l2.out rfl ?_) | (guard_target =~ wpList _ _ _ (⟨_, Op.binOp _ _ (Operand.tmp 12) (Operand.tmp 14) _, _, _, _, _⟩ :: _) _ _; refine wpList_eql 27 _ (Operand.tmp 12) (Operand.tmp 14) (by kernel_rfl) rfl eM.out rfl rfl ?_))
  generalize ((w.alloc (.cells (crow r a b c d ea n cap) 30)).alloc (.cells (crow r a b c d ea2 n cap2) 30)) = w1 at *
  refine HS.out.mono ?_
  rintro e w2 ⟨rfl, hb2⟩
  have HB2 := Lib.hid (HBW.out.trans (hb2.mono HBW.out.size))
  clear hb2
  go_wp2_with fail
  go_ret
  exact ⟨rfl, HB2.out⟩
end Go.Proofs.YtpbjjmenkoigjaaDoor
end

section
namespace Go.Proofs.YtpbjjmenkoigjaaDoor
open Go.RowKit
set_option linter.unusedVariables false
/-- No two of the first n are from the same. -/
def Dist (L : List Mst) (n : Nat) : Prop := ∀ (a b : Nat) (x y : Mst), b < a → a < n → L[a]? = some x → L[b]? = some y → x.f ≠ y.f
def rot (L : List Mst) (t : Nat) : Nat → List Mst
  | 0 => []
  | i + 1 => rot L t i ++ (L[(i + t) % L.length]?).toList
theorem rot_len {L : List Mst} (t : Nat) (hN : 0 < L.length) : ∀ i, (rot L t i).length = i
  | 0 => rfl
  | i + 1 => by
    have : (i + t) % L.length < L.length := Nat.mod_lt _ hN
    rw [rot, List.length_append, rot_len t hN i, List.getElem?_eq_getElem this]
    rfl
theorem rot_mem {L : List Mst} {t : Nat} {x : Mst} : ∀ {i : Nat}, x ∈ rot L t i ↔ ∃ j, j < i ∧ L[(j + t) % L.length]? = some x
  | 0 => by simp [rot]
  | i + 1 => by
    rw [rot, List.mem_append, rot_mem]
    constructor
    · rintro (⟨j, h1, h2⟩ | h)
      · exact ⟨j, by omega, h2⟩
      · exact ⟨i, by omega, by simpa using h⟩
    · rintro ⟨j, h1, h2⟩
      by_cases hj : j = i
      · subst hj; exact .inr (by simpa using h2)
      · exact .inl ⟨j, by omega, h2⟩
theorem rot_same {L : List Mst} {t : Nat} (ht : t < L.length) (x : Mst) : x ∈ rot L t L.length ↔ x ∈ L := by
  rw [rot_mem]
  constructor
  · rintro ⟨j, _, h⟩; exact List.mem_of_getElem? h
  · intro h
    obtain ⟨k, hk, rfl⟩ := List.mem_iff_getElem.1 h
    refine ⟨(k + (L.length - t)) % L.length, Nat.mod_lt _ (by omega), ?_⟩
    have : ((k + (L.length - t)) % L.length + t) % L.length = k := by
      rw [Nat.mod_add_mod, show k + (L.length - t) + t = k + L.length by omega, Nat.add_mod_right, Nat.mod_eq_of_lt hk]
    rw [this, List.getElem?_eq_getElem hk]
theorem find_only {α : Type} {p : α → Bool} {l m : List α} (hs : ∀ x, x ∈ l ↔ x ∈ m) (hu : ∀ x y, x ∈ m → y ∈ m → p x = true → p y = true → x = y) : l.find? p = m.find? p := by
  cases h1 : l.find? p with
  | none =>
    have h1 := List.find?_eq_none.1 h1
    exact (List.find?_eq_none.2 (fun x hx => h1 x ((hs x).2 hx))).symm
  | some x =>
    cases h2 : m.find? p with
    | none =>
      have h2 := List.find?_eq_none.1 h2
      exact absurd (List.find?_some h1) (h2 x ((hs x).1 (List.mem_of_find?_eq_some h1)))
    | some y => rw [hu x y ((hs x).1 (List.mem_of_find?_eq_some h1)) (List.mem_of_find?_eq_some h2) (List.find?_some h1) (List.find?_some h2)]
theorem isLog_f {who : Int} {m : Mst} (h : isLog who m = true) : m.f = who := by
  unfold isLog at h
  simp at h
  exact h.2.1
theorem dist_only {L : List Mst} (hd : Dist L L.length) {x y : Mst} (hx : x ∈ L) (hy : y ∈ L) (h : x.f = y.f) : x = y := by
  obtain ⟨a, ha, rfl⟩ := List.mem_iff_getElem.1 hx
  obtain ⟨b, hb, rfl⟩ := List.mem_iff_getElem.1 hy
  rcases Nat.lt_trichotomy a b with q | q | q
  · exact absurd h.symm (hd b a _ _ q hb (List.getElem?_eq_getElem hb) (List.getElem?_eq_getElem ha))
  · subst q; rfl
  · exact absurd h (hd a b _ _ q ha (List.getElem?_eq_getElem ha) (List.getElem?_eq_getElem hb))
theorem lastOf_rot {L : List Mst} {t : Nat} (hd : Dist L L.length) (ht : t < L.length) (who : Int) : lastOf who (rot L t L.length) = lastOf who L := by
  unfold lastOf
  refine find_only (fun x => by rw [List.mem_reverse, List.mem_reverse, rot_same ht]) (fun x y hx hy px py => ?_)
  exact dist_only hd (List.mem_reverse.1 hx) (List.mem_reverse.1 hy) ((isLog_f px).trans (isLog_f py).symm)
theorem countsL_rot {L : List Mst} {t : Nat} (hd : Dist L L.length) (ht : t < L.length) : ∀ n, countsL n (rot L t L.length) = countsL n L
  | 0 => rfl
  | n + 1 => by rw [countsL, countsL, countsL_rot hd ht n, lastOf_rot hd ht]
theorem chooseV_rot {L : List Mst} {t : Nat} (hd : Dist L L.length) (ht : t < L.length) (C : Int) : chooseV C (rot L t L.length) = chooseV C L := by
  unfold chooseV
  rw [countsL_rot hd ht]
theorem countsL_nil : ∀ n, countsL n [] = []
  | 0 => rfl
  | n + 1 => by rw [countsL, countsL_nil n]; rfl
theorem chooseV_nil (C : Int) : (chooseV C []).r = false := by
  unfold chooseV
  split
  · next h =>
    rw [countsL_nil]
    unfold chooseL
    rw [if_pos ⟨decide_eq_false (by show ¬ ((0 : Int) = C); omega), .inr (by show (0 : Int) < Quo.enough C; rcases h with rfl | rfl <;> decide)⟩]
    rfl
  · rfl
theorem dist_zero (L : List Mst) : Dist L 0 := fun a b x y _ h => absurd h (by omega)
theorem dist_snoc {L : List Mst} {i : Nat} {x : Mst} (hx : L[i]? = some x) (hd : Dist L i) (hn : ∀ b y, b < i → L[b]? = some y → x.f ≠ y.f) : Dist L (i + 1) := by
  intro a b u v hb ha hu hv
  by_cases h : a = i
  · subst h
    rw [hx] at hu
    injection hu with hu
    subst hu
    exact hn b v hb hv
  · exact hd a b u v hb (by omega) hu hv
end Go.Proofs.YtpbjjmenkoigjaaDoor
end

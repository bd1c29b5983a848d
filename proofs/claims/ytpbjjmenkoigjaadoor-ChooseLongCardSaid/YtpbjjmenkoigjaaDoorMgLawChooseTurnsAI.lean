/- Messages and entries appended to a slice of one's own. The logs that count. Is an item faulty or unsure? Has a log one? What Choose answers; the blocks of its walk. The walk of Choose. -/
import Derived.Test.YtpbjjmenkoigjaaDoorMgLawChooseTurnsAH
import Derived.Test.YtpbjjmenkoigjaaDoorMgLawChooseTurnsAF
section
namespace Go.Proofs.YtpbjjmenkoigjaaDoor
open Go.RowKit
set_option linter.unusedVariables false
def rcells (l : List (Array Value)) : List Value := l.flatMap Array.toList
theorem rcells_get {k : Nat} {l : List (Array Value)} (hk : ∀ x ∈ l, x.size = k) {i : Nat} {x : Array Value} (hx : l[i]? = some x) {j : Nat} {u : Value} (hu : x[j]? = some u) : (rcells l)[i * k + j]? = some u := by
  have hj : j < k := by
    have := (Array.getElem?_eq_some_iff.1 hu).1
    rwa [hk x (List.mem_of_getElem? hx)] at this
  unfold rcells
  induction l generalizing i with
  | nil => simp at hx
  | cons y l ih =>
    have hy : y.toList.length = k := by rw [Array.length_toList]; exact hk y (by simp)
    rw [List.flatMap_cons]
    cases i with
    | zero =>
      simp at hx
      subst hx
      rw [List.getElem?_append_left (by rw [hy]; omega), Nat.zero_mul, Nat.zero_add]
      simpa using hu
    | succ i =>
      rw [List.getElem?_append_right (by rw [hy, Nat.add_mul]; omega), hy, show (i + 1) * k + j - k = i * k + j by rw [Nat.add_mul]; omega]
      exact ih (fun z hz => hk z (by simp [hz])) (by simpa using hx)
theorem rcells_snoc (l : List (Array Value)) (x : Array Value) : rcells l ++ x.toList = rcells (l ++ [x]) := by simp [rcells]
theorem OwnC.rowsAt {Y : Nat → Prop} {w : World} {ad : Option Addr} {cap k : Nat} {l : List (Array Value)} (hk : ∀ x ∈ l, x.size = k) (h : OwnC Y w (.slice ad l.length cap) l.length k (rcells l)) : RowsAt k w ad l ∧ l.length ≤ cap := by
  rcases h.2 with ⟨hv, h0⟩ | ⟨b, off, cp, hv, hY, hlt, hc, h3, _⟩
  · injection hv with h1 h2 h3
    obtain rfl : l = [] := List.eq_nil_of_length_eq_zero h0
    exact ⟨fun i x hx => by simp at hx, Nat.zero_le _⟩
  · injection hv with h1 h2 h4
    subst h1 h4
    exact ⟨fun i x hx => ⟨b, off, rfl, hlt, fun j u hu => by rw [Nat.add_assoc]; exact h3 _ _ (rcells_get hk hx hu)⟩, hc⟩
set_option maxRecDepth 100000 in
theorem info_msg : ∃ i : TypeInfo, Tryd.prog.info? 45 = some i ∧ i.zero = some (.agg #[.int .i64 0, .int .i64 0, .int .i64 0, .int .i64 0, .int .i64 0, .int .i64 0, .int .i64 0, .int .i64 0, .int .i64 0, .int .i64 0, .int .i64 0, .int .i64 0, .int .i64 0, .int .i64 0, .int .u64 0, .int .u64 0, .int .u64 0, .int .u64 0, .int .u64 0, .int .u64 0, .int .u64 0, .int .i64 0, .int .i64 0, .int .i64 0, .int .u64 0, .int .i64 0, .int .i64 0, .int .i64 0, .int .i64 0, .string ⟨#[]⟩, .slice none 0 0, .slice none 0 0, .string ⟨#[]⟩]) ∧ i.size = 33 ∧ i.bytes = 312 := ⟨_, rfl, rfl, rfl, rfl⟩
theorem bslice_msg (m : Mst) (w : World) : (Instr.buildSlice 22 1 #[(0, .agg m.row)]).run Tryd.prog w = .ok (.slice (some ⟨w.heap.size, 0, none⟩) 1 1) (w.alloc (.cells m.row 45)) := by kernel_rfl
theorem run_msg {Y : Nat → Prop} {w0 : World} {x0 : Option Addr} {n cap : Nat} {cs : List Value} (x : Mst) (hO : OwnC Y w0 (.slice x0 n cap) n 33 cs) (hn : n ≤ 1000000) :
    ∃ x' cap' w', (Builtin.append_ #[22, 22] 22 #[.slice x0 n cap, .slice (some ⟨w0.heap.size, 0, none⟩) 1 1]).run Tryd.prog (w0.alloc (.cells x.row 45)) = .ok (.slice x' (n + 1) cap') w' ∧ OwnC (fun q => Y q ∨ w0.heap.size ≤ q) w' (.slice x' (n + 1) cap') (n + 1) 33 (cs ++ x.row.toList) ∧ Turned Y w0 w' := by
  have hnews : ∀ (j : Nat) (u : Value), x.row.toList[j]? = some u → (w0.alloc (.cells x.row 45)).cell? ((⟨w0.heap.size, 0, none⟩ : Addr).add j) = some u := by
    intro j u hu
    have hadd : (⟨w0.heap.size, 0, none⟩ : Addr).add j = ⟨w0.heap.size, 0 + j, none⟩ := by unfold Addr.add; split <;> simp_all
    rw [hadd, Nat.zero_add, cell_of_row _ _ _ _ _ _ (heap_alloc_new w0 _)]
    simpa using hu
  obtain ⟨i0, hi0, hi1, hi2, hi3⟩ := info_msg
  obtain ⟨v', w2, hrun, hO2, hT2⟩ := run_app (P := Tryd.prog) 22 22 45 i0 (.agg #[.int .i64 0, .int .i64 0, .int .i64 0, .int .i64 0, .int .i64 0, .int .i64 0, .int .i64 0, .int .i64 0, .int .i64 0, .int .i64 0, .int .i64 0, .int .i64 0, .int .i64 0, .int .i64 0, .int .u64 0, .int .u64 0, .int .u64 0, .int .u64 0, .int .u64 0, .int .u64 0, .int .u64 0, .int .i64 0, .int .i64 0, .int .i64 0, .int .u64 0, .int .i64 0, .int .i64 0, .int .i64 0, .int .i64 0, .string ⟨#[]⟩, .slice none 0 0, .slice none 0 0, .string ⟨#[]⟩]) 312 Tryd.underlying22 hi0 hi1 hi2 hi3 rfl (by decide) (hO.later ((Below.refl _ _).alloc (Nat.le_refl _) (.cells x.row 45))) ⟨w0.heap.size, 0, none⟩ 1 1 x.row.toList rfl hnews (fun u hu => by have := Array.all_eq_true'.1 (Mst.row_one x) u (by simpa using hu); exact this) (by rw [show maxLen = 9223372036854775807 from rfl]; omega) (by omega)
  obtain ⟨x', cap', rfl⟩ : ∃ x' cap', v' = .slice x' (n + 1) cap' := by
    rcases hO2.2 with ⟨_, h0⟩ | ⟨b, off, cp, hv, _⟩
    · omega
    · exact ⟨_, _, hv⟩
  exact ⟨x', cap', w2, hrun, hO2.mono (fun q h => h.imp id (fun h => by simp at h; omega)), (Turned.alloc w0 Y _).trans hT2 (fun q h => .inl h)⟩
set_option maxRecDepth 100000 in
theorem info_ent : ∃ i : TypeInfo, Tryd.prog.info? 35 = some i ∧ i.zero = some (.agg #[.int .i64 0, .int .i64 0, .int .i64 0, .int .u64 0, .int .i64 0, .int .i64 0, .int .i64 0, .int .i64 0, .string ⟨#[]⟩]) ∧ i.size = 9 ∧ i.bytes = 80 := ⟨_, rfl, rfl, rfl, rfl⟩
theorem bslice_ent (m : Est) (w : World) : (Instr.buildSlice 28 1 #[(0, .agg m.row)]).run Tryd.prog w = .ok (.slice (some ⟨w.heap.size, 0, none⟩) 1 1) (w.alloc (.cells m.row 35)) := by kernel_rfl
theorem run_ent {Y : Nat → Prop} {w0 : World} {x0 : Option Addr} {n cap : Nat} {cs : List Value} (x : Est) (hO : OwnC Y w0 (.slice x0 n cap) n 9 cs) (hn : n ≤ 1000000) :
    ∃ x' cap' w', (Builtin.append_ #[28, 28] 28 #[.slice x0 n cap, .slice (some ⟨w0.heap.size, 0, none⟩) 1 1]).run Tryd.prog (w0.alloc (.cells x.row 35)) = .ok (.slice x' (n + 1) cap') w' ∧ OwnC (fun q => Y q ∨ w0.heap.size ≤ q) w' (.slice x' (n + 1) cap') (n + 1) 9 (cs ++ x.row.toList) ∧ Turned Y w0 w' := by
  have hnews : ∀ (j : Nat) (u : Value), x.row.toList[j]? = some u → (w0.alloc (.cells x.row 35)).cell? ((⟨w0.heap.size, 0, none⟩ : Addr).add j) = some u := by
    intro j u hu
    have hadd : (⟨w0.heap.size, 0, none⟩ : Addr).add j = ⟨w0.heap.size, 0 + j, none⟩ := by unfold Addr.add; split <;> simp_all
    rw [hadd, Nat.zero_add, cell_of_row _ _ _ _ _ _ (heap_alloc_new w0 _)]
    simpa using hu
  obtain ⟨i0, hi0, hi1, hi2, hi3⟩ := info_ent
  obtain ⟨v', w2, hrun, hO2, hT2⟩ := run_app (P := Tryd.prog) 28 28 35 i0 (.agg #[.int .i64 0, .int .i64 0, .int .i64 0, .int .u64 0, .int .i64 0, .int .i64 0, .int .i64 0, .int .i64 0, .string ⟨#[]⟩]) 80 Tryd.underlying28 hi0 hi1 hi2 hi3 rfl (by decide) (hO.later ((Below.refl _ _).alloc (Nat.le_refl _) (.cells x.row 35))) ⟨w0.heap.size, 0, none⟩ 1 1 x.row.toList rfl hnews (fun u hu => by have := Array.all_eq_true'.1 (Est.row_one x) u (by simpa using hu); exact this) (by rw [show maxLen = 9223372036854775807 from rfl]; omega) (by omega)
  obtain ⟨x', cap', rfl⟩ : ∃ x' cap', v' = .slice x' (n + 1) cap' := by
    rcases hO2.2 with ⟨_, h0⟩ | ⟨b, off, cp, hv, _⟩
    · omega
    · exact ⟨_, _, hv⟩
  exact ⟨x', cap', w2, hrun, hO2.mono (fun q h => h.imp id (fun h => by simp at h; omega)), (Turned.alloc w0 Y _).trans hT2 (fun q h => .inl h)⟩
theorem wpList_bslice_eq {P : Program} {ops : Array Oper} {rest : List Oper} {op : Oper} {a : Act} {w w' : World} {Q : Exit → Act → World → Prop} (TS : TypeId) (x : Operand) (hgd : op.guard = none) (ho : op.op = .buildSlice TS 1 #[(0, x)])
    {p v : Value} (hx : a.eval x = p) (hl : (Instr.buildSlice TS 1 #[(0, p)]).run P w = .ok v w')
    (h : wpList P ops Q rest (a.put op.dst v) w') : wpList P ops Q (op :: rest) a w :=
  wpList_plain hgd fun _ hK => by
    unfold Oper.wp execOp
    simp only [ho, List.map_toArray, List.map_cons, List.map_nil, hx, Sem.run_bind, Sem.run_pure, Result.andThen_ok, hl]
    exact hK _ _ h
theorem wpList_app_eq {P : Program} {ops : Array Oper} {rest : List Oper} {op : Oper} {a : Act} {w w' : World} {Q : Exit → Act → World → Prop} (t : TypeId) (s x : Operand) (hgd : op.guard = none)
    (ho : op.op = .call { callee := .builtin .append, args := #[s, x], argTypes := #[t, t] }) (hty : op.type = t) {v y v' : Value} (hs : a.eval s = v) (hx : a.eval x = y) (hrun : (Builtin.append_ #[t, t] t #[v, y]).run P w = .ok v' w')
    (h : wpList P ops Q rest (a.put op.dst v') w') : wpList P ops Q (op :: rest) a w := by
  refine wpList_plain hgd fun K hK => ?_
  unfold Oper.wp
  simp only [execOp, ho, resolve, invoke, builtin, Sem.run_bind, Sem.run_pure, Result.andThen_ok, List.map_toArray, List.map_cons, List.map_nil, hs, hx, hty, hrun]
  exact hK _ _ h
end Go.Proofs.YtpbjjmenkoigjaaDoor
end

section
namespace Go.Proofs.YtpbjjmenkoigjaaDoor
open Go.RowKit
set_option linter.unusedVariables false
def isLog (who : Int) (m : Mst) : Bool := decide (m.k = 7) && (decide (m.f = who) && rightB m)
def lastOf (who : Int) (L : List Mst) : Option Mst := L.reverse.find? (isLog who)
def countsL : Nat → List Mst → List Mst
  | 0, _ => []
  | n + 1, L => countsL n L ++ (lastOf (n + 1) L).toList
theorem isLog_no {who : Int} {m : Mst} (h : ¬ (m.k = 7 ∧ m.f = who ∧ rightB m = true)) : isLog who m = false := by
  unfold isLog
  by_cases h1 : m.k = 7 <;> by_cases h2 : m.f = who <;> cases h3 : rightB m <;> simp_all
theorem isLog_yes {who : Int} {m : Mst} (h1 : m.k = 7) (h2 : m.f = who) (h3 : rightB m = true) : isLog who m = true := by
  unfold isLog; simp [h1, h2, h3]
theorem lastOf_step {who : Int} {L : List Mst} {q : Nat} {x : Mst} (h : L[q]? = some x) : lastOf who (L.drop q) = (lastOf who (L.drop (q + 1))).or (if isLog who x = true then some x else none) := by
  obtain ⟨hq, rfl⟩ := List.getElem?_eq_some_iff.1 h
  unfold lastOf
  rw [List.drop_eq_getElem_cons hq, List.reverse_cons, List.find?_append]
  congr 1
  simp [List.find?]
  split <;> simp_all
theorem lastOf_found {who : Int} {L : List Mst} {q : Nat} {x : Mst} (h : lastOf who (L.drop q) = some x) : lastOf who L = some x := by
  unfold lastOf at *
  rw [← List.take_append_drop q L, List.reverse_append, List.find?_append, h]
  rfl
theorem countsL_len (L : List Mst) : ∀ n, (countsL n L).length ≤ n
  | 0 => Nat.le_refl _
  | n + 1 => by
    have := countsL_len L n
    simp only [countsL, List.length_append]
    cases lastOf (n + 1) L <;> simp <;> omega
set_option maxRecDepth 100000 in
set_option maxHeartbeats 20000000 in
theorem counts_any (C : Nat) (hC : C ≤ 1000) (ad : Option Addr) (cap : Nat) (L : List Mst) (w : World) (hl : LogsAt w ad cap L) (hg : Gl w) :
    Calls Tryd.prog 24 #[.int .i64 C, .slice ad L.length cap] w fun e w' => (∃ ad' cap', e = .returned (.slice ad' (countsL C L).length cap') ∧ RowsAt 33 w' ad' ((countsL C L).map Mst.row) ∧ (countsL C L).length ≤ cap') ∧ Below w.heap.size w w' := by
  have HL := Lib.hid hl
  have HG := Lib.hid hg
  have hsm := hl.small
  obtain ⟨N, hN⟩ : ∃ N, N = L.length := ⟨_, rfl⟩
  have HN := Lib.hid hN
  rw [← hN] at hsm ⊢
  clear hl hg hN
  go_enter Tryd.func24, Tryd.ntmps24
  go_wp2_with fail
  go_loopw [5, 6] (fun lv iv wr => ∃ (j : Nat) (ad' : Option Addr) (cap' : Nat), j ≤ C ∧ iv = .int .i64 ((j : Int) + 1) ∧ lv = .slice ad' (countsL j L).length cap' ∧ OwnC (fun q => w.heap.size ≤ q) wr (.slice ad' (countsL j L).length cap') (countsL j L).length 33 (rcells ((countsL j L).map Mst.row)) ∧ Below w.heap.size w wr) (fun _ iv _ => C + 1 - (intOf iv).toNat)
  case atStart => exact ⟨0, none, 0, by omega, rfl, rfl, OwnC.nil _ _ _, Below.refl _ _⟩
  case round =>
    obtain ⟨j, ad1, cap1, hj, rfl, rfl, hO, hbw⟩ := hrel
    by_cases hlt : j < C
    · have hle : (j : Int) + 1 ≤ (C : Int) := by omega
      have HO := Lib.hid hO
      have HB := Lib.hid hbw
      have hlen := countsL_len L j
      have HCN : Hid (countsL (j + 1) L = countsL j L ++ (lastOf (j + 1) L).toList) := Lib.hid rfl
      generalize countsL j L = l' at *
      obtain ⟨K, hK⟩ : ∃ K, K = l'.length := ⟨_, rfl⟩
      have HK := Lib.hid hK
      rw [← hK] at HO hlen ⊢
      clear hO hbw hK
      go_wp2_with fail
      go_loopw [5, 7] (fun lv iv wr => ∃ p : Nat, p ≤ N ∧ iv = .int .i64 ((p : Int) - 1) ∧ lv = .slice ad1 K cap1 ∧ lastOf (j + 1) (L.drop p) = none ∧ OwnC (fun q => w.heap.size ≤ q) wr (.slice ad1 K cap1) K 33 (rcells (l'.map Mst.row)) ∧ Below w.heap.size w wr) (fun _ iv _ => (intOf iv + 1).toNat)
      case atStart => exact ⟨N, by omega, rfl, rfl, by rw [HN.out, List.drop_length]; rfl, HO.out, HB.out⟩
      case round =>
        clear HO HB
        obtain ⟨p, hp, rfl, rfl, hnone, hO, hbw⟩ := hrel
        have HNONE := Lib.hid hnone
        have HO := Lib.hid hO
        have HB := Lib.hid hbw
        by_cases hp0 : p = 0
        · subst hp0
          have HNL : Hid (lastOf (j + 1) L = none) := Lib.hid (by simpa using hnone)
          clear hnone hO hbw
          go_wp2_with fail
          go_roundw
          case rel => exact ⟨j + 1, ad1, cap1, by omega, by go_num, by rw [HCN.out, HNL.out, HK.out]; simp, by rw [HCN.out, HNL.out]; have := HO.out; rw [HK.out] at this; simpa using this, HB.out⟩
          case measure => simp [intOf]; omega
        · obtain ⟨q, rfl⟩ : ∃ q, p = q + 1 := ⟨p - 1, by omega⟩
          rw [show (((q + 1 : Nat) : Int) - 1) = (q : Int) by omega]
          obtain ⟨x, hx⟩ : ∃ x, L[q]? = some x := ⟨L[q]'(by rw [← HN.out]; omega), List.getElem?_eq_getElem _⟩
          have hLw := HL.out.later hbw
          obtain ⟨b, off, rfl, hbl, hra⟩ := hLw.rows.range (i := q) (x := x.row) (by rw [List.getElem?_map, hx]; rfl)
          have HX := Lib.hid hx
          have l1 := load_at 45 _ hra Tryd.underlying45 rfl (by kernel_rfl)
          obtain ⟨W1, st1, hW1, hB1, hz1⟩ := fresh wr #[.int .i64 0, .int .i64 0, .int .i64 0, .int .i64 0, .int .i64 0, .int .i64 0, .int .i64 0, .int .i64 0, .int .i64 0, .int .i64 0, .int .i64 0, .int .i64 0, .int .i64 0, .int .i64 0, .int .u64 0, .int .u64 0, .int .u64 0, .int .u64 0, .int .u64 0, .int .u64 0, .int .u64 0, .int .i64 0, .int .i64 0, .int .i64 0, .int .u64 0, .int .i64 0, .int .i64 0, .int .i64 0, .int .i64 0, .string ⟨#[]⟩, .slice none 0 0, .slice none 0 0, .string ⟨#[]⟩] x.row 45 rfl (by kernel_rfl) (Mst.row_one x)
          have l2 := m_load hB1
          have hbw1 : Below w.heap.size w W1 := hbw.trans (hW1.mono hbw.size)
          have c0 : W1.cell? ⟨wr.heap.size, 0, none⟩ = some (.int .i64 x.k) := (hB1.2 0 _ rfl).1
          have c1 : W1.cell? ⟨wr.heap.size, 1, none⟩ = some (.int .i64 x.f) := (hB1.2 1 _ rfl).1
          have HIN := Lib.hid (((HL.out.ins x (List.mem_of_getElem? hx)).below hbw1 (Nat.le_refl _)))
          have HG1 := Lib.hid (HG.out.later hbw1)
          have HO1 := Lib.hid (hO.later hW1)
          have HB1 := Lib.hid hB1
          have HBW1 := Lib.hid hbw1
          have l1 := Lib.hid l1
          have st1 := Lib.hid st1
          have l2 := Lib.hid l2
          clear hra hB1 hW1 hLw hO hbw hbw1 hx hnone hz1 hbl HO HB
          by_cases k7 : x.k = 7
          · rw [k7] at c0
            by_cases kf : x.f = (j : Int) + 1
            · rw [kf] at c1
              go_wp2_with (first | (guard_target =~ wpList _ _ _ (⟨_, Op.load _ (Operand.tmp 23), _, _, _, _⟩ :: _) _ _; refine wpList_load_eq 45 (Operand.tmp 23) rfl rfl l1.out rfl ?_) | (guard_target =~ wpList _ _ _ (⟨_, Op.store _ (Operand.tmp 8) (Operand.tmp 24), _, _, _, _⟩ :: _) _ _; refine wpList_store_eq 45 (Operand.tmp 8) (Operand.tmp 24) rfl rfl st1.out rfl rfl ?_) | (guard_target =~ wpList _ _ _ (⟨_, Op.load _ (Operand.tmp 8), _, _, _, _⟩ :: _) _ _; refine wpList_load_w 45 (Operand.tmp 8) (by kernel_rfl) rfl l2.out rfl ?_))
              refine (mright_any x _ k7 HIN.out HG1.out).mono ?_
              rintro e w2 ⟨rfl, hb2⟩
              have hbw2 : Below w.heap.size w w2 := HBW1.out.trans (hb2.mono HBW1.out.size)
              have HO2 := Lib.hid (HO1.out.later hb2)
              have HBW2 := Lib.hid hbw2
              have l39 := Lib.hid (m_load (HB1.out.later hb2))
              clear hb2 c0 c1
              cases hr : rightB x
              · have HNL : Hid (lastOf (j + 1) (L.drop q) = none) := Lib.hid (by rw [lastOf_step HX.out, HNONE.out, isLog_no (fun h => by have := h.2.2; rw [hr] at this; cases this)]; rfl)
                go_wp2_with fail
                go_roundw
                case rel => exact ⟨q, by omega, by go_num, rfl, HNL.out, HO2.out, HBW2.out⟩
                case measure => simp [intOf] <;> omega
              · have HYL : Hid (lastOf (j + 1) L = some x) := Lib.hid (lastOf_found (q := q) (by rw [lastOf_step HX.out, HNONE.out, isLog_yes k7 kf hr]; rfl))
                obtain ⟨x', cap', w3, hrun, hO3, hT3⟩ := run_msg x HO2.out (by omega)
                have hrun := Lib.hid hrun
                have HO3 := Lib.hid (hO3.mono (Y' := fun q => w.heap.size ≤ q) (fun q hq => by rcases hq with h | h; exact h; have := hbw2.size; omega))
                have HBW3 := Lib.hid (hbw2.trans (hT3.below (fun q hq => hq) hbw2.size))
                clear hO3 hT3 hbw2
                go_wp2_with (first | (guard_target =~ wpList _ _ _ (⟨_, Op.load _ (Operand.tmp 8), _, _, _, _⟩ :: _) _ _; refine wpList_load_eq 45 (Operand.tmp 8) rfl rfl l39.out rfl ?_) | (guard_target =~ wpList _ _ _ (⟨_, Op.buildSlice _ _ _, _, _, _, _⟩ :: _) _ _; refine wpList_bslice_eq 22 (Operand.tmp 39) rfl rfl rfl (bslice_msg x _) ?_) | (guard_target =~ wpList _ _ _ (⟨_, Op.call _, _, _, _, _⟩ :: _) _ _; refine wpList_app_eq 22 (Operand.tmp 38) (Operand.tmp 40) rfl rfl rfl rfl rfl hrun.out ?_))
                go_roundw
                case rel => exact ⟨j + 1, x', cap', by omega, by go_num, by rw [HCN.out, HYL.out, HK.out]; simp, by rw [HCN.out, HYL.out]; have := HO3.out; rw [rcells_snoc, HK.out] at this; simpa using this, HBW3.out⟩
                case measure => simp [intOf]; omega
            · have HNL : Hid (lastOf (j + 1) (L.drop q) = none) := Lib.hid (by rw [lastOf_step HX.out, HNONE.out, isLog_no (fun h => kf h.2.1)]; rfl)
              have kfb : (x.f == (j : Int) + 1) = false := beq_eq_false_iff_ne.2 kf
              go_wp2_with (first | (guard_target =~ wpList _ _ _ (⟨_, Op.load _ (Operand.tmp 23), _, _, _, _⟩ :: _) _ _; refine wpList_load_eq 45 (Operand.tmp 23) rfl rfl l1.out rfl ?_) | (guard_target =~ wpList _ _ _ (⟨_, Op.store _ (Operand.tmp 8) (Operand.tmp 24), _, _, _, _⟩ :: _) _ _; refine wpList_store_eq 45 (Operand.tmp 8) (Operand.tmp 24) rfl rfl st1.out rfl rfl ?_))
              go_roundw
              case rel => exact ⟨q, by omega, by go_num, rfl, HNL.out, HO1.out, HBW1.out⟩
              case measure => simp [intOf] <;> omega
          · have HNL : Hid (lastOf (j + 1) (L.drop q) = none) := Lib.hid (by rw [lastOf_step HX.out, HNONE.out, isLog_no (fun h => k7 h.1)]; rfl)
            have k7b : (x.k == 7) = false := beq_eq_false_iff_ne.2 k7
            go_wp2_with (first | (guard_target =~ wpList _ _ _ (⟨_, Op.load _ (Operand.tmp 23), _, _, _, _⟩ :: _) _ _; refine wpList_load_eq 45 (Operand.tmp 23) rfl rfl l1.out rfl ?_) | (guard_target =~ wpList _ _ _ (⟨_, Op.store _ (Operand.tmp 8) (Operand.tmp 24), _, _, _, _⟩ :: _) _ _; refine wpList_store_eq 45 (Operand.tmp 8) (Operand.tmp 24) rfl rfl st1.out rfl rfl ?_))
            go_roundw
            case rel => exact ⟨q, by omega, by go_num, rfl, HNL.out, HO1.out, HBW1.out⟩
            case measure => simp [intOf] <;> omega
    · obtain rfl : C = j := by omega
      have hr := hO
      rw [← List.length_map (f := Mst.row)] at hr
      have hrw := hr.rowsAt (fun y hy => by obtain ⟨m, _, rfl⟩ := List.mem_map.1 hy; rfl)
      rw [List.length_map] at hrw
      have HE := Lib.hid (And.intro hrw hbw)
      clear hr hrw hO hbw
      obtain ⟨l', hl'⟩ : ∃ l', l' = countsL C L := ⟨_, rfl⟩
      have HCL := Lib.hid hl'
      rw [← hl'] at HE ⊢
      clear hl'
      obtain ⟨K, hK⟩ : ∃ K, K = l'.length := ⟨_, rfl⟩
      have HK := Lib.hid hK
      rw [← hK] at HE ⊢
      clear hK
      go_wp2_with fail
      go_ret
      exact ⟨⟨_, _, by rw [← HCL.out, ← HK.out]; rfl, by rw [← HCL.out]; exact HE.out.1.1, by rw [← HCL.out, ← HK.out]; exact HE.out.1.2⟩, HE.out.2⟩
end Go.Proofs.YtpbjjmenkoigjaaDoor
end

section
namespace Go.Proofs.YtpbjjmenkoigjaaDoor
open Go.RowKit
set_option linter.unusedVariables false
def badB (x : Ist) : Bool := decide (x.k = 2) || decide (x.k = 3)
def dirtyB (m : Mst) : Bool := m.is.any badB
theorem any_yes {α : Type} {p : α → Bool} {l : List α} {j : Nat} {x : α} (h : l[j]? = some x) (hp : p x = true) : l.any p = true := by
  rw [List.any_eq_true]
  exact ⟨x, List.mem_of_getElem? h, hp⟩
theorem any_snoc {α : Type} {p : α → Bool} {l : List α} {j : Nat} {x : α} (h : l[j]? = some x) (ha : (l.take j).any p = false) (hp : p x = false) : (l.take (j + 1)).any p = false := by
  rw [take_snoc h, List.any_append, ha]; simp [hp]
set_option maxRecDepth 100000 in
set_option maxHeartbeats 20000000 in
theorem bad_any (x : Ist) (w : World) : Calls Tryd.prog 28 #[.agg x.row] w fun e w' => e = .returned (.bool (badB x)) ∧ Below w.heap.size w w' := by
  have H0 : Hid (Below w.heap.size w (w.alloc (.cells x.row 40))) := Lib.hid ((Below.refl _ _).alloc (Nat.le_refl _) _)
  have c0 : (w.alloc (.cells x.row 40)).cell? ⟨w.heap.size, 0, none⟩ = some (.int .i64 x.k) := ((Blk.new w x.row 40 _ rfl).2 0 _ rfl).1
  have HV : Hid (badB x = (decide (x.k = 2) || decide (x.k = 3))) := Lib.hid rfl
  go_enter Tryd.func28, Tryd.ntmps28
  generalize x.k = k at *
  by_cases k2 : k = 2
  · subst k2
    go_wp2_with fail
    go_ret
    exact ⟨by rw [HV.out]; rfl, H0.out⟩
  · by_cases k3 : k = 3
    · subst k3
      go_wp2_with fail
      go_ret
      exact ⟨by rw [HV.out]; rfl, H0.out⟩
    · have k2b : (k == 2) = false := beq_eq_false_iff_ne.2 k2
      have k3b : (k == 3) = false := beq_eq_false_iff_ne.2 k3
      have HK := Lib.hid (And.intro (decide_eq_false k2) (decide_eq_false k3))
      go_wp2_with fail
      go_ret
      exact ⟨by rw [HV.out, HK.out.1, HK.out.2]; rfl, H0.out⟩
set_option maxRecDepth 100000 in
set_option maxHeartbeats 20000000 in
theorem index_items (ad : Option Addr) (cap : Nat) (l : List Ist) (w : World) (hr : RowsAt 15 w ad (l.map Ist.row)) (hsm : l.length ≤ 9223372036854775807)  : Calls Tryd.prog 40 #[.slice ad l.length cap, .func (.func 28) #[] #[]] w fun e w' => (∃ i : Int, e = .returned (.int .i64 i) ∧ decide (0 ≤ i) = l.any badB) ∧ Below w.heap.size w w' := by
  have HR := Lib.hid hr
  obtain ⟨N, hN⟩ : ∃ N, N = l.length := ⟨_, rfl⟩
  have HN := Lib.hid hN
  rw [← hN] at hsm ⊢
  clear hr hN
  go_enter Tryd.func40, Tryd.ntmps40
  go_wp2_with fail
  go_loopw [8] (fun iv wr => ∃ j : Nat, j ≤ N ∧ iv = .int .i64 (j : Int) ∧ (l.take j).any badB = false ∧ Below w.heap.size w wr) (fun iv _ => N - (intOf iv).toNat)
  case atStart => exact ⟨0, by omega, rfl, by simp, Below.refl _ _⟩
  case round =>
    obtain ⟨j, hj, rfl, hany, hbw⟩ := hrel
    have HA := Lib.hid hany
    have HB := Lib.hid hbw
    by_cases hlt : j < N
    · obtain ⟨x, hx⟩ : ∃ x, l[j]? = some x := ⟨l[j]'(by rw [← HN.out]; exact hlt), List.getElem?_eq_getElem _⟩
      obtain ⟨b, off, rfl, hbl, hra⟩ := (HR.out.later hbw).range (i := j) (x := x.row) (by rw [List.getElem?_map, hx]; rfl)
      have HX := Lib.hid hx
      have l1 := Lib.hid (load_at 40 _ hra Tryd.underlying40 rfl (by kernel_rfl))
      clear hra hbw hany hx hbl
      go_wp2_with (first | (guard_target =~ wpList _ _ _ (⟨_, Op.load _ (Operand.tmp 14), _, _, _, _⟩ :: _) _ _; refine wpList_load_eq 40 (Operand.tmp 14) rfl rfl l1.out rfl ?_))
      refine (bad_any x _).mono ?_
      rintro e w2 ⟨rfl, hb2⟩
      have HB2 := Lib.hid (HB.out.trans (hb2.mono HB.out.size))
      clear hb2
      cases hq : badB x
      · go_wp2_with fail
        go_roundw
        case rel => exact ⟨j + 1, by omega, by go_num, any_snoc HX.out HA.out hq, HB2.out⟩
        case measure => simp [intOf]; omega
      · go_wp2_with fail
        go_ret
        exact ⟨⟨j, rfl, by rw [any_yes HX.out hq]; simp⟩, HB2.out⟩
    · obtain rfl : N = j := by omega
      have HE : Hid (l.any badB = false) := Lib.hid (by rw [HN.out, List.take_length] at hany; exact hany)
      clear hany hbw
      go_wp2_with fail
      go_ret
      exact ⟨⟨-1, rfl, by rw [HE.out]; rfl⟩, HB.out⟩
set_option maxRecDepth 100000 in
set_option maxHeartbeats 20000000 in
theorem contains_items (ad : Option Addr) (cap : Nat) (l : List Ist) (w : World) (hr : RowsAt 15 w ad (l.map Ist.row)) (hsm : l.length ≤ 9223372036854775807)  : Calls Tryd.prog 27 #[.slice ad l.length cap, .func (.func 28) #[] #[]] w fun e w' => e = .returned (.bool (l.any badB)) ∧ Below w.heap.size w w' := by
  have HX := Lib.hid (index_items ad cap l w hr hsm )
  clear hsm
  generalize l.any badB = v at *
  generalize l.length = N at *
  go_enter Tryd.func27, Tryd.ntmps27
  go_wp2_with fail
  refine HX.out.mono ?_
  rintro e w2 ⟨⟨i, rfl, hi⟩, hb2⟩
  have HB2 := Lib.hid hb2
  have HI := Lib.hid hi
  clear hi hb2
  go_wp2_with fail
  go_ret
  exact ⟨by rw [← HI.out]; rfl, HB2.out⟩
set_option maxRecDepth 100000 in
set_option maxHeartbeats 20000000 in
theorem choose1_any (x : Mst) (w : World) (hin : x.In w) : Calls Tryd.prog 26 #[.agg x.row] w fun e w' => e = .returned (.bool (dirtyB x)) ∧ Below w.heap.size w w' := by
  have hbw : Below w.heap.size w (w.alloc (.cells x.row 45)) := (Below.refl _ _).alloc (Nat.le_refl _) _
  have H0 : Hid (Below w.heap.size w (w.alloc (.cells x.row 45))) := Lib.hid hbw
  have c16 : (w.alloc (.cells x.row 45)).cell? ⟨w.heap.size, 31, none⟩ = some (.slice x.ia x.is.length x.ic) := ((Blk.new w x.row 45 _ rfl).2 31 _ rfl).1
  have HC := Lib.hid (contains_items x.ia x.ic x.is (w.alloc (.cells x.row 45)) (hin.is.later hbw) hin.il)
  obtain ⟨N, hN⟩ : ∃ N, N = x.is.length := ⟨_, rfl⟩
  rw [← hN] at c16 HC
  clear hN hbw
  go_enter Tryd.func26, Tryd.ntmps26
  go_wp2_with fail
  generalize w.alloc (.cells x.row 45) = w1 at *
  refine HC.out.mono ?_
  rintro e w2 ⟨rfl, hb2⟩
  have H2 := Lib.hid (H0.out.trans (hb2.mono H0.out.size))
  clear hb2
  go_wp2_with fail
  go_ret
  exact ⟨rfl, H2.out⟩
set_option maxRecDepth 100000 in
set_option maxHeartbeats 20000000 in
theorem index_msgs (ad : Option Addr) (cap : Nat) (l : List Mst) (w : World) (hr : RowsAt 33 w ad (l.map Mst.row)) (hsm : l.length ≤ 9223372036854775807) (hin : ∀ m ∈ l, m.In w) : Calls Tryd.prog 39 #[.slice ad l.length cap, .func (.func 26) #[] #[]] w fun e w' => (∃ i : Int, e = .returned (.int .i64 i) ∧ decide (0 ≤ i) = l.any dirtyB) ∧ Below w.heap.size w w' := by
  have HR := Lib.hid hr
  have HI : Hid (∀ m, m ∈ l → ∀ {W : World}, Below w.heap.size w W → m.In W) := Lib.hid (fun m hm W hW => (hin m hm).below hW (Nat.le_refl _))
  clear hin
  obtain ⟨N, hN⟩ : ∃ N, N = l.length := ⟨_, rfl⟩
  have HN := Lib.hid hN
  rw [← hN] at hsm ⊢
  clear hr hN
  go_enter Tryd.func39, Tryd.ntmps39
  go_wp2_with fail
  go_loopw [8] (fun iv wr => ∃ j : Nat, j ≤ N ∧ iv = .int .i64 (j : Int) ∧ (l.take j).any dirtyB = false ∧ Below w.heap.size w wr) (fun iv _ => N - (intOf iv).toNat)
  case atStart => exact ⟨0, by omega, rfl, by simp, Below.refl _ _⟩
  case round =>
    obtain ⟨j, hj, rfl, hany, hbw⟩ := hrel
    have HA := Lib.hid hany
    have HB := Lib.hid hbw
    by_cases hlt : j < N
    · obtain ⟨x, hx⟩ : ∃ x, l[j]? = some x := ⟨l[j]'(by rw [← HN.out]; exact hlt), List.getElem?_eq_getElem _⟩
      obtain ⟨b, off, rfl, hbl, hra⟩ := (HR.out.later hbw).range (i := j) (x := x.row) (by rw [List.getElem?_map, hx]; rfl)
      have HX := Lib.hid hx
      have l1 := Lib.hid (load_at 45 _ hra Tryd.underlying45 rfl (by kernel_rfl))
      clear hra hbw hany hx hbl
      go_wp2_with (first | (guard_target =~ wpList _ _ _ (⟨_, Op.load _ (Operand.tmp 14), _, _, _, _⟩ :: _) _ _; refine wpList_load_eq 45 (Operand.tmp 14) rfl rfl l1.out rfl ?_))
      refine (choose1_any x _ (HI.out x (List.mem_of_getElem? HX.out) (HB.out))).mono ?_
      rintro e w2 ⟨rfl, hb2⟩
      have HB2 := Lib.hid (HB.out.trans (hb2.mono HB.out.size))
      clear hb2
      cases hq : dirtyB x
      · go_wp2_with fail
        go_roundw
        case rel => exact ⟨j + 1, by omega, by go_num, any_snoc HX.out HA.out hq, HB2.out⟩
        case measure => simp [intOf]; omega
      · go_wp2_with fail
        go_ret
        exact ⟨⟨j, rfl, by rw [any_yes HX.out hq]; simp⟩, HB2.out⟩
    · obtain rfl : N = j := by omega
      have HE : Hid (l.any dirtyB = false) := Lib.hid (by rw [HN.out, List.take_length] at hany; exact hany)
      clear hany hbw
      go_wp2_with fail
      go_ret
      exact ⟨⟨-1, rfl, by rw [HE.out]; rfl⟩, HB.out⟩
set_option maxRecDepth 100000 in
set_option maxHeartbeats 20000000 in
theorem contains_msgs (ad : Option Addr) (cap : Nat) (l : List Mst) (w : World) (hr : RowsAt 33 w ad (l.map Mst.row)) (hsm : l.length ≤ 9223372036854775807) (hin : ∀ m ∈ l, m.In w) : Calls Tryd.prog 25 #[.slice ad l.length cap, .func (.func 26) #[] #[]] w fun e w' => e = .returned (.bool (l.any dirtyB)) ∧ Below w.heap.size w w' := by
  have HX := Lib.hid (index_msgs ad cap l w hr hsm hin)
  clear hsm
  generalize l.any dirtyB = v at *
  generalize l.length = N at *
  go_enter Tryd.func25, Tryd.ntmps25
  go_wp2_with fail
  refine HX.out.mono ?_
  rintro e w2 ⟨⟨i, rfl, hi⟩, hb2⟩
  have HB2 := Lib.hid hb2
  have HI := Lib.hid hi
  clear hi hb2
  go_wp2_with fail
  go_ret
  exact ⟨by rw [← HI.out]; rfl, HB2.out⟩
end Go.Proofs.YtpbjjmenkoigjaaDoor
end

section
namespace Go.Proofs.YtpbjjmenkoigjaaDoor
open Go.RowKit
set_option linter.unusedVariables false
structure Cst where
  r : Bool
  co : Int
  cv : Int
  cs : Int
  cm : Int
  es : List Est
def Cst.zero : Cst := ⟨false, 0, 0, 0, 0, []⟩
def crow (r : Bool) (co cv cs cm : Int) (ea : Option Addr) (n cap : Nat) : Array Value := #[.bool r, .int .i64 co, .int .i64 cv, .int .u64 cs, .int .i64 cm, .slice ea n cap]
def mrow (o v s : Int) : Array Value := #[.int .i64 o, .int .i64 v, .int .u64 s]
def Est.mo (e : Est) : Int := mkO e.v e.o e.u e.c e.s e.r e.k e.b
def Est.mv (e : Est) : Int := mkV e.v e.o e.u e.c e.s e.r e.k e.b
def ckStep (t : Int × Int × Int × Int) (m : Mst) : Int × Int × Int × Int :=
  if t.1 < m.co then (m.co, m.cv, m.cs, max t.2.2.2 (max m.cm m.co)) else (t.1, t.2.1, t.2.2.1, max t.2.2.2 (max m.cm m.co))
def topCk (l : List Mst) (m0 : Mst) : Int × Int × Int × Int := l.foldl ckStep (m0.co, m0.cv, m0.cs, 0)
def badStub (t : Int × Sst × Bool) (o v s : Int) : Prop := t.2.2 = false ∨ t.2.1.o ≠ o + 1 ∨ t.2.1.u ≠ v ∨ t.2.1.p ≠ s
instance (t : Int × Sst × Bool) (o v s : Int) : Decidable (badStub t o v s) := by unfold badStub; infer_instance
noncomputable def runC (l : List Mst) (wh : Bool) : Nat → Int → Int → Int → List Est → Option (List Est)
  | 0, _, _, _, E => some E
  | f + 1, o, v, s, E =>
    if badStub (told l (o + 1)) o v s then some E
    else match held l (o + 1) (told l (o + 1)).2.1 with
      | none => if wh = true then some E else none
      | some e => runC l wh f e.mo e.mv e.sum (E ++ [e])
noncomputable def chooseL (C : Int) (l : List Mst) : Cst :=
  if decide ((l.length : Int) = C) = false ∧ (l.any dirtyB = true ∨ (l.length : Int) < Quo.enough C) then Cst.zero
  else match l with
    | [] => Cst.zero
    | m0 :: l' => match runC (m0 :: l') (decide (((m0 :: l').length : Int) = C)) 8 (topCk (m0 :: l') m0).1 (topCk (m0 :: l') m0).2.1 (topCk (m0 :: l') m0).2.2.1 [] with
      | none => Cst.zero
      | some E => ⟨true, (topCk (m0 :: l') m0).1, (topCk (m0 :: l') m0).2.1, (topCk (m0 :: l') m0).2.2.1, (topCk (m0 :: l') m0).2.2.2, E⟩
noncomputable def chooseV (C : Int) (L : List Mst) : Cst := if C = 3 ∨ C = 5 then chooseL C (countsL C.toNat L) else Cst.zero
theorem topCk_snoc (t : Int × Int × Int × Int) (l : List Mst) (m : Mst) : (l ++ [m]).foldl ckStep t = ckStep (l.foldl ckStep t) m := by rw [List.foldl_append]; rfl
theorem countsL_mem {L : List Mst} {m : Mst} : ∀ {n : Nat}, m ∈ countsL n L → m ∈ L ∧ m.k = 7 ∧ rightB m = true
  | 0, h => by simp [countsL] at h
  | n + 1, h => by
    rcases List.mem_append.1 h with h | h
    · exact countsL_mem h
    · have h : lastOf (n + 1) L = some m := by simpa using h
      have h1 := List.mem_of_find?_eq_some h
      have h2 := List.find?_some h
      unfold isLog at h2
      simp at h2
      exact ⟨by simpa using h1, h2.1, h2.2.2⟩
theorem rightB_co {m : Mst} (h : rightB m = true) : 0 ≤ m.co ∧ m.co ≤ 72057594037927935 := by
  unfold rightB at h
  simp only [Bool.and_eq_true] at h
  exact (okN_iff _).1 h.2.2.2.1
theorem Ist.zero_ok : Ist.zero.Ok := by unfold Ist.Ok Sst.Ok Est.Ok Ist.zero Sst.zero Est.zero; simp
theorem says_ok {m : Mst} {w : World} (h : m.In w) (n : Int) : (m.says n).Ok := by
  unfold Mst.says
  split
  · cases hx : m.is[(n - 1 - m.co).toNat]? with
    | none => exact Ist.zero_ok
    | some x => exact h.iok x (List.mem_of_getElem? hx)
  · exact Ist.zero_ok
theorem held_ok {l : List Mst} {w : World} {n : Int} {s : Sst} {e : Est} (h : held l n s = some e) (hin : ∀ m ∈ l, m.In w) : e.Ok := by
  unfold held at h
  obtain ⟨m, hm, rfl⟩ := Option.map_eq_some_iff.1 h
  exact (says_ok (hin m (List.mem_of_find?_eq_some hm)) n).2
theorem mo_ok (e : Est) : 0 ≤ e.mo ∧ e.mo ≤ 72057594037927935 := by
  unfold Est.mo mkO
  split
  · next h =>
    obtain ⟨h1, h2, _⟩ := entB_parts h
    have := of_decide_eq_true h1
    omega
  · omega
theorem topCk_ok (l : List Mst) (hl : ∀ m ∈ l, 0 ≤ m.co ∧ m.co ≤ 72057594037927935) : ∀ (t : Int × Int × Int × Int), (0 ≤ t.1 ∧ t.1 ≤ 72057594037927935) → 0 ≤ (l.foldl ckStep t).1 ∧ (l.foldl ckStep t).1 ≤ 72057594037927935 := by
  induction l with
  | nil => intro t h; exact h
  | cons m l ih =>
    intro t h
    rw [List.foldl_cons]
    refine ih (fun x hx => hl x (by simp [hx])) _ ?_
    unfold ckStep
    split
    · exact hl m (by simp)
    · exact h
/-- The check of the choice is written anew. -/
theorem ck_store {W : World} {g : Nat} {r : Bool} {a b c d : Int} {ea : Option Addr} {n cap : Nat} (h : Blk W g (crow r a b c d ea n cap)) (a' b' c' : Int) :
    ∃ W', (Instr.storeAt 27 (.pointer (some ⟨g, 1, none⟩)) (.agg (mrow a' b' c'))).run Tryd.prog W = .ok () W' ∧ Blk W' g (crow r a' b' c' d ea n cap) ∧ Turned (fun q => q = g) W W' := by
  refine ⟨W.setCells g 1 (mrow a' b' c').toList, run_storeAt_mid W g 1 27 (mrow a' b' c') (fun i hi => ?_) (by kernel_rfl) (by simp [mrow, Value.oneCell']), ?_, Turned.setCells (X := fun q => q = g) g rfl _ _ _⟩
  · have hi' : i < 3 := hi
    obtain ⟨v, hv⟩ : ∃ v, (crow r a b c d ea n cap)[1 + i]? = some v := by
      match i, hi' with
      | 0, _ => exact ⟨_, rfl⟩
      | 1, _ => exact ⟨_, rfl⟩
      | 2, _ => exact ⟨_, rfl⟩
    have := h.2 (1 + i) v hv
    exact ⟨by rw [this.1]; rfl, this.2⟩
  · exact ((h.set_ 1 (.int .i64 a')).set_ 2 (.int .i64 b')).set_ 3 (.int .u64 c')
theorem cm_store {W : World} {g : Nat} {r : Bool} {a b c d : Int} {ea : Option Addr} {n cap : Nat} (h : Blk W g (crow r a b c d ea n cap)) (d' : Int) :
    ∃ W', (Instr.storeAt 3 (.pointer (some ⟨g, 4, none⟩)) (.int .i64 d')).run Tryd.prog W = .ok () W' ∧ Blk W' g (crow r a b c d' ea n cap) ∧ Turned (fun q => q = g) W W' := by
  have h1 := (h.2 4 _ rfl).1
  have h2 := (h.2 4 _ rfl).2
  exact ⟨W.setCell ⟨g, 4, none⟩ (.int .i64 d'), by simp [go_sem, h1, h2], h.set_ 4 (.int .i64 d'), Turned.setCell _ _ rfl⟩
theorem es_store {W : World} {g : Nat} {r : Bool} {a b c d : Int} {ea : Option Addr} {n cap : Nat} (h : Blk W g (crow r a b c d ea n cap)) (ea' : Option Addr) (n' cap' : Nat) :
    ∃ W', (Instr.storeAt 28 (.pointer (some ⟨g, 5, none⟩)) (.slice ea' n' cap')).run Tryd.prog W = .ok () W' ∧ Blk W' g (crow r a b c d ea' n' cap') ∧ Turned (fun q => q = g) W W' := by
  have h1 := (h.2 5 _ rfl).1
  have h2 := (h.2 5 _ rfl).2
  exact ⟨W.setCell ⟨g, 5, none⟩ (.slice ea' n' cap'), by simp [go_sem, h1, h2], h.set_ 5 (.slice ea' n' cap'), Turned.setCell _ _ rfl⟩
theorem crow_one (r : Bool) (a b c d : Int) (ea : Option Addr) (n cap : Nat) : ((crow r a b c d ea n cap).all (·.oneCell')) = true := by simp [crow, Value.oneCell']
theorem mrow_one (a b c : Int) : ((mrow a b c).all (·.oneCell')) = true := by simp [mrow, Value.oneCell']
theorem ck_load {W : World} {g : Nat} {r : Bool} {a b c d : Int} {ea : Option Addr} {n cap : Nat} (h : Blk W g (crow r a b c d ea n cap)) : (Instr.loadAt 27 (.pointer (some ⟨g, 1, none⟩))).run Tryd.prog W = .ok (.agg (mrow a b c)) W :=
  load_at (cs := mrow a b c) (o := 1) 27 _ (h.midrange 1 _ (fun k hk => by match k, hk with | 0, _ => rfl | 1, _ => rfl | 2, _ => rfl)) Tryd.underlying27 rfl (by kernel_rfl)
theorem m_ck_load {m : Mst} {W : World} {b off : Nat} (h : W.rangeAt b off m.row.toList) : (Instr.loadAt 27 (.pointer (some ⟨b, off + 12, none⟩))).run Tryd.prog W = .ok (.agg (mrow m.co m.cv m.cs)) W :=
  load_at (cs := mrow m.co m.cv m.cs) (o := off + 12) 27 _ (fun k v hv => by
    have hk : k < 3 := (List.getElem?_eq_some_iff.1 hv).1
    have := h (12 + k) v (by match k, hk, hv with | 0, _, hv => exact hv | 1, _, hv => exact hv | 2, _, hv => exact hv)
    rw [← Nat.add_assoc] at this
    exact this) Tryd.underlying27 rfl (by kernel_rfl)
theorem c_load {W : World} {g : Nat} {r : Bool} {a b c d : Int} {ea : Option Addr} {n cap : Nat} (h : Blk W g (crow r a b c d ea n cap)) : (Instr.loadAt 30 (.pointer (some ⟨g, 0, none⟩))).run Tryd.prog W = .ok (.agg (crow r a b c d ea n cap)) W := load_at 30 _ h.range Tryd.underlying30 rfl (by kernel_rfl)
theorem results_choose {tmps : Array Value} {w : World} {g : Nat} {r : Bool} {a b c d : Int} {ea : Option Addr} {n cap : Nat} (hp : tmps[4]?.getD undef = .pointer (some ⟨g, 0, none⟩)) (hB : Blk w g (crow r a b c d ea n cap)) :
    (results Tryd.f10 tmps).run Tryd.prog w = .ok (.agg (crow r a b c d ea n cap)) w := by
  have hl := run_loadVar_mid (P := Tryd.prog) w g 0 30 (crow r a b c d ea n cap).toList _ hB.range Tryd.underlying30 rfl (by kernel_rfl)
  rw [show results Tryd.f10 tmps = (do return (← loadVar 30 (← asAddr (tmps[4]?.getD undef)))) from by simp [results], hp]
  simp [asAddr, hl]
def lenAt (w : World) (g : Nat) : Nat := match w.cell? ⟨g, 5, none⟩ with | some (.slice _ n _) => n | _ => 0
theorem lenAt_of {W : World} {g : Nat} {r : Bool} {a b c d : Int} {ea : Option Addr} {n cap : Nat} (h : Blk W g (crow r a b c d ea n cap)) : lenAt W g = n := by
  unfold lenAt
  rw [show W.cell? ⟨g, 5, none⟩ = some (.slice ea n cap) from (h.2 5 _ rfl).1]
end Go.Proofs.YtpbjjmenkoigjaaDoor
end

section
namespace Go.Proofs.YtpbjjmenkoigjaaDoor
open Go.RowKit
set_option linter.unusedVariables false
def CPost (w : World) (c : Cst) (e : Ending) (w' : World) : Prop := (∃ ea cap, e = .returned (.agg (crow c.r c.co c.cv c.cs c.cm ea c.es.length cap)) ∧ RowsAt 9 w' ea (c.es.map Est.row) ∧ c.es.length ≤ cap) ∧ Below w.heap.size w w'
theorem cpost_zero {w w9 : World} {c : Cst} (hc : c = Cst.zero) (hb : Below w.heap.size w w9) : CPost w c (.returned (.agg (crow false 0 0 0 0 none 0 0))) w9 := by
  subst hc
  exact ⟨⟨none, 0, rfl, RowsAt.nil _ _ _, Nat.le_refl _⟩, hb⟩
theorem cpost_of {Y : Nat → Prop} {w w9 : World} {c : Cst} {E : List Est} {t1 t2 t3 t4 : Int} {ea : Option Addr} {n cap : Nat} (hc : c = ⟨true, t1, t2, t3, t4, E⟩) (hn : n = E.length) (hO : OwnC Y w9 (.slice ea n cap) n 9 (rcells (E.map Est.row))) (hb : Below w.heap.size w w9) :
    CPost w c (.returned (.agg (crow true t1 t2 t3 t4 ea n cap))) w9 := by
  subst hc hn
  rw [← List.length_map (f := Est.row)] at hO
  have := hO.rowsAt (fun y hy => by obtain ⟨m, _, rfl⟩ := List.mem_map.1 hy; rfl)
  rw [List.length_map] at this
  exact ⟨⟨ea, cap, rfl, this.1, this.2⟩, hb⟩
theorem refillT {w : World} {b : Nat} {cs0 cs : Array Value} (t : TypeId) (hB : Blk w b cs0) (hs : cs0.size = cs.size) (hi : (Tryd.prog.info? t).map (·.size) = some cs.size) (h1 : cs.all (·.oneCell') = true) :
    ∃ w', (Instr.storeAt t (.pointer (some ⟨b, 0, none⟩)) (.agg cs)).run Tryd.prog w = .ok () w' ∧ Blk w' b cs ∧ Turned (fun q => q = b) w w' :=
  ⟨_, store_at t hB hs hi h1 rfl, hB.stored hs, Turned.setCells (X := fun q => q = b) b rfl _ _ _⟩
theorem wpList_max3 {P : Program} {ops : Array Oper} {rest : List Oper} {op : Oper} {a : Act} {w : World} {Q : Exit → Act → World → Prop} (ats : Array TypeId) (x y z : Operand) (hgd : op.guard = none)
    (ho : op.op = .call { callee := .builtin .max, args := #[x, y, z], argTypes := ats }) {p q r : Int} (hx : a.eval x = .int .i64 p) (hy : a.eval y = .int .i64 q) (hz : a.eval z = .int .i64 r)
    (h : wpList P ops Q rest (a.put op.dst (.int .i64 (max p (max q r)))) w) : wpList P ops Q (op :: rest) a w := by
  refine wpList_plain hgd fun K hK => ?_
  unfold Oper.wp
  have e : (if r > (if q > p then q else p) then r else (if q > p then q else p)) = max p (max q r) := by
    rw [Int.max_def, Int.max_def]
    repeat' split
    all_goals omega
  have hrun := run_max_int3 (P := P) w ats op.type .i64 .i64 .i64 p q r
  rw [e] at hrun
  simp only [execOp, ho, resolve, invoke, builtin, Sem.run_bind, Sem.run_pure, Result.andThen_ok, List.map_toArray, List.map_cons, List.map_nil, hx, hy, hz, hrun]
  exact hK _ _ h
def CI (w2 wr : World) (row : Array Value) : Prop := Below w2.heap.size w2 wr ∧ Blk wr w2.heap.size row
theorem CI.later {w2 wr w' : World} {row : Array Value} (h : CI w2 wr row) (hb : Below wr.heap.size wr w') : CI w2 w' row := ⟨h.1.trans (hb.mono h.1.size), h.2.later hb⟩
def LS (Y : Nat → Prop) (w2 : World) (row : Array Value) (gm : Nat) (mr : Array Value) (v : Value) (n : Nat) (cs : List Value) (X : World) : Prop := CI w2 X row ∧ Blk X gm mr ∧ OwnC Y X v n 9 cs
theorem LS.later {Y : Nat → Prop} {w2 : World} {row : Array Value} {gm : Nat} {mr : Array Value} {v : Value} {n : Nat} {cs : List Value} {X X' : World} (h : LS Y w2 row gm mr v n cs X) (hb : Below X.heap.size X X') : LS Y w2 row gm mr v n cs X' := ⟨h.1.later hb, h.2.1.later hb, h.2.2.later hb⟩
theorem OwnC.capped {Y : Nat → Prop} {w : World} {v : Value} {n size : Nat} {cs : List Value} (h : OwnC Y w v n size cs) : OwnC (fun q => Y q ∧ q < w.heap.size) w v n size cs := by
  obtain ⟨h1, h2⟩ := h
  refine ⟨h1, ?_⟩
  rcases h2 with h | ⟨b, off, cap, hv, hb, hlt, r⟩
  · exact .inl h
  · exact .inr ⟨b, off, cap, hv, ⟨hb, hlt⟩, hlt, r⟩
def finish (t : Int × Int × Int × Int) : Option (List Est) → Cst
  | none => Cst.zero
  | some E => ⟨true, t.1, t.2.1, t.2.2.1, t.2.2.2, E⟩
theorem chooseL_go {C : Int} {l : List Mst} {m0 : Mst} (h : l[0]? = some m0) (hgo : ¬ (decide ((l.length : Int) = C) = false ∧ (l.any dirtyB = true ∨ (l.length : Int) < Quo.enough C))) :
    chooseL C l = finish (topCk l m0) (runC l (decide ((l.length : Int) = C)) 8 (topCk l m0).1 (topCk l m0).2.1 (topCk l m0).2.2.1 []) := by
  unfold chooseL
  rw [if_neg hgo]
  cases l with
  | nil => simp at h
  | cons a l' =>
    simp at h
    subst h
    simp only
    generalize runC _ _ _ _ _ _ _ = r
    cases r <;> rfl
theorem chooseL_stop {C : Int} {l : List Mst} (hgo : decide ((l.length : Int) = C) = false ∧ (l.any dirtyB = true ∨ (l.length : Int) < Quo.enough C)) : chooseL C l = Cst.zero := if_pos hgo
set_option maxRecDepth 100000 in
set_option maxHeartbeats 40000000 in
theorem choose_no (C : Int) (ad : Option Addr) (cap : Nat) (L : List Mst) (w : World) (hl : LogsAt w ad cap L) (hg : Gl w) (hC : ¬ (C = 3 ∨ C = 5)) :
    Calls Tryd.prog 10 #[.int .i64 C, .slice ad L.length cap] w fun e w' => CPost w (chooseV C L) e w' := by
  have H0 : Hid (Below w.heap.size w (w.alloc (.cells (crow false 0 0 0 0 none 0 0) 30)) ∧ Blk (w.alloc (.cells (crow false 0 0 0 0 none 0 0) 30)) w.heap.size (crow false 0 0 0 0 none 0 0)) := Lib.hid ⟨(Below.refl _ _).alloc (Nat.le_refl _) _, Blk.new _ _ _ _ rfl⟩
  have HZ : Hid (chooseV C L = Cst.zero) := Lib.hid (if_neg hC)
  have h3 : (C == 3) = false := beq_eq_false_iff_ne.2 (fun h => hC (.inl h))
  have h5 : (C == 5) = false := beq_eq_false_iff_ne.2 (fun h => hC (.inr h))
  clear hC hl hg
  generalize L.length = N at *
  go_enter Tryd.func10, Tryd.ntmps10
  go_wp2_with fail
  refine (may_no _ _ h3 h5).mono ?_
  rintro e w9 ⟨rfl, rfl⟩
  obtain ⟨W9, st9, hB9, hT9⟩ := refillT (cs := crow false 0 0 0 0 none 0 0) 30 H0.out.2 rfl (by kernel_rfl) (crow_one _ _ _ _ _ _ _ _)
  have st9 := Lib.hid st9
  have HB9 := Lib.hid hB9
  have HBE9 : Hid (Below w.heap.size w W9) := Lib.hid (H0.out.1.trans (hT9.below (fun q hq => by omega) H0.out.1.size))
  clear hB9 hT9
  go_wp2_with (first | (guard_target =~ wpList _ _ _ (⟨_, Op.store _ (Operand.tmp 4) (Operand.tmp 18), _, _, _, _⟩ :: _) _ _; refine wpList_store_eq 30 (Operand.tmp 4) (Operand.tmp 18) rfl rfl st9.out rfl rfl ?_))
  exact bodyPost_ret (results_choose rfl HB9.out) rfl (cpost_zero HZ.out HBE9.out)

end Go.Proofs.YtpbjjmenkoigjaaDoor
end

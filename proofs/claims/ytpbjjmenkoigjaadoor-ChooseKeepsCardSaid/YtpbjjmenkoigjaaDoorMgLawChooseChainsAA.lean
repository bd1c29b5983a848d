/- What Choose answers is a chain that the logs hold: the plain law. What a log says of an operation, of the reference. The walk of ChooseChains. -/
import Derived.Test.YtpbjjmenkoigjaaDoorMgLawChooseTurnsAL
import Derived.Test.YtpbjjmenkoigjaaDoorMgLawChooseWaitsAE
import Derived.Test.YtpbjjmenkoigjaaDoorMgLawChooseTurnsAC
import Derived.Test.YtpbjjmenkoigjaaDoorMgLawChooseTurnsAH
import Derived.Test.YtpbjjmenkoigjaaDoorMgLawChooseWaitsAG
import Derived.Test.YtpbjjmenkoigjaaDoorMgLawChooseTurnsAO
section
namespace Go.Proofs.YtpbjjmenkoigjaaDoor
open Go.RowKit
set_option linter.unusedVariables false
def Est.fol (e : Est) (o v s : Int) : Bool := folB o v s e.v e.o e.u e.p e.c e.s e.r e.k e.b
/-- The mark behind so many entries. -/
def markAt (M : Int × Int × Int) (es : List Est) (j : Nat) : Int × Int × Int := (es.take j).foldl (fun _ e => (e.mo, e.mv, e.sum)) M
theorem markAt_zero (M : Int × Int × Int) (es : List Est) : markAt M es 0 = M := rfl
theorem markAt_succ {M : Int × Int × Int} {es : List Est} {j : Nat} {e : Est} (h : es[j]? = some e) : markAt M es (j + 1) = (e.mo, e.mv, e.sum) := by
  unfold markAt
  rw [take_snoc h, List.foldl_append]
  rfl
/-- An entry is held by one of the logs. -/
def heldBy (l : List Mst) (e : Est) (n : Int) : Prop := ∃ m ∈ l, (m.says n).k = 1 ∧ (m.says n).e = e
/-- A chain behind a mark that the logs hold. -/
def Chn (l : List Mst) (M : Int × Int × Int) (es : List Est) : Prop :=
  ∀ (j : Nat) (e : Est), es[j]? = some e → e.fol (markAt M es j).1 (markAt M es j).2.1 (markAt M es j).2.2 = true ∧ heldBy l e e.mo
theorem says_item {m : Mst} (h : m.is.all itemB = true) (n : Int) : itemB (m.says n) = true := by
  unfold Mst.says
  split
  · cases hx : m.is[(n - 1 - m.co).toNat]? with
    | none => decide
    | some x => exact List.all_eq_true.1 h x (List.mem_of_getElem? hx)
  · decide
theorem held_some {l : List Mst} {n : Int} {s : Sst} {e : Est} (h : held l n s = some e) : ∃ m ∈ l, (m.says n).k = 1 ∧ (m.says n).s = s ∧ (m.says n).e = e := by
  unfold held at h
  cases hf : l.find? (hasIt n s) with
  | none => rw [hf] at h; cases h
  | some m =>
    rw [hf] at h
    have h1 := List.find?_some hf
    unfold hasIt at h1
    have h2 : (m.says n).k = 1 ∧ (m.says n).s = s := by simpa using h1
    exact ⟨m, List.mem_of_find?_eq_some hf, h2.1, h2.2, by simpa using h⟩
theorem item_holds {x : Ist} (h : itemB x = true) (hk : x.k = 1) : x.e.B = true ∧ stubV x.e = x.s := by
  unfold itemB at h
  rw [if_neg (by omega), if_pos hk, Bool.and_eq_true, decide_eq_true_iff] at h
  exact h
theorem B_mo {e : Est} (h : e.B = true) : e.mo = e.o := if_pos h
/-- One step of the run. -/
theorem run_step {l : List Mst} (hl : ∀ m ∈ l, m.is.all itemB = true) {o v s : Int} {e : Est} (hb : ¬ badStub (told l (o + 1)) o v s) (hh : held l (o + 1) (told l (o + 1)).2.1 = some e) :
    e.fol o v s = true ∧ heldBy l e e.mo := by
  obtain ⟨m, hm, hk, hs, he⟩ := held_some hh
  obtain ⟨hB, hst⟩ := item_holds (says_item (hl m hm) (o + 1)) hk
  rw [he] at hB hst
  rw [hs] at hst
  unfold badStub at hb
  have h1 : (told l (o + 1)).2.1.o = o + 1 := Decidable.byContradiction fun q => hb (.inr (.inl q))
  have h2 : (told l (o + 1)).2.1.u = v := Decidable.byContradiction fun q => hb (.inr (.inr (.inl q)))
  have h3 : (told l (o + 1)).2.1.p = s := Decidable.byContradiction fun q => hb (.inr (.inr (.inr q)))
  rw [← hst] at h1 h2 h3
  unfold stubV at h1 h2 h3
  rw [if_pos hB] at h1 h2 h3
  have ho : e.o = o + 1 := h1
  refine ⟨folB_yes _ _ _ _ _ _ _ _ _ _ _ _ hB ⟨by omega, h2, h3⟩, m, hm, ?_⟩
  rw [B_mo hB, ho]
  exact ⟨hk, he⟩
theorem run_chn {l : List Mst} {wh : Bool} (hl : ∀ m ∈ l, m.is.all itemB = true) (M : Int × Int × Int) : ∀ (f : Nat) (o v s : Int) (E E' : List Est), Chn l M E → markAt M E E.length = (o, v, s) → runC l wh f o v s E = some E' → Chn l M E'
  | 0, o, v, s, E, E', hc, _, h => by
    have h : some E = some E' := h
    injection h with h
    exact h ▸ hc
  | f + 1, o, v, s, E, E', hc, hM, h => by
    rw [show runC l wh (f + 1) o v s E = (if badStub (told l (o + 1)) o v s then some E else match held l (o + 1) (told l (o + 1)).2.1 with
      | none => if wh = true then some E else none
      | some e => runC l wh f e.mo e.mv e.sum (E ++ [e])) from rfl] at h
    split at h
    · injection h with h; exact h ▸ hc
    · next hb =>
      split at h
      · split at h
        · injection h with h; exact h ▸ hc
        · cases h
      · next e he =>
        have hst := run_step hl hb he
        have hlast : (E ++ [e])[E.length]? = some e := by simp
        refine run_chn hl M f e.mo e.mv e.sum (E ++ [e]) E' (fun j x hj => ?_) ?_ h
        · have hmk : ∀ j, j ≤ E.length → markAt M (E ++ [e]) j = markAt M E j := fun j hj => by unfold markAt; rw [List.take_append_of_le_length hj]
          by_cases hjl : j < E.length
          · rw [List.getElem?_append_left hjl] at hj
            rw [hmk j (by omega)]
            exact hc j x hj
          · have hjl' : j < (E ++ [e]).length := (List.getElem?_eq_some_iff.1 hj).1
            have hje : j = E.length := by simp at hjl'; omega
            subst hje
            rw [hlast] at hj
            injection hj with hj
            subst hj
            rw [hmk _ (Nat.le_refl _), hM]
            exact hst
        · rw [List.length_append, show E.length + [e].length = E.length + 1 from rfl, markAt_succ hlast]
theorem chn_nil (l : List Mst) (M : Int × Int × Int) : Chn l M [] := fun j e h => by simp at h
theorem ck_le {l : List Mst} : ∀ (t : Int × Int × Int × Int), t.1 ≤ t.2.2.2 ∨ (∃ m ∈ l, m.co = t.1) → (l.foldl ckStep t).1 ≤ (l.foldl ckStep t).2.2.2 := by
  induction l with
  | nil => intro t h; rcases h with h | ⟨m, hm, _⟩; exact h; cases hm
  | cons m l ih =>
    intro t h
    rw [List.foldl_cons]
    refine ih _ ?_
    unfold ckStep
    split
    · left; show m.co ≤ max t.2.2.2 (max m.cm m.co); omega
    · rcases h with h | ⟨x, hx, hx2⟩
      · left; show t.1 ≤ max t.2.2.2 (max m.cm m.co); omega
      · rcases List.mem_cons.1 hx with rfl | hx
        · left; show t.1 ≤ max t.2.2.2 (max x.cm x.co); omega
        · right; exact ⟨x, hx, hx2⟩
theorem countsL_items {L : List Mst} {n : Nat} : ∀ m ∈ countsL n L, m.is.all itemB = true := fun m hm => by
  have := countsL_mem hm
  exact ((rightB_iff m this.2.1).1 this.2.2).2.2.2.2.2.2.2.2
/-- WHAT IS CHOSEN: a chain behind the checkpoint that the logs hold; nothing, if it is not ready. -/
theorem chooseV_chain (C : Int) (L : List Mst) : ((chooseV C L).r = false → chooseV C L = Cst.zero) ∧ ((chooseV C L).r = true → (C = 3 ∨ C = 5) ∧ (chooseV C L).co ≤ (chooseV C L).cm ∧ Chn (countsL C.toNat L) ((chooseV C L).co, (chooseV C L).cv, (chooseV C L).cs) (chooseV C L).es) := by
  unfold chooseV
  split
  · next hC =>
    have hit := countsL_items (L := L) (n := C.toNat)
    generalize countsL C.toNat L = l at *
    unfold chooseL
    split
    · exact ⟨fun _ => rfl, fun h => by cases h⟩
    · split
      · exact ⟨fun _ => rfl, fun h => by cases h⟩
      · next m0 l' _ =>
        split
        · exact ⟨fun _ => rfl, fun h => by cases h⟩
        · next E hE =>
          refine ⟨fun h => (by cases h), fun _ => ⟨hC, ?_⟩⟩
          refine ⟨?_, ?_⟩
          · exact ck_le (l := m0 :: l') (m0.co, m0.cv, m0.cs, 0) (.inr ⟨m0, by simp, rfl⟩)
          · exact run_chn hit _ 8 _ _ _ [] E (chn_nil _ _) rfl hE
  · exact ⟨fun _ => rfl, fun h => by cases h⟩
end Go.Proofs.YtpbjjmenkoigjaaDoor
end

section
namespace Go.Proofs.YtpbjjmenkoigjaaDoor
open Go.RowKit
set_option linter.unusedVariables false
theorem results_says18 {tmps : Array Value} {w : World} {g : Nat} {x : Ist} (hp : tmps[4]?.getD undef = .pointer (some ⟨g, 0, none⟩)) (hB : Blk w g x.row) :
    (results Tryd.f14 tmps).run Tryd.prog w = .ok (.agg x.row) w := by
  have hl := run_loadVar_mid (P := Tryd.prog) w g 0 40 x.row.toList _ hB.range Tryd.underlying40 rfl (by kernel_rfl)
  rw [show results Tryd.f14 tmps = (do return (← loadVar 40 (← asAddr (tmps[4]?.getD undef)))) from by simp [results], hp]
  simp [asAddr, hl]
theorem says_at {m : Mst} {n : Int} {j : Nat} {x : Ist} (hj : n = m.co + 1 + (j : Int)) (hx : m.is[j]? = some x) : m.says n = x := by
  unfold Mst.says
  rw [if_pos (by omega), show (n - 1 - m.co).toNat = j by omega, hx]
  rfl
theorem says_out {m : Mst} {n : Int} (h8 : m.is.length = 8) (hn : ∀ j : Nat, j < 8 → n ≠ m.co + 1 + (j : Int)) : m.says n = Ist.zero := by
  unfold Mst.says
  split
  · next h =>
    have : ¬ (n - 1 - m.co).toNat < 8 := fun q => hn _ q (by omega)
    rw [List.getElem?_eq_none (by omega)]
    rfl
  · rfl
set_option maxRecDepth 100000 in
set_option maxHeartbeats 20000000 in
theorem says18_any (m : Mst) (n : Int) (w : World) (hin : m.In w) (h8 : m.is.length = 8) (hco : 0 ≤ m.co ∧ m.co ≤ 72057594037927935) : Calls Tryd.prog 14 #[.agg m.row, .int .i64 n] w fun e w' => e = .returned (.agg (m.says n).row) ∧ Below w.heap.size w w' := by
  have H0 : Hid (Below w.heap.size w ((w.alloc (.cells m.row 45)).alloc (.cells #[.int .i64 0, .int .i64 0, .int .i64 0, .int .i64 0, .int .u64 0, .int .u64 0, .int .i64 0, .int .i64 0, .int .i64 0, .int .u64 0, .int .i64 0, .int .i64 0, .int .i64 0, .int .i64 0, .string ⟨#[]⟩] 40)) ∧ Blk ((w.alloc (.cells m.row 45)).alloc (.cells #[.int .i64 0, .int .i64 0, .int .i64 0, .int .i64 0, .int .u64 0, .int .u64 0, .int .i64 0, .int .i64 0, .int .i64 0, .int .u64 0, .int .i64 0, .int .i64 0, .int .i64 0, .int .i64 0, .string ⟨#[]⟩] 40)) w.heap.size m.row ∧ Blk ((w.alloc (.cells m.row 45)).alloc (.cells #[.int .i64 0, .int .i64 0, .int .i64 0, .int .i64 0, .int .u64 0, .int .u64 0, .int .i64 0, .int .i64 0, .int .i64 0, .int .u64 0, .int .i64 0, .int .i64 0, .int .i64 0, .int .i64 0, .string ⟨#[]⟩] 40)) (w.heap.size + 1) #[.int .i64 0, .int .i64 0, .int .i64 0, .int .i64 0, .int .u64 0, .int .u64 0, .int .i64 0, .int .i64 0, .int .i64 0, .int .u64 0, .int .i64 0, .int .i64 0, .int .i64 0, .int .i64 0, .string ⟨#[]⟩]) := Lib.hid ⟨((Below.refl _ _).alloc (Nat.le_refl _) _).alloc (by simp) _, Blk.alloc (Blk.new _ _ _ _ rfl) _, Blk.new _ _ _ _ (by simp)⟩
  have HIN := Lib.hid (hin.below H0.out.1 (Nat.le_refl _))
  have H8 := Lib.hid h8
  have hic : 8 ≤ m.ic := by have := hin.ic; omega
  clear hin h8
  go_enter Tryd.func14, Tryd.ntmps14
  go_wp2_with fail
  generalize (w.alloc (.cells m.row 45)).alloc (.cells #[.int .i64 0, .int .i64 0, .int .i64 0, .int .i64 0, .int .u64 0, .int .u64 0, .int .i64 0, .int .i64 0, .int .i64 0, .int .u64 0, .int .i64 0, .int .i64 0, .int .i64 0, .int .i64 0, .string ⟨#[]⟩] 40) = W0 at *
  go_loopw [5] (fun iv wr => ∃ j : Nat, j ≤ 8 ∧ iv = .int .i64 (j : Int) ∧ (∀ i : Nat, i < j → n ≠ m.co + 1 + (i : Int)) ∧ wr = W0) (fun iv _ => 8 - (intOf iv).toNat)
  case atStart => exact ⟨0, by omega, rfl, fun i h => absurd h (by omega), rfl⟩
  case round =>
    obtain ⟨j, hj, rfl, hno, rfl⟩ := hrel
    have HNO := Lib.hid hno
    clear hno
    have c12 : wr.cell? ⟨w.heap.size, 12, none⟩ = some (.int .i64 m.co) := (H0.out.2.1.2 12 _ rfl).1
    by_cases hlt : j < 8
    · by_cases hnj : n = m.co + 1 + (j : Int)
      · obtain ⟨x, hx⟩ : ∃ x, m.is[j]? = some x := ⟨m.is[j]'(by rw [H8.out]; exact hlt), List.getElem?_eq_getElem _⟩
        obtain ⟨b, off, had, hbl, hra⟩ := HIN.out.is.range (i := j) (x := x.row) (by rw [List.getElem?_map, hx]; rfl)
        have c31 : wr.cell? ⟨w.heap.size, 31, none⟩ = some (.slice (some ⟨b, off, none⟩) 8 m.ic) := by have := (H0.out.2.1.2 31 (.slice m.ia m.is.length m.ic) rfl).1; rwa [H8.out, had] at this
        have l1 := Lib.hid (load_at 40 _ hra Tryd.underlying40 rfl (by kernel_rfl))
        have HSY : Hid (m.says n = x) := Lib.hid (says_at hnj hx)
        obtain ⟨W2, st2, hz2, hB2, hbe2, hot2⟩ := refill (cs := x.row) 40 H0.out.2.2 rfl (by kernel_rfl) (Ist.row_one _)
        have st2 := Lib.hid st2
        have HF := Lib.hid (And.intro hB2 (H0.out.1.trans (hbe2 _ (by omega) H0.out.1.size)))
        have hnj' : m.co + 1 + (j : Int) = n := hnj.symm
        clear hra hx had hB2 hbe2 hot2 hz2 hnj
        go_wp2_with (first | (guard_target =~ wpList _ _ _ (⟨_, Op.load _ (Operand.tmp 21), _, _, _, _⟩ :: _) _ _; refine wpList_load_eq 40 (Operand.tmp 21) rfl rfl l1.out rfl ?_) | (guard_target =~ wpList _ _ _ (⟨_, Op.load _ (Operand.tmp 21), _, _, _, _⟩ :: _) _ _; refine wpList_load_w 40 (Operand.tmp 21) (by kernel_rfl) rfl l1.out rfl ?_) | (guard_target =~ wpList _ _ _ (⟨_, Op.store _ (Operand.tmp 4) (Operand.tmp 22), _, _, _, _⟩ :: _) _ _; refine wpList_store_eq 40 (Operand.tmp 4) (Operand.tmp 22) rfl rfl st2.out rfl rfl ?_))
        exact bodyPost_ret (results_says18 rfl HF.out.1) rfl ⟨by rw [HSY.out], HF.out.2⟩
      · have q1 : ¬ m.co + 1 + (j : Int) = n := fun h => hnj h.symm
        have q2 : (m.co + 1 + (j : Int) == n) = false := beq_eq_false_iff_ne.2 q1
        go_wp2_with fail
        go_roundw
        case rel => exact ⟨j + 1, by omega, by go_num, fun i hi => by rcases Nat.lt_succ_iff_lt_or_eq.1 hi with q | q; exact HNO.out i q; rw [q]; exact hnj, by first | trivial | rfl⟩
        case measure => simp [intOf]; omega
    · obtain rfl : j = 8 := by omega
      have HSY : Hid (m.says n = Ist.zero) := Lib.hid (says_out H8.out HNO.out)
      obtain ⟨W2, st2, hz2, hB2, hbe2, hot2⟩ := refill (cs := Ist.zero.row) 40 H0.out.2.2 rfl (by kernel_rfl) (Ist.row_one _)
      have st2 := Lib.hid st2
      have HF := Lib.hid (And.intro hB2 (H0.out.1.trans (hbe2 _ (by omega) H0.out.1.size)))
      clear hB2 hbe2 hot2 hz2
      go_wp2_with (first | (guard_target =~ wpList _ _ _ (⟨_, Op.store _ (Operand.tmp 4) (Operand.tmp 23), _, _, _, _⟩ :: _) _ _; refine wpList_store_eq 40 (Operand.tmp 4) (Operand.tmp 23) rfl rfl st2.out rfl rfl ?_))
      exact bodyPost_ret (results_says18 rfl HF.out.1) rfl ⟨by rw [HSY.out], HF.out.2⟩
end Go.Proofs.YtpbjjmenkoigjaaDoor
end

section
namespace Go.Proofs.YtpbjjmenkoigjaaDoor
open Go.RowKit
set_option linter.unusedVariables false
/-- In the loops of ChooseChains: the world since w6, whose next block is the mark's. -/
structure CnI (w6 W : World) (M : Array Value) : Prop where
  below : Below w6.heap.size w6 W
  mkb : Blk W w6.heap.size M
theorem CnI.later {w6 W W' : World} {M : Array Value} (h : CnI w6 W M) (hb : Below W.heap.size W W') : CnI w6 W' M := ⟨h.below.trans (hb.mono h.below.size), h.mkb.later hb⟩
def hasE (x : Est) (m : Mst) : Bool := decide ((m.says x.mo).k = 1) && decide ((m.says x.mo).e = x)
theorem heldBy_any {l : List Mst} {x : Est} (h : heldBy l x x.mo) : l.any (hasE x) = true := by
  obtain ⟨m, hm, hk, he⟩ := h
  rw [List.any_eq_true]
  exact ⟨m, hm, by unfold hasE; rw [decide_eq_true hk, decide_eq_true he]; rfl⟩
theorem heldBy_ok {l : List Mst} {w : World} {x : Est} {n : Int} (h : heldBy l x n) (hin : ∀ m ∈ l, m.In w) : x.Ok := by
  obtain ⟨m, hm, _, he⟩ := h
  rw [← he]
  exact (says_ok (hin m hm) n).2
set_option maxRecDepth 100000 in
set_option maxHeartbeats 40000000 in
theorem chains_walk (C : Int) (ad : Option Addr) (cap : Nat) (L : List Mst) (w : World) (hr : RowsAt 33 w ad (L.map Mst.row)) (hcap : L.length ≤ cap) (hin : ∀ m ∈ L, m.In w) (hg : Gl w) :
    Calls Tryd.prog 3 #[.int .i64 C, .slice ad L.length cap] w fun e w' => e = .returned (.bool true) ∧ Below w.heap.size w w' := by
  have HAW := Lib.hid (awake18_any w hg)
  have HGR := Lib.hid (fun W (hW : Below w.heap.size w W) => great_any ad cap L W (hr.later hW) (fun m hm => (hin m hm).later hW))
  have HR := Lib.hid hr
  have HIN := Lib.hid hin
  have HG := Lib.hid hg
  obtain ⟨N, hN⟩ : ∃ N, N = L.length := ⟨_, rfl⟩
  have HN := Lib.hid hN
  rw [← hN] at hcap ⊢
  simp only [← hN] at HGR
  clear hr hin hg hN
  go_enter Tryd.func3, Tryd.ntmps3
  go_wp2_with fail
  refine HAW.out.mono ?_
  rintro e w1 ⟨rfl, hb1⟩
  have HB1 := Lib.hid hb1
  go_wp2_with fail
  refine (HGR.out _ hb1).mono ?_
  rintro e w1' ⟨⟨v, rfl, hv⟩, rfl⟩
  cases v
  rotate_left
  · go_wp2_with fail
    go_ret
    exact ⟨rfl, HB1.out⟩
  have h12 : L.length ≤ 12 := hv rfl
  have HLA := Lib.hid (fun W (hW : Below w.heap.size w W) => (⟨HR.out.later hW, by rw [← HN.out]; exact hcap, by omega, fun m hm => (HIN.out m hm).later hW⟩ : LogsAt W ad cap L))
  have HLG := Lib.hid (fun W hW => logs_any C ad cap L W (HLA.out W hW))
  have HCH := Lib.hid (choose_any C ad cap L w1 (HLA.out w1 HB1.out) (HG.out.later HB1.out))
  simp only [← HN.out] at HLG HCH
  have HCV := Lib.hid (chooseV_chain C L)
  have h8 := chooseV_len C L
  clear hv hb1 HAW HGR h12
  generalize chooseV C L = cc at *
  go_wp2_with fail
  refine HCH.out.mono ?_
  rintro e w4 ⟨⟨ea, cp, rfl, hre, hce⟩, hb4⟩
  obtain ⟨n, hn⟩ : ∃ n, n = cc.es.length := ⟨_, rfl⟩
  rw [← hn] at h8 hce ⊢
  have HNn := Lib.hid hn
  obtain ⟨w5, st5, hW5, hB5, hz5⟩ := fresh w4 #[.bool false, .int .i64 0, .int .i64 0, .int .u64 0, .int .i64 0, .slice none 0 0] (crow cc.r cc.co cc.cv cc.cs cc.cm ea n cp) 30 rfl (by kernel_rfl) (crow_one _ _ _ _ _ _ _ _)
  obtain ⟨p5, hp5⟩ : ∃ p5, p5 = w4.heap.size := ⟨_, rfl⟩
  have HP5 : Hid (w.heap.size ≤ p5 ∧ p5 < w5.heap.size) := Lib.hid ⟨by rw [hp5]; exact Nat.le_trans HB1.out.size hb4.size, by rw [hp5]; exact hz5⟩
  have HB5 := Lib.hid ((HB1.out.trans (hb4.mono HB1.out.size)).trans (hW5.mono (HB1.out.trans (hb4.mono HB1.out.size)).size))
  have HC5 := Lib.hid (show Blk w5 p5 (crow cc.r cc.co cc.cv cc.cs cc.cm ea n cp) by rw [hp5]; exact hB5)
  have HRE := Lib.hid (hre.later hW5)
  have st5 := Lib.hid st5
  clear hW5 hB5 hz5 hb4 hre hn HCH HB1
  cases hr : cc.r
  · obtain rfl := HCV.out.1 hr
    have hn0 : n = 0 := HNn.out
    subst hn0
    have x0 : w5.cell? ⟨p5, 0, none⟩ = some (.bool false) := (HC5.out.2 0 _ rfl).1
    have x4 : w5.cell? ⟨p5, 4, none⟩ = some (.int .i64 0) := (HC5.out.2 4 _ rfl).1
    have x5 : w5.cell? ⟨p5, 5, none⟩ = some (.slice ea 0 cp) := (HC5.out.2 5 _ rfl).1
    have l1 := Lib.hid (ck_load HC5.out)
    have eM : EqFact 27 (mrow 0 0 0) (mrow 0 0 0) true := by have := eq_mark 0 0 0 0 0 0; rw [decide_eq_true ⟨rfl, rfl, rfl⟩] at this; exact this
    have eM := Lib.hid eM
    subst hp5
    go_wp2_with (first | (guard_target =~ wpList _ _ _ (⟨_, Op.store _ (Operand.tmp 5) (Operand.tmp 18), _, _, _, _⟩ :: _) _ _; refine wpList_store_eq 30 (Operand.tmp 5) (Operand.tmp 18) rfl rfl st5.out rfl rfl ?_) | (guard_target =~ wpList _ _ _ (⟨_, Op.load _ (Operand.tmp 32), _, _, _, _⟩ :: _) _ _; refine wpList_load_w 27 (Operand.tmp 32) (by kernel_rfl) rfl l1.out rfl ?_) | (guard_target =~ wpList _ _ _ (⟨_, Op.binOp _ _ (Operand.tmp 33) (Operand.tmp 34) _, _, _, _, _⟩ :: _) _ _; refine wpList_eql 27 _ (Operand.tmp 33) (Operand.tmp 34) (by kernel_rfl) rfl eM.out rfl rfl ?_))
    go_ret
    exact ⟨rfl, HB5.out⟩
  · obtain ⟨hC, hcm, hch⟩ := HCV.out.2 hr
    have HCC := Lib.hid hC
    have x0 : w5.cell? ⟨p5, 0, none⟩ = some (.bool true) := by have := (HC5.out.2 0 (.bool cc.r) rfl).1; rwa [hr] at this
    rw [← asked_C hC] at hch
    have HCHN := Lib.hid hch
    subst hp5
    rw [hr] at st5
    clear hC hch
    go_wp2_with (first | (guard_target =~ wpList _ _ _ (⟨_, Op.store _ (Operand.tmp 5) (Operand.tmp 18), _, _, _, _⟩ :: _) _ _; refine wpList_store_eq 30 (Operand.tmp 5) (Operand.tmp 18) rfl rfl st5.out rfl rfl ?_))
    generalize w4.heap.size = p5 at *
    clear x0 st5
    refine (HLG.out _ HB5.out).mono ?_
    rintro e w6 ⟨⟨ad2, cap2, rfl, hr2, hc2⟩, hb6⟩
    have HB6 := Lib.hid (HB5.out.trans (hb6.mono HB5.out.size))
    have HM := Lib.hid (fun m (hm : m ∈ countsL (asked C) L) => countsL_mem hm)
    have hk5 := Nat.le_trans (countsL_len L (asked C)) (asked_le C)
    generalize countsL (asked C) L = l at *
    obtain ⟨K, hK⟩ : ∃ K, K = l.length := ⟨_, rfl⟩
    have HK := Lib.hid hK
    rw [← hK] at hc2 hk5 ⊢
    have HR2 := Lib.hid hr2
    have HRE6 := Lib.hid (HRE.out.later hb6)
    have HC6 := Lib.hid (HC5.out.later hb6)
    have l40 := Lib.hid (ck_load HC6.out)
    obtain ⟨w7, st7, hW7, hB7, hz7⟩ := fresh w6 #[.int .i64 0, .int .i64 0, .int .u64 0] (mrow cc.co cc.cv cc.cs) 27 rfl (by kernel_rfl) (mrow_one _ _ _)
    have HS7 : Hid (CnI w6 w7 (mrow cc.co cc.cv cc.cs)) := Lib.hid ⟨hW7, hB7⟩
    have st7 := Lib.hid st7
    clear hW7 hB7 hz7 hb6 hr2 hK HLG HC5 HRE HB5
    go_wp2_with (first | (guard_target =~ wpList _ _ _ (⟨_, Op.load _ (Operand.tmp 40), _, _, _, _⟩ :: _) _ _; refine wpList_load_eq 27 (Operand.tmp 40) rfl rfl l40.out rfl ?_) | (guard_target =~ wpList _ _ _ (⟨_, Op.load _ (Operand.tmp 40), _, _, _, _⟩ :: _) _ _; refine wpList_load_w 27 (Operand.tmp 40) (by kernel_rfl) rfl l40.out rfl ?_) | (guard_target =~ wpList _ _ _ (⟨_, Op.store _ (Operand.tmp 7) (Operand.tmp 41), _, _, _, _⟩ :: _) _ _; refine wpList_store_eq 27 (Operand.tmp 7) (Operand.tmp 41) rfl rfl st7.out rfl rfl ?_))
    clear l40 st7
    have HC5 : Hid (∀ W, Below w6.heap.size w6 W → W.cell? ⟨p5, 5, none⟩ = some (.slice ea n cp) ∧ W.cell? ⟨p5, 4, none⟩ = some (.int .i64 cc.cm) ∧ W.cell? ⟨p5, 1, none⟩ = some (.int .i64 cc.co)) := Lib.hid (fun W hW => ⟨((HC6.out.later hW).2 5 _ rfl).1, ((HC6.out.later hW).2 4 _ rfl).1, ((HC6.out.later hW).2 1 _ rfl).1⟩)
    go_loopw [8] (fun iv wr => ∃ j : Nat, j ≤ n ∧ iv = .int .i64 (j : Int) ∧ CnI w6 wr (mrow (markAt (cc.co, cc.cv, cc.cs) cc.es j).1 (markAt (cc.co, cc.cv, cc.cs) cc.es j).2.1 (markAt (cc.co, cc.cv, cc.cs) cc.es j).2.2)) (fun iv _ => n - (intOf iv).toNat)
    case atStart => exact ⟨0, by omega, rfl, HS7.out⟩
    case round =>
      clear HS7
      obtain ⟨j, hj, rfl, hSr⟩ := hrel
      have HSR := Lib.hid hSr
      have c5 := (HC5.out _ hSr.below).1
      have c4 := (HC5.out _ hSr.below).2.1
      have c1 := (HC5.out _ hSr.below).2.2
      clear hSr
      by_cases hlt : j < n
      · have hltj : (j : Int) < (n : Int) := by omega
        obtain ⟨x, hx⟩ : ∃ x, cc.es[j]? = some x := ⟨cc.es[j]'(by rw [← HNn.out]; exact hlt), List.getElem?_eq_getElem _⟩
        obtain ⟨hfol, hheld⟩ := HCHN.out j x hx
        have HMS : Hid (markAt (cc.co, cc.cv, cc.cs) cc.es (j + 1) = (x.mo, x.mv, x.sum)) := Lib.hid (markAt_succ hx)
        have hxok : x.Ok := heldBy_ok hheld (fun m hm => (HIN.out m (HM.out m hm).1))
        have HANY := Lib.hid (heldBy_any hheld)
        generalize (markAt (cc.co, cc.cv, cc.cs) cc.es j).1 = o at *
        generalize (markAt (cc.co, cc.cv, cc.cs) cc.es j).2.1 = v at *
        generalize (markAt (cc.co, cc.cv, cc.cs) cc.es j).2.2 = s at *
        have HFO := Lib.hid (show folB o v s x.v x.o x.u x.p x.c x.s x.r x.k x.b = true from hfol)
        have HFOL := Lib.hid (fun W => follows_any o v s x.v x.o x.u x.p x.c x.s x.r x.k x.b hxok.1 W)
        have HMK := Lib.hid (fun W => markof_any x.v x.o x.u x.c x.s x.r x.k x.p x.b hxok.2 W)
        obtain ⟨b, off, had, hbl, hra⟩ := HRE6.out.range (i := j) (x := x.row) (by rw [List.getElem?_map, hx]; rfl)
        subst had
        have HLE : Hid (∀ W, Below w6.heap.size w6 W → (Instr.loadAt 35 (.pointer (some ⟨b, off + j * 9, none⟩))).run Tryd.prog W = .ok (.agg x.row) W) := Lib.hid (fun W hW => load_at 35 _ (rangeAt.later hra hbl hW) Tryd.underlying35 rfl (by kernel_rfl))
        clear hra hbl hx hfol hheld hxok c4 c1
        go_wp2_with fail
        clear c5
        refine wp_region_noPanic ?_
        refine wp_region_held_drew (S := fun W => CnI w6 W (mrow o v s)) (by kernel_rfl) (show CnI w6 wr.drew (mrow o v s) from HSR.out.later (Below.refl _ _).drew) (fun hS => ?_)
        generalize wr.drew = cw at *
        refine wpAnyH_take (i := 0) (oi := { dst := some 49, op := _, type := _, pos := _, after := _, guard := _ }) (v := .agg (mrow o v s)) rfl (by kernel_rfl) (by kernel_rfl) (by kernel_rfl) (fun _ _ _ h => h) (Or.inl ⟨by rfl, ?_⟩) hS ?_
        · intro W hSw
          have d5 : W.cell? ⟨p5, 5, none⟩ = some (.slice (some ⟨b, off, none⟩) n cp) := (HC5.out W hSw.below).1
          exact exec_load 27 (Operand.tmp 7) rfl rfl (mk_load hSw.mkb)
        try simp only [Act.put, List.setIfInBounds_toArray, List.set_cons_zero, List.set_cons_succ]
        refine wpAnyH_take (i := 1) (oi := { dst := some 50, op := _, type := _, pos := _, after := _, guard := _ }) (v := ?_) rfl (by kernel_rfl) (by kernel_rfl) (by kernel_rfl) (fun _ _ _ h => h) (Or.inl ⟨by rfl, ?_⟩) hS ?_
        rotate_left
        · intro W hSw
          have d5 : W.cell? ⟨p5, 5, none⟩ = some (.slice (some ⟨b, off, none⟩) n cp) := (HC5.out W hSw.below).1
          go_simp
          first | done | rfl
        try simp only [Act.put, List.setIfInBounds_toArray, List.set_cons_zero, List.set_cons_succ]
        refine wpAnyH_take (i := 3) (oi := { dst := some 52, op := _, type := _, pos := _, after := _, guard := _ }) (v := ?_) rfl (by kernel_rfl) (by kernel_rfl) (by kernel_rfl) (fun _ _ _ h => h) (Or.inl ⟨by rfl, ?_⟩) hS ?_
        rotate_left
        · intro W hSw
          have d5 : W.cell? ⟨p5, 5, none⟩ = some (.slice (some ⟨b, off, none⟩) n cp) := (HC5.out W hSw.below).1
          go_simp
          first | done | rfl
        try simp only [Act.put, List.setIfInBounds_toArray, List.set_cons_zero, List.set_cons_succ]
        refine wpAnyH_take (i := 2) (oi := { dst := some 51, op := _, type := _, pos := _, after := _, guard := _ }) (v := ?_) rfl (by kernel_rfl) (by kernel_rfl) (by kernel_rfl) (fun _ _ _ h => h) (Or.inl ⟨by rfl, ?_⟩) hS ?_
        rotate_left
        · intro W hSw
          have d5 : W.cell? ⟨p5, 5, none⟩ = some (.slice (some ⟨b, off, none⟩) n cp) := (HC5.out W hSw.below).1
          go_simp
          first | done | rfl
        try simp only [Act.put, List.setIfInBounds_toArray, List.set_cons_zero, List.set_cons_succ]
        refine wpAnyH_take (i := 4) (oi := { dst := some 53, op := _, type := _, pos := _, after := _, guard := _ }) (v := ?_) rfl (by kernel_rfl) (by kernel_rfl) (by kernel_rfl) (fun _ _ _ h => h) (Or.inl ⟨by rfl, ?_⟩) hS ?_
        rotate_left
        · intro W hSw
          have d5 : W.cell? ⟨p5, 5, none⟩ = some (.slice (some ⟨b, off, none⟩) n cp) := (HC5.out W hSw.below).1
          go_simp
          first | done | rfl
        try simp only [Act.put, List.setIfInBounds_toArray, List.set_cons_zero, List.set_cons_succ]
        refine wpAnyH_take (i := 5) (oi := { dst := some 54, op := _, type := _, pos := _, after := _, guard := _ }) (v := .agg x.row) rfl (by kernel_rfl) (by kernel_rfl) (by kernel_rfl) (fun _ _ _ h => h) (Or.inl ⟨by rfl, ?_⟩) hS ?_
        · intro W hSw
          have d5 : W.cell? ⟨p5, 5, none⟩ = some (.slice (some ⟨b, off, none⟩) n cp) := (HC5.out W hSw.below).1
          exact exec_load 35 (Operand.tmp 53) rfl rfl (HLE.out W hSw.below)
        try simp only [Act.put, List.setIfInBounds_toArray, List.set_cons_zero, List.set_cons_succ]
        refine wpAnyH_ready (rs := [6]) (by kernel_rfl) (by simp) ?_
        refine AllReadyH.cons (o := { dst := some 55, op := _, type := _, pos := _, after := _, guard := _ }) rfl (fun K hK => ?_) AllReadyH.nil
        go_simp
        refine (HFOL.out _).mono ?_
        rintro ev cw ⟨rfl, hb⟩
        replace hS := hS.later hb
        clear hb
        rw [HFO.out]
        refine hK.out _ _ hS (fun _ => ?_)
        clear hK K
        try simp only [Act.put, List.setIfInBounds_toArray, List.set_cons_zero, List.set_cons_succ]
        refine wpAnyH_take (i := 7) (oi := { dst := some 56, op := _, type := _, pos := _, after := _, guard := _ }) (v := ?_) rfl (by kernel_rfl) (by kernel_rfl) (by kernel_rfl) (fun _ _ _ h => h) (Or.inl ⟨by rfl, ?_⟩) hS ?_
        rotate_left
        · intro W hSw
          have d5 : W.cell? ⟨p5, 5, none⟩ = some (.slice (some ⟨b, off, none⟩) n cp) := (HC5.out W hSw.below).1
          go_simp
          first | done | rfl
        try simp only [Act.put, List.setIfInBounds_toArray, List.set_cons_zero, List.set_cons_succ]
        refine wpAnyH_done (by kernel_rfl) ?_ _
        refine NoPanic.normal ?_
        clear HFOL HFO
        have HBK := Lib.hid hS
        have c5 := (HC5.out _ hS.below).1
        have l60 := Lib.hid (HLE.out _ hS.below)
        clear hS
        go_wp2_with (first | (guard_target =~ wpList _ _ _ (⟨_, Op.load _ (Operand.tmp 60), _, _, _, _⟩ :: _) _ _; refine wpList_load_eq 35 (Operand.tmp 60) rfl rfl l60.out rfl ?_) | (guard_target =~ wpList _ _ _ (⟨_, Op.load _ (Operand.tmp 60), _, _, _, _⟩ :: _) _ _; refine wpList_load_w 35 (Operand.tmp 60) (by kernel_rfl) rfl l60.out rfl ?_))
        clear c5 l60
        refine (HMK.out _).mono ?_
        rintro ev w8 ⟨rfl, hb8⟩
        have hS8 := HBK.out.later hb8
        obtain ⟨w9, st9, hz9, hB9, hbe9, hot9⟩ := refill (cs := (mrow x.mo x.mv x.sum)) 27 hS8.mkb rfl (by kernel_rfl) (mrow_one _ _ _)
        have HS9 : Hid (CnI w6 w9 (mrow x.mo x.mv x.sum)) := Lib.hid ⟨hS8.below.trans (hbe9 _ (Nat.le_refl _) hS8.below.size), hB9⟩
        have st9 := Lib.hid st9
        clear hb8 hS8 hz9 hB9 hbe9 hot9 HBK
        go_wp2_with (first | (guard_target =~ wpList _ _ _ (⟨_, Op.store _ (Operand.tmp 7) (Operand.tmp 62), _, _, _, _⟩ :: _) _ _; refine wpList_store_eq 27 (Operand.tmp 7) (Operand.tmp 62) rfl rfl st9.out rfl rfl ?_))
        clear st9
        go_loopw [9, 10] (fun tv iv wr2 => ∃ k : Nat, k ≤ K ∧ iv = .int .i64 (k : Int) ∧ tv = .bool ((l.take k).any (hasE x)) ∧ CnI w6 wr2 (mrow x.mo x.mv x.sum)) (fun _ iv _ => K - (intOf iv).toNat)
        case atStart => exact ⟨0, by omega, rfl, by simp, HS9.out⟩
        case round =>
          clear HS9
          obtain ⟨k, hk, rfl, rfl, hSr⟩ := hrel
          have HSR := Lib.hid hSr
          clear hSr
          by_cases hltk : k < K
          · have hlti : (k : Int) < (K : Int) := by omega
            obtain ⟨y, hy⟩ : ∃ y, l[k]? = some y := ⟨l[k]'(by rw [← HK.out]; exact hltk), List.getElem?_eq_getElem _⟩
            obtain ⟨b2, off2, had2, hbl2, hra2⟩ := HR2.out.range (i := k) (x := y.row) (by rw [List.getElem?_map, hy]; rfl)
            subst had2
            have HLY : Hid (∀ W, Below w6.heap.size w6 W → (Instr.loadAt 45 (.pointer (some ⟨b2, off2 + k * 33, none⟩))).run Tryd.prog W = .ok (.agg y.row) W) := Lib.hid (fun W hW => load_at 45 _ (rangeAt.later hra2 hbl2 hW) Tryd.underlying45 rfl (by kernel_rfl))
            have HMY := Lib.hid (HM.out y (List.mem_of_getElem? hy))
            have HY8 : Hid (y.is.length = 8 ∧ (0 ≤ y.co ∧ y.co ≤ 72057594037927935)) := Lib.hid (by have := (rightB_iff y HMY.out.2.1).1 HMY.out.2.2; exact ⟨this.2.2.2.2.2.2.2.1, this.2.2.2.2.2.1⟩)
            have HYIN : Hid (∀ W, Below w6.heap.size w6 W → y.In W) := Lib.hid (fun W hW => (HIN.out y HMY.out.1).below (HB6.out.trans (hW.mono HB6.out.size)) (Nat.le_refl _))
            have HSNY : Hid (∀ acc, (l.take k).any (hasE x) = acc → (l.take (k + 1)).any (hasE x) = (acc || (decide ((y.says x.mo).k = 1) && decide ((y.says x.mo).e = x)))) := Lib.hid (fun acc h => by rw [take_snoc hy, List.any_append, h]; simp [hasE])
            obtain ⟨acc, hacc⟩ : ∃ acc, acc = (l.take k).any (hasE x) := ⟨_, rfl⟩
            have HACC := Lib.hid hacc.symm
            rw [← hacc]
            clear hacc hra2 hbl2 hy
            go_wp2_with fail
            refine wp_region_noPanic ?_
            refine wp_region_held_drew (S := fun W => CnI w6 W (mrow x.mo x.mv x.sum)) (by kernel_rfl) (show CnI w6 wr.drew (mrow x.mo x.mv x.sum) from HSR.out.later (Below.refl _ _).drew) (fun hS => ?_)
            generalize wr.drew = cw at *
            refine wpAnyH_take (i := 0) (oi := { dst := some 69, op := _, type := _, pos := _, after := _, guard := _ }) (v := ?_) rfl (by kernel_rfl) (by kernel_rfl) (by kernel_rfl) (fun _ _ _ h => h) (Or.inl ⟨by rfl, ?_⟩) hS ?_
            rotate_left
            · intro W hSw
              skip
              go_simp
              first | done | rfl
            try simp only [Act.put, List.setIfInBounds_toArray, List.set_cons_zero, List.set_cons_succ]
            refine wpAnyH_take (i := 1) (oi := { dst := some 70, op := _, type := _, pos := _, after := _, guard := _ }) (v := ?_) rfl (by kernel_rfl) (by kernel_rfl) (by kernel_rfl) (fun _ _ _ h => h) (Or.inl ⟨by rfl, ?_⟩) hS ?_
            rotate_left
            · intro W hSw
              skip
              go_simp
              first | done | rfl
            try simp only [Act.put, List.setIfInBounds_toArray, List.set_cons_zero, List.set_cons_succ]
            refine wpAnyH_take (i := 4) (oi := { dst := some 73, op := _, type := _, pos := _, after := _, guard := _ }) (v := ?_) rfl (by kernel_rfl) (by kernel_rfl) (by kernel_rfl) (fun _ _ _ h => h) (Or.inl ⟨by rfl, ?_⟩) hS ?_
            rotate_left
            · intro W hSw
              skip
              go_simp
              first | done | rfl
            try simp only [Act.put, List.setIfInBounds_toArray, List.set_cons_zero, List.set_cons_succ]
            refine wpAnyH_take (i := 2) (oi := { dst := some 71, op := _, type := _, pos := _, after := _, guard := _ }) (v := ?_) rfl (by kernel_rfl) (by kernel_rfl) (by kernel_rfl) (fun _ _ _ h => h) (Or.inl ⟨by rfl, ?_⟩) hS ?_
            rotate_left
            · intro W hSw
              skip
              go_simp
              first | done | rfl
            try simp only [Act.put, List.setIfInBounds_toArray, List.set_cons_zero, List.set_cons_succ]
            refine wpAnyH_take (i := 5) (oi := { dst := some 74, op := _, type := _, pos := _, after := _, guard := _ }) (v := .int .i64 x.mo) rfl (by kernel_rfl) (by kernel_rfl) (by kernel_rfl) (fun _ _ _ h => h) (Or.inl ⟨by rfl, ?_⟩) hS ?_
            · intro W hSw
              skip
              have d7 : W.cell? ⟨w6.heap.size, 0, none⟩ = some (.int .i64 x.mo) := (hSw.mkb.2 0 _ rfl).1
              go_simp
              first | done | rfl
            try simp only [Act.put, List.setIfInBounds_toArray, List.set_cons_zero, List.set_cons_succ]
            refine wpAnyH_take (i := 3) (oi := { dst := some 72, op := _, type := _, pos := _, after := _, guard := _ }) (v := .agg y.row) rfl (by kernel_rfl) (by kernel_rfl) (by kernel_rfl) (fun _ _ _ h => h) (Or.inl ⟨by rfl, ?_⟩) hS ?_
            · intro W hSw
              skip
              exact exec_load 45 (Operand.tmp 71) rfl rfl (HLY.out W hSw.below)
            try simp only [Act.put, List.setIfInBounds_toArray, List.set_cons_zero, List.set_cons_succ]
            refine wpAnyH_ready (rs := [6, 7]) (by kernel_rfl) (by simp) ?_
            refine AllReadyH.cons (o := { dst := some 75, op := _, type := _, pos := _, after := _, guard := _ }) rfl (fun K hK => ?_) ?_
            · go_simp
              refine (says18_any y x.mo _ (HYIN.out _ hS.below) HY8.out.1 HY8.out.2).mono ?_
              rintro ev cw ⟨rfl, hb⟩
              replace hS := hS.later hb
              clear hb
              refine hK.out _ _ hS (fun _ => ?_)
              clear hK K
              try simp only [Act.put, List.setIfInBounds_toArray, List.set_cons_zero, List.set_cons_succ]
              refine wpAnyH_ready (rs := [7]) (by kernel_rfl) (by simp) ?_
              refine AllReadyH.cons (o := { dst := some 11, op := _, type := _, pos := _, after := _, guard := _ }) rfl (fun K hK => ?_) AllReadyH.nil
              have hb : Below cw.heap.size cw (cw.alloc (.cells #[.int .i64 0, .int .i64 0, .int .i64 0, .int .i64 0, .int .u64 0, .int .u64 0, .int .i64 0, .int .i64 0, .int .i64 0, .int .u64 0, .int .i64 0, .int .i64 0, .int .i64 0, .int .i64 0, .string ⟨#[]⟩] 40)) := (Below.refl cw.heap.size cw).alloc (Nat.le_refl _) _
              have hA : Blk (cw.alloc (.cells #[.int .i64 0, .int .i64 0, .int .i64 0, .int .i64 0, .int .u64 0, .int .u64 0, .int .i64 0, .int .i64 0, .int .i64 0, .int .u64 0, .int .i64 0, .int .i64 0, .int .i64 0, .int .i64 0, .string ⟨#[]⟩] 40)) cw.heap.size #[.int .i64 0, .int .i64 0, .int .i64 0, .int .i64 0, .int .u64 0, .int .u64 0, .int .i64 0, .int .i64 0, .int .i64 0, .int .u64 0, .int .i64 0, .int .i64 0, .int .i64 0, .int .i64 0, .string ⟨#[]⟩] := Blk.new _ _ _ _ rfl
              have hp := hS.mkb.1
              replace hS := hS.later hb
              go_simp
              generalize cw.heap.size = p11 at hA hp ⊢
              generalize cw.alloc (.cells #[.int .i64 0, .int .i64 0, .int .i64 0, .int .i64 0, .int .u64 0, .int .u64 0, .int .i64 0, .int .i64 0, .int .i64 0, .int .u64 0, .int .i64 0, .int .i64 0, .int .i64 0, .int .i64 0, .string ⟨#[]⟩] 40) = cw at *
              clear hb
              refine hK.out _ _ hS (fun _ => ?_)
              clear hK K
              try simp only [Act.put, List.setIfInBounds_toArray, List.set_cons_zero, List.set_cons_succ]
              refine wpAnyH_ready (rs := [8]) (by kernel_rfl) (by simp) ?_
              refine AllReadyH.cons (o := { dst := none, op := _, type := _, pos := _, after := _, guard := _ }) rfl (fun K hK => ?_) AllReadyH.nil
              obtain ⟨cw, st6, hz6, hB6, hbe6, hot6⟩ := refill (cs := (y.says x.mo).row) 40 hA rfl (by kernel_rfl) (Ist.row_one _)
              replace hS : CnI w6 cw (mrow x.mo x.mv x.sum) := ⟨hS.below.trans (hbe6 _ (Nat.le_of_lt hp) hS.below.size), hot6 _ _ (Nat.ne_of_lt hp) hS.mkb⟩
              refine wp_store_eq 40 (Operand.tmp 11) (Operand.tmp 75) rfl st6 rfl rfl ?_
              clear hbe6 hot6 hz6 hA
              refine hK.out _ _ hS (fun _ => ?_)
              clear hK K
              try simp only [Act.put]
              refine wpAnyH_done (by kernel_rfl) ?_ _
              refine NoPanic.normal ?_
              have HSN := Lib.hid (HSNY.out acc HACC.out)
              generalize y.says x.mo = z at *
              cases acc
              · by_cases kz : z.k = 1
                · have kz := Lib.hid kz
                  go_wp2_with fail
                  refine wp_region_noPanic ?_
                  refine wp_region_held_drew (S := fun W => CnI w6 W (mrow x.mo x.mv x.sum) ∧ Blk W p11 z.row) (by kernel_rfl) (show CnI w6 cw.drew (mrow x.mo x.mv x.sum) ∧ Blk cw.drew p11 z.row from ⟨hS.later (Below.refl _ _).drew, hB6.drew⟩) (fun hS => ?_)
                  generalize cw.drew = cw at *
                  refine wpAnyH_take (i := 0) (oi := { dst := some 76, op := _, type := _, pos := _, after := _, guard := _ }) (v := ?_) rfl (by kernel_rfl) (by kernel_rfl) (by kernel_rfl) (fun _ _ _ h => h) (Or.inl ⟨by rfl, ?_⟩) hS ?_
                  rotate_left
                  · intro W hSw
                    have d0 : W.cell? ⟨p11, 0, none⟩ = some (.int .i64 1) := by rw [← kz.out]; exact (hSw.2.2 0 _ rfl).1
                    have d5 : W.cell? ⟨p5, 5, none⟩ = some (.slice (some ⟨b, off, none⟩) n cp) := (HC5.out W hSw.1.below).1
                    go_simp
                    first | done | rfl
                  try simp only [Act.put, List.setIfInBounds_toArray, List.set_cons_zero, List.set_cons_succ]
                  refine wpAnyH_take (i := 1) (oi := { dst := some 77, op := _, type := _, pos := _, after := _, guard := _ }) (v := ?_) rfl (by kernel_rfl) (by kernel_rfl) (by kernel_rfl) (fun _ _ _ h => h) (Or.inl ⟨by rfl, ?_⟩) hS ?_
                  rotate_left
                  · intro W hSw
                    have d0 : W.cell? ⟨p11, 0, none⟩ = some (.int .i64 1) := by rw [← kz.out]; exact (hSw.2.2 0 _ rfl).1
                    have d5 : W.cell? ⟨p5, 5, none⟩ = some (.slice (some ⟨b, off, none⟩) n cp) := (HC5.out W hSw.1.below).1
                    go_simp
                    first | done | rfl
                  try simp only [Act.put, List.setIfInBounds_toArray, List.set_cons_zero, List.set_cons_succ]
                  refine wpAnyH_take (i := 2) (oi := { dst := some 78, op := _, type := _, pos := _, after := _, guard := _ }) (v := ?_) rfl (by kernel_rfl) (by kernel_rfl) (by kernel_rfl) (fun _ _ _ h => h) (Or.inl ⟨by rfl, ?_⟩) hS ?_
                  rotate_left
                  · intro W hSw
                    have d0 : W.cell? ⟨p11, 0, none⟩ = some (.int .i64 1) := by rw [← kz.out]; exact (hSw.2.2 0 _ rfl).1
                    have d5 : W.cell? ⟨p5, 5, none⟩ = some (.slice (some ⟨b, off, none⟩) n cp) := (HC5.out W hSw.1.below).1
                    go_simp
                    first | done | rfl
                  try simp only [Act.put, List.setIfInBounds_toArray, List.set_cons_zero, List.set_cons_succ]
                  refine wpAnyH_take (i := 3) (oi := { dst := some 79, op := _, type := _, pos := _, after := _, guard := _ }) (v := ?_) rfl (by kernel_rfl) (by kernel_rfl) (by kernel_rfl) (fun _ _ _ h => h) (Or.inl ⟨by rfl, ?_⟩) hS ?_
                  rotate_left
                  · intro W hSw
                    have d0 : W.cell? ⟨p11, 0, none⟩ = some (.int .i64 1) := by rw [← kz.out]; exact (hSw.2.2 0 _ rfl).1
                    have d5 : W.cell? ⟨p5, 5, none⟩ = some (.slice (some ⟨b, off, none⟩) n cp) := (HC5.out W hSw.1.below).1
                    go_simp
                    first | done | rfl
                  try simp only [Act.put, List.setIfInBounds_toArray, List.set_cons_zero, List.set_cons_succ]
                  refine wpAnyH_take (i := 4) (oi := { dst := some 80, op := _, type := _, pos := _, after := _, guard := _ }) (v := ?_) rfl (by kernel_rfl) (by kernel_rfl) (by kernel_rfl) (fun _ _ _ h => h) (Or.inl ⟨by rfl, ?_⟩) hS ?_
                  rotate_left
                  · intro W hSw
                    have d0 : W.cell? ⟨p11, 0, none⟩ = some (.int .i64 1) := by rw [← kz.out]; exact (hSw.2.2 0 _ rfl).1
                    have d5 : W.cell? ⟨p5, 5, none⟩ = some (.slice (some ⟨b, off, none⟩) n cp) := (HC5.out W hSw.1.below).1
                    go_simp
                    first | done | rfl
                  try simp only [Act.put, List.setIfInBounds_toArray, List.set_cons_zero, List.set_cons_succ]
                  refine wpAnyH_take (i := 5) (oi := { dst := some 81, op := _, type := _, pos := _, after := _, guard := _ }) (v := ?_) rfl (by kernel_rfl) (by kernel_rfl) (by kernel_rfl) (fun _ _ _ h => h) (Or.inl ⟨by rfl, ?_⟩) hS ?_
                  rotate_left
                  · intro W hSw
                    have d0 : W.cell? ⟨p11, 0, none⟩ = some (.int .i64 1) := by rw [← kz.out]; exact (hSw.2.2 0 _ rfl).1
                    have d5 : W.cell? ⟨p5, 5, none⟩ = some (.slice (some ⟨b, off, none⟩) n cp) := (HC5.out W hSw.1.below).1
                    go_simp
                    first | done | rfl
                  try simp only [Act.put, List.setIfInBounds_toArray, List.set_cons_zero, List.set_cons_succ]
                  refine wpAnyH_take (i := 6) (oi := { dst := some 82, op := _, type := _, pos := _, after := _, guard := _ }) (v := ?_) rfl (by kernel_rfl) (by kernel_rfl) (by kernel_rfl) (fun _ _ _ h => h) (Or.inl ⟨by rfl, ?_⟩) hS ?_
                  rotate_left
                  · intro W hSw
                    have d0 : W.cell? ⟨p11, 0, none⟩ = some (.int .i64 1) := by rw [← kz.out]; exact (hSw.2.2 0 _ rfl).1
                    have d5 : W.cell? ⟨p5, 5, none⟩ = some (.slice (some ⟨b, off, none⟩) n cp) := (HC5.out W hSw.1.below).1
                    go_simp
                    first | done | rfl
                  try simp only [Act.put, List.setIfInBounds_toArray, List.set_cons_zero, List.set_cons_succ]
                  refine wpAnyH_take (i := 8) (oi := { dst := some 84, op := _, type := _, pos := _, after := _, guard := _ }) (v := ?_) rfl (by kernel_rfl) (by kernel_rfl) (by kernel_rfl) (fun _ _ _ h => h) (Or.inl ⟨by rfl, ?_⟩) hS ?_
                  rotate_left
                  · intro W hSw
                    have d0 : W.cell? ⟨p11, 0, none⟩ = some (.int .i64 1) := by rw [← kz.out]; exact (hSw.2.2 0 _ rfl).1
                    have d5 : W.cell? ⟨p5, 5, none⟩ = some (.slice (some ⟨b, off, none⟩) n cp) := (HC5.out W hSw.1.below).1
                    go_simp
                    first | done | rfl
                  try simp only [Act.put, List.setIfInBounds_toArray, List.set_cons_zero, List.set_cons_succ]
                  refine wpAnyH_take (i := 10) (oi := { dst := some 86, op := _, type := _, pos := _, after := _, guard := _ }) (v := ?_) rfl (by kernel_rfl) (by kernel_rfl) (by kernel_rfl) (fun _ _ _ h => h) (Or.inl ⟨by rfl, ?_⟩) hS ?_
                  rotate_left
                  · intro W hSw
                    have d0 : W.cell? ⟨p11, 0, none⟩ = some (.int .i64 1) := by rw [← kz.out]; exact (hSw.2.2 0 _ rfl).1
                    have d5 : W.cell? ⟨p5, 5, none⟩ = some (.slice (some ⟨b, off, none⟩) n cp) := (HC5.out W hSw.1.below).1
                    go_simp
                    first | done | rfl
                  try simp only [Act.put, List.setIfInBounds_toArray, List.set_cons_zero, List.set_cons_succ]
                  refine wpAnyH_take (i := 7) (oi := { dst := some 83, op := _, type := _, pos := _, after := _, guard := _ }) (v := .agg z.e.row) rfl (by kernel_rfl) (by kernel_rfl) (by kernel_rfl) (fun _ _ _ h => h) (Or.inl ⟨by rfl, ?_⟩) hS ?_
                  · intro W hSw
                    have d0 : W.cell? ⟨p11, 0, none⟩ = some (.int .i64 1) := by rw [← kz.out]; exact (hSw.2.2 0 _ rfl).1
                    have d5 : W.cell? ⟨p5, 5, none⟩ = some (.slice (some ⟨b, off, none⟩) n cp) := (HC5.out W hSw.1.below).1
                    exact exec_load 35 (Operand.tmp 82) rfl rfl (it_ldE hSw.2)
                  try simp only [Act.put, List.setIfInBounds_toArray, List.set_cons_zero, List.set_cons_succ]
                  refine wpAnyH_take (i := 9) (oi := { dst := some 85, op := _, type := _, pos := _, after := _, guard := _ }) (v := ?_) rfl (by kernel_rfl) (by kernel_rfl) (by kernel_rfl) (fun _ _ _ h => h) (Or.inl ⟨by rfl, ?_⟩) hS ?_
                  rotate_left
                  · intro W hSw
                    have d0 : W.cell? ⟨p11, 0, none⟩ = some (.int .i64 1) := by rw [← kz.out]; exact (hSw.2.2 0 _ rfl).1
                    have d5 : W.cell? ⟨p5, 5, none⟩ = some (.slice (some ⟨b, off, none⟩) n cp) := (HC5.out W hSw.1.below).1
                    go_simp
                    first | done | rfl
                  try simp only [Act.put, List.setIfInBounds_toArray, List.set_cons_zero, List.set_cons_succ]
                  refine wpAnyH_take (i := 11) (oi := { dst := some 87, op := _, type := _, pos := _, after := _, guard := _ }) (v := ?_) rfl (by kernel_rfl) (by kernel_rfl) (by kernel_rfl) (fun _ _ _ h => h) (Or.inl ⟨by rfl, ?_⟩) hS ?_
                  rotate_left
                  · intro W hSw
                    have d0 : W.cell? ⟨p11, 0, none⟩ = some (.int .i64 1) := by rw [← kz.out]; exact (hSw.2.2 0 _ rfl).1
                    have d5 : W.cell? ⟨p5, 5, none⟩ = some (.slice (some ⟨b, off, none⟩) n cp) := (HC5.out W hSw.1.below).1
                    go_simp
                    first | done | rfl
                  try simp only [Act.put, List.setIfInBounds_toArray, List.set_cons_zero, List.set_cons_succ]
                  refine wpAnyH_take (i := 12) (oi := { dst := some 88, op := _, type := _, pos := _, after := _, guard := _ }) (v := .agg x.row) rfl (by kernel_rfl) (by kernel_rfl) (by kernel_rfl) (fun _ _ _ h => h) (Or.inl ⟨by rfl, ?_⟩) hS ?_
                  · intro W hSw
                    have d0 : W.cell? ⟨p11, 0, none⟩ = some (.int .i64 1) := by rw [← kz.out]; exact (hSw.2.2 0 _ rfl).1
                    have d5 : W.cell? ⟨p5, 5, none⟩ = some (.slice (some ⟨b, off, none⟩) n cp) := (HC5.out W hSw.1.below).1
                    exact exec_load 35 (Operand.tmp 87) rfl rfl (HLE.out W hSw.1.below)
                  try simp only [Act.put, List.setIfInBounds_toArray, List.set_cons_zero, List.set_cons_succ]
                  refine wpAnyH_take (i := 13) (oi := { dst := some 89, op := _, type := _, pos := _, after := _, guard := _ }) (v := .bool (decide (z.e = x))) rfl (by kernel_rfl) (by kernel_rfl) (by kernel_rfl) (fun _ _ _ h => h) (Or.inl ⟨by rfl, ?_⟩) hS ?_
                  · intro W hSw
                    have d0 : W.cell? ⟨p11, 0, none⟩ = some (.int .i64 1) := by rw [← kz.out]; exact (hSw.2.2 0 _ rfl).1
                    have d5 : W.cell? ⟨p5, 5, none⟩ = some (.slice (some ⟨b, off, none⟩) n cp) := (HC5.out W hSw.1.below).1
                    exact exec_eql 35 _ (Operand.tmp 83) (Operand.tmp 88) rfl rfl rfl (eq_est z.e x)
                  try simp only [Act.put, List.setIfInBounds_toArray, List.set_cons_zero, List.set_cons_succ]
                  refine wpAnyH_take (i := 14) (oi := { dst := some 90, op := _, type := _, pos := _, after := _, guard := _ }) (v := ?_) rfl (by kernel_rfl) (by kernel_rfl) (by kernel_rfl) (fun _ _ _ h => h) (Or.inl ⟨by rfl, ?_⟩) hS ?_
                  rotate_left
                  · intro W hSw
                    have d0 : W.cell? ⟨p11, 0, none⟩ = some (.int .i64 1) := by rw [← kz.out]; exact (hSw.2.2 0 _ rfl).1
                    have d5 : W.cell? ⟨p5, 5, none⟩ = some (.slice (some ⟨b, off, none⟩) n cp) := (HC5.out W hSw.1.below).1
                    go_simp
                    first | done | rfl
                  try simp only [Act.put, List.setIfInBounds_toArray, List.set_cons_zero, List.set_cons_succ]
                  refine wpAnyH_take (i := 15) (oi := { dst := some 91, op := _, type := _, pos := _, after := _, guard := _ }) (v := ?_) rfl (by kernel_rfl) (by kernel_rfl) (by kernel_rfl) (fun _ _ _ h => h) (Or.inl ⟨by rfl, ?_⟩) hS ?_
                  rotate_left
                  · intro W hSw
                    have d0 : W.cell? ⟨p11, 0, none⟩ = some (.int .i64 1) := by rw [← kz.out]; exact (hSw.2.2 0 _ rfl).1
                    have d5 : W.cell? ⟨p5, 5, none⟩ = some (.slice (some ⟨b, off, none⟩) n cp) := (HC5.out W hSw.1.below).1
                    go_simp
                    first | done | rfl
                  try simp only [Act.put, List.setIfInBounds_toArray, List.set_cons_zero, List.set_cons_succ]
                  refine wpAnyH_take (i := 16) (oi := { dst := some 9, op := _, type := _, pos := _, after := _, guard := _ }) (v := ?_) rfl (by kernel_rfl) (by kernel_rfl) (by kernel_rfl) (fun _ _ _ h => h) (Or.inl ⟨by rfl, ?_⟩) hS ?_
                  rotate_left
                  · intro W hSw
                    have d0 : W.cell? ⟨p11, 0, none⟩ = some (.int .i64 1) := by rw [← kz.out]; exact (hSw.2.2 0 _ rfl).1
                    have d5 : W.cell? ⟨p5, 5, none⟩ = some (.slice (some ⟨b, off, none⟩) n cp) := (HC5.out W hSw.1.below).1
                    go_simp
                    first | done | rfl
                  try simp only [Act.put, List.setIfInBounds_toArray, List.set_cons_zero, List.set_cons_succ]
                  refine wpAnyH_done (by kernel_rfl) ?_ _
                  refine NoPanic.normal ?_
                  go_wp2_with fail
                  go_roundw
                  case rel => exact ⟨k + 1, by omega, by go_num, by rw [HSN.out]; rw [kz.out]; cases decide (z.e = x) <;> rfl, hS.1⟩
                  case measure => simp [intOf]; omega
              
                · have kzb : (z.k == 1) = false := beq_eq_false_iff_ne.2 kz
                  have kz := Lib.hid kz
                  go_wp2_with fail
                  refine wp_region_noPanic ?_
                  refine wp_region_held_drew (S := fun W => CnI w6 W (mrow x.mo x.mv x.sum) ∧ Blk W p11 z.row) (by kernel_rfl) (show CnI w6 cw.drew (mrow x.mo x.mv x.sum) ∧ Blk cw.drew p11 z.row from ⟨hS.later (Below.refl _ _).drew, hB6.drew⟩) (fun hS => ?_)
                  generalize cw.drew = cw at *
                  refine wpAnyH_take (i := 0) (oi := { dst := some 76, op := _, type := _, pos := _, after := _, guard := _ }) (v := ?_) rfl (by kernel_rfl) (by kernel_rfl) (by kernel_rfl) (fun _ _ _ h => h) (Or.inl ⟨by rfl, ?_⟩) hS ?_
                  rotate_left
                  · intro W hSw
                    have d0 : W.cell? ⟨p11, 0, none⟩ = some (.int .i64 z.k) := (hSw.2.2 0 _ rfl).1
                    have d5 : W.cell? ⟨p5, 5, none⟩ = some (.slice (some ⟨b, off, none⟩) n cp) := (HC5.out W hSw.1.below).1
                    go_simp
                    first | done | rfl
                  try simp only [Act.put, List.setIfInBounds_toArray, List.set_cons_zero, List.set_cons_succ]
                  refine wpAnyH_take (i := 1) (oi := { dst := some 77, op := _, type := _, pos := _, after := _, guard := _ }) (v := ?_) rfl (by kernel_rfl) (by kernel_rfl) (by kernel_rfl) (fun _ _ _ h => h) (Or.inl ⟨by rfl, ?_⟩) hS ?_
                  rotate_left
                  · intro W hSw
                    have d0 : W.cell? ⟨p11, 0, none⟩ = some (.int .i64 z.k) := (hSw.2.2 0 _ rfl).1
                    have d5 : W.cell? ⟨p5, 5, none⟩ = some (.slice (some ⟨b, off, none⟩) n cp) := (HC5.out W hSw.1.below).1
                    go_simp
                    first | done | rfl
                  try simp only [Act.put, List.setIfInBounds_toArray, List.set_cons_zero, List.set_cons_succ]
                  refine wpAnyH_take (i := 2) (oi := { dst := some 78, op := _, type := _, pos := _, after := _, guard := _ }) (v := ?_) rfl (by kernel_rfl) (by kernel_rfl) (by kernel_rfl) (fun _ _ _ h => h) (Or.inl ⟨by rfl, ?_⟩) hS ?_
                  rotate_left
                  · intro W hSw
                    have d0 : W.cell? ⟨p11, 0, none⟩ = some (.int .i64 z.k) := (hSw.2.2 0 _ rfl).1
                    have d5 : W.cell? ⟨p5, 5, none⟩ = some (.slice (some ⟨b, off, none⟩) n cp) := (HC5.out W hSw.1.below).1
                    go_simp
                    first | done | rfl
                  try simp only [Act.put, List.setIfInBounds_toArray, List.set_cons_zero, List.set_cons_succ]
                  refine wpAnyH_take (i := 3) (oi := { dst := some 79, op := _, type := _, pos := _, after := _, guard := _ }) (v := ?_) rfl (by kernel_rfl) (by kernel_rfl) (by kernel_rfl) (fun _ _ _ h => h) (Or.inl ⟨by rfl, ?_⟩) hS ?_
                  rotate_left
                  · intro W hSw
                    have d0 : W.cell? ⟨p11, 0, none⟩ = some (.int .i64 z.k) := (hSw.2.2 0 _ rfl).1
                    have d5 : W.cell? ⟨p5, 5, none⟩ = some (.slice (some ⟨b, off, none⟩) n cp) := (HC5.out W hSw.1.below).1
                    go_simp
                    first | done | rfl
                  try simp only [Act.put, List.setIfInBounds_toArray, List.set_cons_zero, List.set_cons_succ]
                  refine wpAnyH_take (i := 4) (oi := { dst := some 80, op := _, type := _, pos := _, after := _, guard := _ }) (v := .bool false) rfl (by kernel_rfl) (by kernel_rfl) (by kernel_rfl) (fun _ _ _ h => h) (Or.inl ⟨by rfl, ?_⟩) hS ?_
                  · intro W hSw
                    have d0 : W.cell? ⟨p11, 0, none⟩ = some (.int .i64 z.k) := (hSw.2.2 0 _ rfl).1
                    have d5 : W.cell? ⟨p5, 5, none⟩ = some (.slice (some ⟨b, off, none⟩) n cp) := (HC5.out W hSw.1.below).1
                    go_simp
                    first | done | rfl
                  try simp only [Act.put, List.setIfInBounds_toArray, List.set_cons_zero, List.set_cons_succ]
                  refine wpAnyH_take (i := 5) (oi := { dst := some 81, op := _, type := _, pos := _, after := _, guard := _ }) (v := ?_) rfl (by kernel_rfl) (by kernel_rfl) (by kernel_rfl) (fun _ _ _ h => h) (Or.inl ⟨by rfl, ?_⟩) hS ?_
                  rotate_left
                  · intro W hSw
                    have d0 : W.cell? ⟨p11, 0, none⟩ = some (.int .i64 z.k) := (hSw.2.2 0 _ rfl).1
                    have d5 : W.cell? ⟨p5, 5, none⟩ = some (.slice (some ⟨b, off, none⟩) n cp) := (HC5.out W hSw.1.below).1
                    go_simp
                    first | done | rfl
                  try simp only [Act.put, List.setIfInBounds_toArray, List.set_cons_zero, List.set_cons_succ]
                  refine wpAnyH_take (i := 6) (oi := { dst := some 82, op := _, type := _, pos := _, after := _, guard := _ }) (v := undef) rfl (by kernel_rfl) (by kernel_rfl) (by kernel_rfl) (fun _ _ _ h => h) (Or.inr ⟨by rfl, rfl⟩) hS ?_
                  try simp only [Act.put, List.setIfInBounds_toArray, List.set_cons_zero, List.set_cons_succ]
                  refine wpAnyH_take (i := 8) (oi := { dst := some 84, op := _, type := _, pos := _, after := _, guard := _ }) (v := undef) rfl (by kernel_rfl) (by kernel_rfl) (by kernel_rfl) (fun _ _ _ h => h) (Or.inr ⟨by rfl, rfl⟩) hS ?_
                  try simp only [Act.put, List.setIfInBounds_toArray, List.set_cons_zero, List.set_cons_succ]
                  refine wpAnyH_take (i := 10) (oi := { dst := some 86, op := _, type := _, pos := _, after := _, guard := _ }) (v := undef) rfl (by kernel_rfl) (by kernel_rfl) (by kernel_rfl) (fun _ _ _ h => h) (Or.inr ⟨by rfl, rfl⟩) hS ?_
                  try simp only [Act.put, List.setIfInBounds_toArray, List.set_cons_zero, List.set_cons_succ]
                  refine wpAnyH_take (i := 7) (oi := { dst := some 83, op := _, type := _, pos := _, after := _, guard := _ }) (v := undef) rfl (by kernel_rfl) (by kernel_rfl) (by kernel_rfl) (fun _ _ _ h => h) (Or.inr ⟨by rfl, rfl⟩) hS ?_
                  try simp only [Act.put, List.setIfInBounds_toArray, List.set_cons_zero, List.set_cons_succ]
                  refine wpAnyH_take (i := 9) (oi := { dst := some 85, op := _, type := _, pos := _, after := _, guard := _ }) (v := undef) rfl (by kernel_rfl) (by kernel_rfl) (by kernel_rfl) (fun _ _ _ h => h) (Or.inr ⟨by rfl, rfl⟩) hS ?_
                  try simp only [Act.put, List.setIfInBounds_toArray, List.set_cons_zero, List.set_cons_succ]
                  refine wpAnyH_take (i := 11) (oi := { dst := some 87, op := _, type := _, pos := _, after := _, guard := _ }) (v := undef) rfl (by kernel_rfl) (by kernel_rfl) (by kernel_rfl) (fun _ _ _ h => h) (Or.inr ⟨by rfl, rfl⟩) hS ?_
                  try simp only [Act.put, List.setIfInBounds_toArray, List.set_cons_zero, List.set_cons_succ]
                  refine wpAnyH_take (i := 12) (oi := { dst := some 88, op := _, type := _, pos := _, after := _, guard := _ }) (v := undef) rfl (by kernel_rfl) (by kernel_rfl) (by kernel_rfl) (fun _ _ _ h => h) (Or.inr ⟨by rfl, rfl⟩) hS ?_
                  try simp only [Act.put, List.setIfInBounds_toArray, List.set_cons_zero, List.set_cons_succ]
                  refine wpAnyH_take (i := 13) (oi := { dst := some 89, op := _, type := _, pos := _, after := _, guard := _ }) (v := undef) rfl (by kernel_rfl) (by kernel_rfl) (by kernel_rfl) (fun _ _ _ h => h) (Or.inr ⟨by rfl, rfl⟩) hS ?_
                  try simp only [Act.put, List.setIfInBounds_toArray, List.set_cons_zero, List.set_cons_succ]
                  refine wpAnyH_take (i := 14) (oi := { dst := some 90, op := _, type := _, pos := _, after := _, guard := _ }) (v := ?_) rfl (by kernel_rfl) (by kernel_rfl) (by kernel_rfl) (fun _ _ _ h => h) (Or.inl ⟨by rfl, ?_⟩) hS ?_
                  rotate_left
                  · intro W hSw
                    have d0 : W.cell? ⟨p11, 0, none⟩ = some (.int .i64 z.k) := (hSw.2.2 0 _ rfl).1
                    have d5 : W.cell? ⟨p5, 5, none⟩ = some (.slice (some ⟨b, off, none⟩) n cp) := (HC5.out W hSw.1.below).1
                    go_simp
                    first | done | rfl
                  try simp only [Act.put, List.setIfInBounds_toArray, List.set_cons_zero, List.set_cons_succ]
                  refine wpAnyH_take (i := 15) (oi := { dst := some 91, op := _, type := _, pos := _, after := _, guard := _ }) (v := ?_) rfl (by kernel_rfl) (by kernel_rfl) (by kernel_rfl) (fun _ _ _ h => h) (Or.inl ⟨by rfl, ?_⟩) hS ?_
                  rotate_left
                  · intro W hSw
                    have d0 : W.cell? ⟨p11, 0, none⟩ = some (.int .i64 z.k) := (hSw.2.2 0 _ rfl).1
                    have d5 : W.cell? ⟨p5, 5, none⟩ = some (.slice (some ⟨b, off, none⟩) n cp) := (HC5.out W hSw.1.below).1
                    go_simp
                    first | done | rfl
                  try simp only [Act.put, List.setIfInBounds_toArray, List.set_cons_zero, List.set_cons_succ]
                  refine wpAnyH_take (i := 16) (oi := { dst := some 9, op := _, type := _, pos := _, after := _, guard := _ }) (v := ?_) rfl (by kernel_rfl) (by kernel_rfl) (by kernel_rfl) (fun _ _ _ h => h) (Or.inl ⟨by rfl, ?_⟩) hS ?_
                  rotate_left
                  · intro W hSw
                    have d0 : W.cell? ⟨p11, 0, none⟩ = some (.int .i64 z.k) := (hSw.2.2 0 _ rfl).1
                    have d5 : W.cell? ⟨p5, 5, none⟩ = some (.slice (some ⟨b, off, none⟩) n cp) := (HC5.out W hSw.1.below).1
                    go_simp
                    first | done | rfl
                  try simp only [Act.put, List.setIfInBounds_toArray, List.set_cons_zero, List.set_cons_succ]
                  refine wpAnyH_done (by kernel_rfl) ?_ _
                  refine NoPanic.normal ?_
                  go_wp2_with fail
                  go_roundw
                  case rel => exact ⟨k + 1, by omega, by go_num, by rw [HSN.out]; rw [decide_eq_false kz.out]; rfl, hS.1⟩
                  case measure => simp [intOf]; omega
              
              · skip
                go_wp2_with fail
                refine wp_region_noPanic ?_
                refine wp_region_held_drew (S := fun W => CnI w6 W (mrow x.mo x.mv x.sum) ∧ Blk W p11 z.row) (by kernel_rfl) (show CnI w6 cw.drew (mrow x.mo x.mv x.sum) ∧ Blk cw.drew p11 z.row from ⟨hS.later (Below.refl _ _).drew, hB6.drew⟩) (fun hS => ?_)
                generalize cw.drew = cw at *
                refine wpAnyH_take (i := 0) (oi := { dst := some 76, op := _, type := _, pos := _, after := _, guard := _ }) (v := ?_) rfl (by kernel_rfl) (by kernel_rfl) (by kernel_rfl) (fun _ _ _ h => h) (Or.inl ⟨by rfl, ?_⟩) hS ?_
                rotate_left
                · intro W hSw
                  have d0 : W.cell? ⟨p11, 0, none⟩ = some (.int .i64 z.k) := (hSw.2.2 0 _ rfl).1
                  have d5 : W.cell? ⟨p5, 5, none⟩ = some (.slice (some ⟨b, off, none⟩) n cp) := (HC5.out W hSw.1.below).1
                  go_simp
                  first | done | rfl
                try simp only [Act.put, List.setIfInBounds_toArray, List.set_cons_zero, List.set_cons_succ]
                refine wpAnyH_take (i := 1) (oi := { dst := some 77, op := _, type := _, pos := _, after := _, guard := _ }) (v := ?_) rfl (by kernel_rfl) (by kernel_rfl) (by kernel_rfl) (fun _ _ _ h => h) (Or.inl ⟨by rfl, ?_⟩) hS ?_
                rotate_left
                · intro W hSw
                  have d0 : W.cell? ⟨p11, 0, none⟩ = some (.int .i64 z.k) := (hSw.2.2 0 _ rfl).1
                  have d5 : W.cell? ⟨p5, 5, none⟩ = some (.slice (some ⟨b, off, none⟩) n cp) := (HC5.out W hSw.1.below).1
                  go_simp
                  first | done | rfl
                try simp only [Act.put, List.setIfInBounds_toArray, List.set_cons_zero, List.set_cons_succ]
                refine wpAnyH_take (i := 2) (oi := { dst := some 78, op := _, type := _, pos := _, after := _, guard := _ }) (v := undef) rfl (by kernel_rfl) (by kernel_rfl) (by kernel_rfl) (fun _ _ _ h => h) (Or.inr ⟨by rfl, rfl⟩) hS ?_
                try simp only [Act.put, List.setIfInBounds_toArray, List.set_cons_zero, List.set_cons_succ]
                refine wpAnyH_take (i := 3) (oi := { dst := some 79, op := _, type := _, pos := _, after := _, guard := _ }) (v := undef) rfl (by kernel_rfl) (by kernel_rfl) (by kernel_rfl) (fun _ _ _ h => h) (Or.inr ⟨by rfl, rfl⟩) hS ?_
                try simp only [Act.put, List.setIfInBounds_toArray, List.set_cons_zero, List.set_cons_succ]
                refine wpAnyH_take (i := 4) (oi := { dst := some 80, op := _, type := _, pos := _, after := _, guard := _ }) (v := undef) rfl (by kernel_rfl) (by kernel_rfl) (by kernel_rfl) (fun _ _ _ h => h) (Or.inr ⟨by rfl, rfl⟩) hS ?_
                try simp only [Act.put, List.setIfInBounds_toArray, List.set_cons_zero, List.set_cons_succ]
                refine wpAnyH_take (i := 5) (oi := { dst := some 81, op := _, type := _, pos := _, after := _, guard := _ }) (v := undef) rfl (by kernel_rfl) (by kernel_rfl) (by kernel_rfl) (fun _ _ _ h => h) (Or.inr ⟨by rfl, rfl⟩) hS ?_
                try simp only [Act.put, List.setIfInBounds_toArray, List.set_cons_zero, List.set_cons_succ]
                refine wpAnyH_take (i := 6) (oi := { dst := some 82, op := _, type := _, pos := _, after := _, guard := _ }) (v := undef) rfl (by kernel_rfl) (by kernel_rfl) (by kernel_rfl) (fun _ _ _ h => h) (Or.inr ⟨by rfl, rfl⟩) hS ?_
                try simp only [Act.put, List.setIfInBounds_toArray, List.set_cons_zero, List.set_cons_succ]
                refine wpAnyH_take (i := 8) (oi := { dst := some 84, op := _, type := _, pos := _, after := _, guard := _ }) (v := undef) rfl (by kernel_rfl) (by kernel_rfl) (by kernel_rfl) (fun _ _ _ h => h) (Or.inr ⟨by rfl, rfl⟩) hS ?_
                try simp only [Act.put, List.setIfInBounds_toArray, List.set_cons_zero, List.set_cons_succ]
                refine wpAnyH_take (i := 10) (oi := { dst := some 86, op := _, type := _, pos := _, after := _, guard := _ }) (v := undef) rfl (by kernel_rfl) (by kernel_rfl) (by kernel_rfl) (fun _ _ _ h => h) (Or.inr ⟨by rfl, rfl⟩) hS ?_
                try simp only [Act.put, List.setIfInBounds_toArray, List.set_cons_zero, List.set_cons_succ]
                refine wpAnyH_take (i := 7) (oi := { dst := some 83, op := _, type := _, pos := _, after := _, guard := _ }) (v := undef) rfl (by kernel_rfl) (by kernel_rfl) (by kernel_rfl) (fun _ _ _ h => h) (Or.inr ⟨by rfl, rfl⟩) hS ?_
                try simp only [Act.put, List.setIfInBounds_toArray, List.set_cons_zero, List.set_cons_succ]
                refine wpAnyH_take (i := 9) (oi := { dst := some 85, op := _, type := _, pos := _, after := _, guard := _ }) (v := undef) rfl (by kernel_rfl) (by kernel_rfl) (by kernel_rfl) (fun _ _ _ h => h) (Or.inr ⟨by rfl, rfl⟩) hS ?_
                try simp only [Act.put, List.setIfInBounds_toArray, List.set_cons_zero, List.set_cons_succ]
                refine wpAnyH_take (i := 11) (oi := { dst := some 87, op := _, type := _, pos := _, after := _, guard := _ }) (v := undef) rfl (by kernel_rfl) (by kernel_rfl) (by kernel_rfl) (fun _ _ _ h => h) (Or.inr ⟨by rfl, rfl⟩) hS ?_
                try simp only [Act.put, List.setIfInBounds_toArray, List.set_cons_zero, List.set_cons_succ]
                refine wpAnyH_take (i := 12) (oi := { dst := some 88, op := _, type := _, pos := _, after := _, guard := _ }) (v := undef) rfl (by kernel_rfl) (by kernel_rfl) (by kernel_rfl) (fun _ _ _ h => h) (Or.inr ⟨by rfl, rfl⟩) hS ?_
                try simp only [Act.put, List.setIfInBounds_toArray, List.set_cons_zero, List.set_cons_succ]
                refine wpAnyH_take (i := 13) (oi := { dst := some 89, op := _, type := _, pos := _, after := _, guard := _ }) (v := undef) rfl (by kernel_rfl) (by kernel_rfl) (by kernel_rfl) (fun _ _ _ h => h) (Or.inr ⟨by rfl, rfl⟩) hS ?_
                try simp only [Act.put, List.setIfInBounds_toArray, List.set_cons_zero, List.set_cons_succ]
                refine wpAnyH_take (i := 14) (oi := { dst := some 90, op := _, type := _, pos := _, after := _, guard := _ }) (v := undef) rfl (by kernel_rfl) (by kernel_rfl) (by kernel_rfl) (fun _ _ _ h => h) (Or.inr ⟨by rfl, rfl⟩) hS ?_
                try simp only [Act.put, List.setIfInBounds_toArray, List.set_cons_zero, List.set_cons_succ]
                refine wpAnyH_take (i := 15) (oi := { dst := some 91, op := _, type := _, pos := _, after := _, guard := _ }) (v := ?_) rfl (by kernel_rfl) (by kernel_rfl) (by kernel_rfl) (fun _ _ _ h => h) (Or.inl ⟨by rfl, ?_⟩) hS ?_
                rotate_left
                · intro W hSw
                  have d0 : W.cell? ⟨p11, 0, none⟩ = some (.int .i64 z.k) := (hSw.2.2 0 _ rfl).1
                  have d5 : W.cell? ⟨p5, 5, none⟩ = some (.slice (some ⟨b, off, none⟩) n cp) := (HC5.out W hSw.1.below).1
                  go_simp
                  first | done | rfl
                try simp only [Act.put, List.setIfInBounds_toArray, List.set_cons_zero, List.set_cons_succ]
                refine wpAnyH_take (i := 16) (oi := { dst := some 9, op := _, type := _, pos := _, after := _, guard := _ }) (v := ?_) rfl (by kernel_rfl) (by kernel_rfl) (by kernel_rfl) (fun _ _ _ h => h) (Or.inl ⟨by rfl, ?_⟩) hS ?_
                rotate_left
                · intro W hSw
                  have d0 : W.cell? ⟨p11, 0, none⟩ = some (.int .i64 z.k) := (hSw.2.2 0 _ rfl).1
                  have d5 : W.cell? ⟨p5, 5, none⟩ = some (.slice (some ⟨b, off, none⟩) n cp) := (HC5.out W hSw.1.below).1
                  go_simp
                  first | done | rfl
                try simp only [Act.put, List.setIfInBounds_toArray, List.set_cons_zero, List.set_cons_succ]
                refine wpAnyH_done (by kernel_rfl) ?_ _
                refine NoPanic.normal ?_
                go_wp2_with fail
                go_roundw
                case rel => exact ⟨k + 1, by omega, by go_num, by rw [HSN.out]; rfl, hS.1⟩
                case measure => simp [intOf]; omega
            refine AllReadyH.cons (o := { dst := some 11, op := _, type := _, pos := _, after := _, guard := _ }) rfl (fun K hK => ?_) ?_
            · have hb : Below cw.heap.size cw (cw.alloc (.cells #[.int .i64 0, .int .i64 0, .int .i64 0, .int .i64 0, .int .u64 0, .int .u64 0, .int .i64 0, .int .i64 0, .int .i64 0, .int .u64 0, .int .i64 0, .int .i64 0, .int .i64 0, .int .i64 0, .string ⟨#[]⟩] 40)) := (Below.refl cw.heap.size cw).alloc (Nat.le_refl _) _
              have hA : Blk (cw.alloc (.cells #[.int .i64 0, .int .i64 0, .int .i64 0, .int .i64 0, .int .u64 0, .int .u64 0, .int .i64 0, .int .i64 0, .int .i64 0, .int .u64 0, .int .i64 0, .int .i64 0, .int .i64 0, .int .i64 0, .string ⟨#[]⟩] 40)) cw.heap.size #[.int .i64 0, .int .i64 0, .int .i64 0, .int .i64 0, .int .u64 0, .int .u64 0, .int .i64 0, .int .i64 0, .int .i64 0, .int .u64 0, .int .i64 0, .int .i64 0, .int .i64 0, .int .i64 0, .string ⟨#[]⟩] := Blk.new _ _ _ _ rfl
              have hp := hS.mkb.1
              replace hS := hS.later hb
              go_simp
              generalize cw.heap.size = p11 at hA hp ⊢
              generalize cw.alloc (.cells #[.int .i64 0, .int .i64 0, .int .i64 0, .int .i64 0, .int .u64 0, .int .u64 0, .int .i64 0, .int .i64 0, .int .i64 0, .int .u64 0, .int .i64 0, .int .i64 0, .int .i64 0, .int .i64 0, .string ⟨#[]⟩] 40) = cw at *
              clear hb
              refine hK.out _ _ hS (fun _ => ?_)
              clear hK K
              try simp only [Act.put, List.setIfInBounds_toArray, List.set_cons_zero, List.set_cons_succ]
              refine wpAnyH_ready (rs := [6]) (by kernel_rfl) (by simp) ?_
              refine AllReadyH.cons (o := { dst := some 75, op := _, type := _, pos := _, after := _, guard := _ }) rfl (fun K hK => ?_) AllReadyH.nil
              go_simp
              refine (says18_any y x.mo _ (HYIN.out _ hS.below) HY8.out.1 HY8.out.2).mono ?_
              rintro ev cw ⟨rfl, hb⟩
              replace hA := hA.later hb
              replace hS := hS.later hb
              clear hb
              refine hK.out _ _ hS (fun _ => ?_)
              clear hK K
              try simp only [Act.put, List.setIfInBounds_toArray, List.set_cons_zero, List.set_cons_succ]
              refine wpAnyH_ready (rs := [8]) (by kernel_rfl) (by simp) ?_
              refine AllReadyH.cons (o := { dst := none, op := _, type := _, pos := _, after := _, guard := _ }) rfl (fun K hK => ?_) AllReadyH.nil
              obtain ⟨cw, st6, hz6, hB6, hbe6, hot6⟩ := refill (cs := (y.says x.mo).row) 40 hA rfl (by kernel_rfl) (Ist.row_one _)
              replace hS : CnI w6 cw (mrow x.mo x.mv x.sum) := ⟨hS.below.trans (hbe6 _ (Nat.le_of_lt hp) hS.below.size), hot6 _ _ (Nat.ne_of_lt hp) hS.mkb⟩
              refine wp_store_eq 40 (Operand.tmp 11) (Operand.tmp 75) rfl st6 rfl rfl ?_
              clear hbe6 hot6 hz6 hA
              refine hK.out _ _ hS (fun _ => ?_)
              clear hK K
              try simp only [Act.put]
              refine wpAnyH_done (by kernel_rfl) ?_ _
              refine NoPanic.normal ?_
              have HSN := Lib.hid (HSNY.out acc HACC.out)
              generalize y.says x.mo = z at *
              cases acc
              · by_cases kz : z.k = 1
                · have kz := Lib.hid kz
                  go_wp2_with fail
                  refine wp_region_noPanic ?_
                  refine wp_region_held_drew (S := fun W => CnI w6 W (mrow x.mo x.mv x.sum) ∧ Blk W p11 z.row) (by kernel_rfl) (show CnI w6 cw.drew (mrow x.mo x.mv x.sum) ∧ Blk cw.drew p11 z.row from ⟨hS.later (Below.refl _ _).drew, hB6.drew⟩) (fun hS => ?_)
                  generalize cw.drew = cw at *
                  refine wpAnyH_take (i := 0) (oi := { dst := some 76, op := _, type := _, pos := _, after := _, guard := _ }) (v := ?_) rfl (by kernel_rfl) (by kernel_rfl) (by kernel_rfl) (fun _ _ _ h => h) (Or.inl ⟨by rfl, ?_⟩) hS ?_
                  rotate_left
                  · intro W hSw
                    have d0 : W.cell? ⟨p11, 0, none⟩ = some (.int .i64 1) := by rw [← kz.out]; exact (hSw.2.2 0 _ rfl).1
                    have d5 : W.cell? ⟨p5, 5, none⟩ = some (.slice (some ⟨b, off, none⟩) n cp) := (HC5.out W hSw.1.below).1
                    go_simp
                    first | done | rfl
                  try simp only [Act.put, List.setIfInBounds_toArray, List.set_cons_zero, List.set_cons_succ]
                  refine wpAnyH_take (i := 1) (oi := { dst := some 77, op := _, type := _, pos := _, after := _, guard := _ }) (v := ?_) rfl (by kernel_rfl) (by kernel_rfl) (by kernel_rfl) (fun _ _ _ h => h) (Or.inl ⟨by rfl, ?_⟩) hS ?_
                  rotate_left
                  · intro W hSw
                    have d0 : W.cell? ⟨p11, 0, none⟩ = some (.int .i64 1) := by rw [← kz.out]; exact (hSw.2.2 0 _ rfl).1
                    have d5 : W.cell? ⟨p5, 5, none⟩ = some (.slice (some ⟨b, off, none⟩) n cp) := (HC5.out W hSw.1.below).1
                    go_simp
                    first | done | rfl
                  try simp only [Act.put, List.setIfInBounds_toArray, List.set_cons_zero, List.set_cons_succ]
                  refine wpAnyH_take (i := 2) (oi := { dst := some 78, op := _, type := _, pos := _, after := _, guard := _ }) (v := ?_) rfl (by kernel_rfl) (by kernel_rfl) (by kernel_rfl) (fun _ _ _ h => h) (Or.inl ⟨by rfl, ?_⟩) hS ?_
                  rotate_left
                  · intro W hSw
                    have d0 : W.cell? ⟨p11, 0, none⟩ = some (.int .i64 1) := by rw [← kz.out]; exact (hSw.2.2 0 _ rfl).1
                    have d5 : W.cell? ⟨p5, 5, none⟩ = some (.slice (some ⟨b, off, none⟩) n cp) := (HC5.out W hSw.1.below).1
                    go_simp
                    first | done | rfl
                  try simp only [Act.put, List.setIfInBounds_toArray, List.set_cons_zero, List.set_cons_succ]
                  refine wpAnyH_take (i := 3) (oi := { dst := some 79, op := _, type := _, pos := _, after := _, guard := _ }) (v := ?_) rfl (by kernel_rfl) (by kernel_rfl) (by kernel_rfl) (fun _ _ _ h => h) (Or.inl ⟨by rfl, ?_⟩) hS ?_
                  rotate_left
                  · intro W hSw
                    have d0 : W.cell? ⟨p11, 0, none⟩ = some (.int .i64 1) := by rw [← kz.out]; exact (hSw.2.2 0 _ rfl).1
                    have d5 : W.cell? ⟨p5, 5, none⟩ = some (.slice (some ⟨b, off, none⟩) n cp) := (HC5.out W hSw.1.below).1
                    go_simp
                    first | done | rfl
                  try simp only [Act.put, List.setIfInBounds_toArray, List.set_cons_zero, List.set_cons_succ]
                  refine wpAnyH_take (i := 4) (oi := { dst := some 80, op := _, type := _, pos := _, after := _, guard := _ }) (v := ?_) rfl (by kernel_rfl) (by kernel_rfl) (by kernel_rfl) (fun _ _ _ h => h) (Or.inl ⟨by rfl, ?_⟩) hS ?_
                  rotate_left
                  · intro W hSw
                    have d0 : W.cell? ⟨p11, 0, none⟩ = some (.int .i64 1) := by rw [← kz.out]; exact (hSw.2.2 0 _ rfl).1
                    have d5 : W.cell? ⟨p5, 5, none⟩ = some (.slice (some ⟨b, off, none⟩) n cp) := (HC5.out W hSw.1.below).1
                    go_simp
                    first | done | rfl
                  try simp only [Act.put, List.setIfInBounds_toArray, List.set_cons_zero, List.set_cons_succ]
                  refine wpAnyH_take (i := 5) (oi := { dst := some 81, op := _, type := _, pos := _, after := _, guard := _ }) (v := ?_) rfl (by kernel_rfl) (by kernel_rfl) (by kernel_rfl) (fun _ _ _ h => h) (Or.inl ⟨by rfl, ?_⟩) hS ?_
                  rotate_left
                  · intro W hSw
                    have d0 : W.cell? ⟨p11, 0, none⟩ = some (.int .i64 1) := by rw [← kz.out]; exact (hSw.2.2 0 _ rfl).1
                    have d5 : W.cell? ⟨p5, 5, none⟩ = some (.slice (some ⟨b, off, none⟩) n cp) := (HC5.out W hSw.1.below).1
                    go_simp
                    first | done | rfl
                  try simp only [Act.put, List.setIfInBounds_toArray, List.set_cons_zero, List.set_cons_succ]
                  refine wpAnyH_take (i := 6) (oi := { dst := some 82, op := _, type := _, pos := _, after := _, guard := _ }) (v := ?_) rfl (by kernel_rfl) (by kernel_rfl) (by kernel_rfl) (fun _ _ _ h => h) (Or.inl ⟨by rfl, ?_⟩) hS ?_
                  rotate_left
                  · intro W hSw
                    have d0 : W.cell? ⟨p11, 0, none⟩ = some (.int .i64 1) := by rw [← kz.out]; exact (hSw.2.2 0 _ rfl).1
                    have d5 : W.cell? ⟨p5, 5, none⟩ = some (.slice (some ⟨b, off, none⟩) n cp) := (HC5.out W hSw.1.below).1
                    go_simp
                    first | done | rfl
                  try simp only [Act.put, List.setIfInBounds_toArray, List.set_cons_zero, List.set_cons_succ]
                  refine wpAnyH_take (i := 8) (oi := { dst := some 84, op := _, type := _, pos := _, after := _, guard := _ }) (v := ?_) rfl (by kernel_rfl) (by kernel_rfl) (by kernel_rfl) (fun _ _ _ h => h) (Or.inl ⟨by rfl, ?_⟩) hS ?_
                  rotate_left
                  · intro W hSw
                    have d0 : W.cell? ⟨p11, 0, none⟩ = some (.int .i64 1) := by rw [← kz.out]; exact (hSw.2.2 0 _ rfl).1
                    have d5 : W.cell? ⟨p5, 5, none⟩ = some (.slice (some ⟨b, off, none⟩) n cp) := (HC5.out W hSw.1.below).1
                    go_simp
                    first | done | rfl
                  try simp only [Act.put, List.setIfInBounds_toArray, List.set_cons_zero, List.set_cons_succ]
                  refine wpAnyH_take (i := 10) (oi := { dst := some 86, op := _, type := _, pos := _, after := _, guard := _ }) (v := ?_) rfl (by kernel_rfl) (by kernel_rfl) (by kernel_rfl) (fun _ _ _ h => h) (Or.inl ⟨by rfl, ?_⟩) hS ?_
                  rotate_left
                  · intro W hSw
                    have d0 : W.cell? ⟨p11, 0, none⟩ = some (.int .i64 1) := by rw [← kz.out]; exact (hSw.2.2 0 _ rfl).1
                    have d5 : W.cell? ⟨p5, 5, none⟩ = some (.slice (some ⟨b, off, none⟩) n cp) := (HC5.out W hSw.1.below).1
                    go_simp
                    first | done | rfl
                  try simp only [Act.put, List.setIfInBounds_toArray, List.set_cons_zero, List.set_cons_succ]
                  refine wpAnyH_take (i := 7) (oi := { dst := some 83, op := _, type := _, pos := _, after := _, guard := _ }) (v := .agg z.e.row) rfl (by kernel_rfl) (by kernel_rfl) (by kernel_rfl) (fun _ _ _ h => h) (Or.inl ⟨by rfl, ?_⟩) hS ?_
                  · intro W hSw
                    have d0 : W.cell? ⟨p11, 0, none⟩ = some (.int .i64 1) := by rw [← kz.out]; exact (hSw.2.2 0 _ rfl).1
                    have d5 : W.cell? ⟨p5, 5, none⟩ = some (.slice (some ⟨b, off, none⟩) n cp) := (HC5.out W hSw.1.below).1
                    exact exec_load 35 (Operand.tmp 82) rfl rfl (it_ldE hSw.2)
                  try simp only [Act.put, List.setIfInBounds_toArray, List.set_cons_zero, List.set_cons_succ]
                  refine wpAnyH_take (i := 9) (oi := { dst := some 85, op := _, type := _, pos := _, after := _, guard := _ }) (v := ?_) rfl (by kernel_rfl) (by kernel_rfl) (by kernel_rfl) (fun _ _ _ h => h) (Or.inl ⟨by rfl, ?_⟩) hS ?_
                  rotate_left
                  · intro W hSw
                    have d0 : W.cell? ⟨p11, 0, none⟩ = some (.int .i64 1) := by rw [← kz.out]; exact (hSw.2.2 0 _ rfl).1
                    have d5 : W.cell? ⟨p5, 5, none⟩ = some (.slice (some ⟨b, off, none⟩) n cp) := (HC5.out W hSw.1.below).1
                    go_simp
                    first | done | rfl
                  try simp only [Act.put, List.setIfInBounds_toArray, List.set_cons_zero, List.set_cons_succ]
                  refine wpAnyH_take (i := 11) (oi := { dst := some 87, op := _, type := _, pos := _, after := _, guard := _ }) (v := ?_) rfl (by kernel_rfl) (by kernel_rfl) (by kernel_rfl) (fun _ _ _ h => h) (Or.inl ⟨by rfl, ?_⟩) hS ?_
                  rotate_left
                  · intro W hSw
                    have d0 : W.cell? ⟨p11, 0, none⟩ = some (.int .i64 1) := by rw [← kz.out]; exact (hSw.2.2 0 _ rfl).1
                    have d5 : W.cell? ⟨p5, 5, none⟩ = some (.slice (some ⟨b, off, none⟩) n cp) := (HC5.out W hSw.1.below).1
                    go_simp
                    first | done | rfl
                  try simp only [Act.put, List.setIfInBounds_toArray, List.set_cons_zero, List.set_cons_succ]
                  refine wpAnyH_take (i := 12) (oi := { dst := some 88, op := _, type := _, pos := _, after := _, guard := _ }) (v := .agg x.row) rfl (by kernel_rfl) (by kernel_rfl) (by kernel_rfl) (fun _ _ _ h => h) (Or.inl ⟨by rfl, ?_⟩) hS ?_
                  · intro W hSw
                    have d0 : W.cell? ⟨p11, 0, none⟩ = some (.int .i64 1) := by rw [← kz.out]; exact (hSw.2.2 0 _ rfl).1
                    have d5 : W.cell? ⟨p5, 5, none⟩ = some (.slice (some ⟨b, off, none⟩) n cp) := (HC5.out W hSw.1.below).1
                    exact exec_load 35 (Operand.tmp 87) rfl rfl (HLE.out W hSw.1.below)
                  try simp only [Act.put, List.setIfInBounds_toArray, List.set_cons_zero, List.set_cons_succ]
                  refine wpAnyH_take (i := 13) (oi := { dst := some 89, op := _, type := _, pos := _, after := _, guard := _ }) (v := .bool (decide (z.e = x))) rfl (by kernel_rfl) (by kernel_rfl) (by kernel_rfl) (fun _ _ _ h => h) (Or.inl ⟨by rfl, ?_⟩) hS ?_
                  · intro W hSw
                    have d0 : W.cell? ⟨p11, 0, none⟩ = some (.int .i64 1) := by rw [← kz.out]; exact (hSw.2.2 0 _ rfl).1
                    have d5 : W.cell? ⟨p5, 5, none⟩ = some (.slice (some ⟨b, off, none⟩) n cp) := (HC5.out W hSw.1.below).1
                    exact exec_eql 35 _ (Operand.tmp 83) (Operand.tmp 88) rfl rfl rfl (eq_est z.e x)
                  try simp only [Act.put, List.setIfInBounds_toArray, List.set_cons_zero, List.set_cons_succ]
                  refine wpAnyH_take (i := 14) (oi := { dst := some 90, op := _, type := _, pos := _, after := _, guard := _ }) (v := ?_) rfl (by kernel_rfl) (by kernel_rfl) (by kernel_rfl) (fun _ _ _ h => h) (Or.inl ⟨by rfl, ?_⟩) hS ?_
                  rotate_left
                  · intro W hSw
                    have d0 : W.cell? ⟨p11, 0, none⟩ = some (.int .i64 1) := by rw [← kz.out]; exact (hSw.2.2 0 _ rfl).1
                    have d5 : W.cell? ⟨p5, 5, none⟩ = some (.slice (some ⟨b, off, none⟩) n cp) := (HC5.out W hSw.1.below).1
                    go_simp
                    first | done | rfl
                  try simp only [Act.put, List.setIfInBounds_toArray, List.set_cons_zero, List.set_cons_succ]
                  refine wpAnyH_take (i := 15) (oi := { dst := some 91, op := _, type := _, pos := _, after := _, guard := _ }) (v := ?_) rfl (by kernel_rfl) (by kernel_rfl) (by kernel_rfl) (fun _ _ _ h => h) (Or.inl ⟨by rfl, ?_⟩) hS ?_
                  rotate_left
                  · intro W hSw
                    have d0 : W.cell? ⟨p11, 0, none⟩ = some (.int .i64 1) := by rw [← kz.out]; exact (hSw.2.2 0 _ rfl).1
                    have d5 : W.cell? ⟨p5, 5, none⟩ = some (.slice (some ⟨b, off, none⟩) n cp) := (HC5.out W hSw.1.below).1
                    go_simp
                    first | done | rfl
                  try simp only [Act.put, List.setIfInBounds_toArray, List.set_cons_zero, List.set_cons_succ]
                  refine wpAnyH_take (i := 16) (oi := { dst := some 9, op := _, type := _, pos := _, after := _, guard := _ }) (v := ?_) rfl (by kernel_rfl) (by kernel_rfl) (by kernel_rfl) (fun _ _ _ h => h) (Or.inl ⟨by rfl, ?_⟩) hS ?_
                  rotate_left
                  · intro W hSw
                    have d0 : W.cell? ⟨p11, 0, none⟩ = some (.int .i64 1) := by rw [← kz.out]; exact (hSw.2.2 0 _ rfl).1
                    have d5 : W.cell? ⟨p5, 5, none⟩ = some (.slice (some ⟨b, off, none⟩) n cp) := (HC5.out W hSw.1.below).1
                    go_simp
                    first | done | rfl
                  try simp only [Act.put, List.setIfInBounds_toArray, List.set_cons_zero, List.set_cons_succ]
                  refine wpAnyH_done (by kernel_rfl) ?_ _
                  refine NoPanic.normal ?_
                  go_wp2_with fail
                  go_roundw
                  case rel => exact ⟨k + 1, by omega, by go_num, by rw [HSN.out]; rw [kz.out]; cases decide (z.e = x) <;> rfl, hS.1⟩
                  case measure => simp [intOf]; omega
              
                · have kzb : (z.k == 1) = false := beq_eq_false_iff_ne.2 kz
                  have kz := Lib.hid kz
                  go_wp2_with fail
                  refine wp_region_noPanic ?_
                  refine wp_region_held_drew (S := fun W => CnI w6 W (mrow x.mo x.mv x.sum) ∧ Blk W p11 z.row) (by kernel_rfl) (show CnI w6 cw.drew (mrow x.mo x.mv x.sum) ∧ Blk cw.drew p11 z.row from ⟨hS.later (Below.refl _ _).drew, hB6.drew⟩) (fun hS => ?_)
                  generalize cw.drew = cw at *
                  refine wpAnyH_take (i := 0) (oi := { dst := some 76, op := _, type := _, pos := _, after := _, guard := _ }) (v := ?_) rfl (by kernel_rfl) (by kernel_rfl) (by kernel_rfl) (fun _ _ _ h => h) (Or.inl ⟨by rfl, ?_⟩) hS ?_
                  rotate_left
                  · intro W hSw
                    have d0 : W.cell? ⟨p11, 0, none⟩ = some (.int .i64 z.k) := (hSw.2.2 0 _ rfl).1
                    have d5 : W.cell? ⟨p5, 5, none⟩ = some (.slice (some ⟨b, off, none⟩) n cp) := (HC5.out W hSw.1.below).1
                    go_simp
                    first | done | rfl
                  try simp only [Act.put, List.setIfInBounds_toArray, List.set_cons_zero, List.set_cons_succ]
                  refine wpAnyH_take (i := 1) (oi := { dst := some 77, op := _, type := _, pos := _, after := _, guard := _ }) (v := ?_) rfl (by kernel_rfl) (by kernel_rfl) (by kernel_rfl) (fun _ _ _ h => h) (Or.inl ⟨by rfl, ?_⟩) hS ?_
                  rotate_left
                  · intro W hSw
                    have d0 : W.cell? ⟨p11, 0, none⟩ = some (.int .i64 z.k) := (hSw.2.2 0 _ rfl).1
                    have d5 : W.cell? ⟨p5, 5, none⟩ = some (.slice (some ⟨b, off, none⟩) n cp) := (HC5.out W hSw.1.below).1
                    go_simp
                    first | done | rfl
                  try simp only [Act.put, List.setIfInBounds_toArray, List.set_cons_zero, List.set_cons_succ]
                  refine wpAnyH_take (i := 2) (oi := { dst := some 78, op := _, type := _, pos := _, after := _, guard := _ }) (v := ?_) rfl (by kernel_rfl) (by kernel_rfl) (by kernel_rfl) (fun _ _ _ h => h) (Or.inl ⟨by rfl, ?_⟩) hS ?_
                  rotate_left
                  · intro W hSw
                    have d0 : W.cell? ⟨p11, 0, none⟩ = some (.int .i64 z.k) := (hSw.2.2 0 _ rfl).1
                    have d5 : W.cell? ⟨p5, 5, none⟩ = some (.slice (some ⟨b, off, none⟩) n cp) := (HC5.out W hSw.1.below).1
                    go_simp
                    first | done | rfl
                  try simp only [Act.put, List.setIfInBounds_toArray, List.set_cons_zero, List.set_cons_succ]
                  refine wpAnyH_take (i := 3) (oi := { dst := some 79, op := _, type := _, pos := _, after := _, guard := _ }) (v := ?_) rfl (by kernel_rfl) (by kernel_rfl) (by kernel_rfl) (fun _ _ _ h => h) (Or.inl ⟨by rfl, ?_⟩) hS ?_
                  rotate_left
                  · intro W hSw
                    have d0 : W.cell? ⟨p11, 0, none⟩ = some (.int .i64 z.k) := (hSw.2.2 0 _ rfl).1
                    have d5 : W.cell? ⟨p5, 5, none⟩ = some (.slice (some ⟨b, off, none⟩) n cp) := (HC5.out W hSw.1.below).1
                    go_simp
                    first | done | rfl
                  try simp only [Act.put, List.setIfInBounds_toArray, List.set_cons_zero, List.set_cons_succ]
                  refine wpAnyH_take (i := 4) (oi := { dst := some 80, op := _, type := _, pos := _, after := _, guard := _ }) (v := .bool false) rfl (by kernel_rfl) (by kernel_rfl) (by kernel_rfl) (fun _ _ _ h => h) (Or.inl ⟨by rfl, ?_⟩) hS ?_
                  · intro W hSw
                    have d0 : W.cell? ⟨p11, 0, none⟩ = some (.int .i64 z.k) := (hSw.2.2 0 _ rfl).1
                    have d5 : W.cell? ⟨p5, 5, none⟩ = some (.slice (some ⟨b, off, none⟩) n cp) := (HC5.out W hSw.1.below).1
                    go_simp
                    first | done | rfl
                  try simp only [Act.put, List.setIfInBounds_toArray, List.set_cons_zero, List.set_cons_succ]
                  refine wpAnyH_take (i := 5) (oi := { dst := some 81, op := _, type := _, pos := _, after := _, guard := _ }) (v := ?_) rfl (by kernel_rfl) (by kernel_rfl) (by kernel_rfl) (fun _ _ _ h => h) (Or.inl ⟨by rfl, ?_⟩) hS ?_
                  rotate_left
                  · intro W hSw
                    have d0 : W.cell? ⟨p11, 0, none⟩ = some (.int .i64 z.k) := (hSw.2.2 0 _ rfl).1
                    have d5 : W.cell? ⟨p5, 5, none⟩ = some (.slice (some ⟨b, off, none⟩) n cp) := (HC5.out W hSw.1.below).1
                    go_simp
                    first | done | rfl
                  try simp only [Act.put, List.setIfInBounds_toArray, List.set_cons_zero, List.set_cons_succ]
                  refine wpAnyH_take (i := 6) (oi := { dst := some 82, op := _, type := _, pos := _, after := _, guard := _ }) (v := undef) rfl (by kernel_rfl) (by kernel_rfl) (by kernel_rfl) (fun _ _ _ h => h) (Or.inr ⟨by rfl, rfl⟩) hS ?_
                  try simp only [Act.put, List.setIfInBounds_toArray, List.set_cons_zero, List.set_cons_succ]
                  refine wpAnyH_take (i := 8) (oi := { dst := some 84, op := _, type := _, pos := _, after := _, guard := _ }) (v := undef) rfl (by kernel_rfl) (by kernel_rfl) (by kernel_rfl) (fun _ _ _ h => h) (Or.inr ⟨by rfl, rfl⟩) hS ?_
                  try simp only [Act.put, List.setIfInBounds_toArray, List.set_cons_zero, List.set_cons_succ]
                  refine wpAnyH_take (i := 10) (oi := { dst := some 86, op := _, type := _, pos := _, after := _, guard := _ }) (v := undef) rfl (by kernel_rfl) (by kernel_rfl) (by kernel_rfl) (fun _ _ _ h => h) (Or.inr ⟨by rfl, rfl⟩) hS ?_
                  try simp only [Act.put, List.setIfInBounds_toArray, List.set_cons_zero, List.set_cons_succ]
                  refine wpAnyH_take (i := 7) (oi := { dst := some 83, op := _, type := _, pos := _, after := _, guard := _ }) (v := undef) rfl (by kernel_rfl) (by kernel_rfl) (by kernel_rfl) (fun _ _ _ h => h) (Or.inr ⟨by rfl, rfl⟩) hS ?_
                  try simp only [Act.put, List.setIfInBounds_toArray, List.set_cons_zero, List.set_cons_succ]
                  refine wpAnyH_take (i := 9) (oi := { dst := some 85, op := _, type := _, pos := _, after := _, guard := _ }) (v := undef) rfl (by kernel_rfl) (by kernel_rfl) (by kernel_rfl) (fun _ _ _ h => h) (Or.inr ⟨by rfl, rfl⟩) hS ?_
                  try simp only [Act.put, List.setIfInBounds_toArray, List.set_cons_zero, List.set_cons_succ]
                  refine wpAnyH_take (i := 11) (oi := { dst := some 87, op := _, type := _, pos := _, after := _, guard := _ }) (v := undef) rfl (by kernel_rfl) (by kernel_rfl) (by kernel_rfl) (fun _ _ _ h => h) (Or.inr ⟨by rfl, rfl⟩) hS ?_
                  try simp only [Act.put, List.setIfInBounds_toArray, List.set_cons_zero, List.set_cons_succ]
                  refine wpAnyH_take (i := 12) (oi := { dst := some 88, op := _, type := _, pos := _, after := _, guard := _ }) (v := undef) rfl (by kernel_rfl) (by kernel_rfl) (by kernel_rfl) (fun _ _ _ h => h) (Or.inr ⟨by rfl, rfl⟩) hS ?_
                  try simp only [Act.put, List.setIfInBounds_toArray, List.set_cons_zero, List.set_cons_succ]
                  refine wpAnyH_take (i := 13) (oi := { dst := some 89, op := _, type := _, pos := _, after := _, guard := _ }) (v := undef) rfl (by kernel_rfl) (by kernel_rfl) (by kernel_rfl) (fun _ _ _ h => h) (Or.inr ⟨by rfl, rfl⟩) hS ?_
                  try simp only [Act.put, List.setIfInBounds_toArray, List.set_cons_zero, List.set_cons_succ]
                  refine wpAnyH_take (i := 14) (oi := { dst := some 90, op := _, type := _, pos := _, after := _, guard := _ }) (v := ?_) rfl (by kernel_rfl) (by kernel_rfl) (by kernel_rfl) (fun _ _ _ h => h) (Or.inl ⟨by rfl, ?_⟩) hS ?_
                  rotate_left
                  · intro W hSw
                    have d0 : W.cell? ⟨p11, 0, none⟩ = some (.int .i64 z.k) := (hSw.2.2 0 _ rfl).1
                    have d5 : W.cell? ⟨p5, 5, none⟩ = some (.slice (some ⟨b, off, none⟩) n cp) := (HC5.out W hSw.1.below).1
                    go_simp
                    first | done | rfl
                  try simp only [Act.put, List.setIfInBounds_toArray, List.set_cons_zero, List.set_cons_succ]
                  refine wpAnyH_take (i := 15) (oi := { dst := some 91, op := _, type := _, pos := _, after := _, guard := _ }) (v := ?_) rfl (by kernel_rfl) (by kernel_rfl) (by kernel_rfl) (fun _ _ _ h => h) (Or.inl ⟨by rfl, ?_⟩) hS ?_
                  rotate_left
                  · intro W hSw
                    have d0 : W.cell? ⟨p11, 0, none⟩ = some (.int .i64 z.k) := (hSw.2.2 0 _ rfl).1
                    have d5 : W.cell? ⟨p5, 5, none⟩ = some (.slice (some ⟨b, off, none⟩) n cp) := (HC5.out W hSw.1.below).1
                    go_simp
                    first | done | rfl
                  try simp only [Act.put, List.setIfInBounds_toArray, List.set_cons_zero, List.set_cons_succ]
                  refine wpAnyH_take (i := 16) (oi := { dst := some 9, op := _, type := _, pos := _, after := _, guard := _ }) (v := ?_) rfl (by kernel_rfl) (by kernel_rfl) (by kernel_rfl) (fun _ _ _ h => h) (Or.inl ⟨by rfl, ?_⟩) hS ?_
                  rotate_left
                  · intro W hSw
                    have d0 : W.cell? ⟨p11, 0, none⟩ = some (.int .i64 z.k) := (hSw.2.2 0 _ rfl).1
                    have d5 : W.cell? ⟨p5, 5, none⟩ = some (.slice (some ⟨b, off, none⟩) n cp) := (HC5.out W hSw.1.below).1
                    go_simp
                    first | done | rfl
                  try simp only [Act.put, List.setIfInBounds_toArray, List.set_cons_zero, List.set_cons_succ]
                  refine wpAnyH_done (by kernel_rfl) ?_ _
                  refine NoPanic.normal ?_
                  go_wp2_with fail
                  go_roundw
                  case rel => exact ⟨k + 1, by omega, by go_num, by rw [HSN.out]; rw [decide_eq_false kz.out]; rfl, hS.1⟩
                  case measure => simp [intOf]; omega
              
              · skip
                go_wp2_with fail
                refine wp_region_noPanic ?_
                refine wp_region_held_drew (S := fun W => CnI w6 W (mrow x.mo x.mv x.sum) ∧ Blk W p11 z.row) (by kernel_rfl) (show CnI w6 cw.drew (mrow x.mo x.mv x.sum) ∧ Blk cw.drew p11 z.row from ⟨hS.later (Below.refl _ _).drew, hB6.drew⟩) (fun hS => ?_)
                generalize cw.drew = cw at *
                refine wpAnyH_take (i := 0) (oi := { dst := some 76, op := _, type := _, pos := _, after := _, guard := _ }) (v := ?_) rfl (by kernel_rfl) (by kernel_rfl) (by kernel_rfl) (fun _ _ _ h => h) (Or.inl ⟨by rfl, ?_⟩) hS ?_
                rotate_left
                · intro W hSw
                  have d0 : W.cell? ⟨p11, 0, none⟩ = some (.int .i64 z.k) := (hSw.2.2 0 _ rfl).1
                  have d5 : W.cell? ⟨p5, 5, none⟩ = some (.slice (some ⟨b, off, none⟩) n cp) := (HC5.out W hSw.1.below).1
                  go_simp
                  first | done | rfl
                try simp only [Act.put, List.setIfInBounds_toArray, List.set_cons_zero, List.set_cons_succ]
                refine wpAnyH_take (i := 1) (oi := { dst := some 77, op := _, type := _, pos := _, after := _, guard := _ }) (v := ?_) rfl (by kernel_rfl) (by kernel_rfl) (by kernel_rfl) (fun _ _ _ h => h) (Or.inl ⟨by rfl, ?_⟩) hS ?_
                rotate_left
                · intro W hSw
                  have d0 : W.cell? ⟨p11, 0, none⟩ = some (.int .i64 z.k) := (hSw.2.2 0 _ rfl).1
                  have d5 : W.cell? ⟨p5, 5, none⟩ = some (.slice (some ⟨b, off, none⟩) n cp) := (HC5.out W hSw.1.below).1
                  go_simp
                  first | done | rfl
                try simp only [Act.put, List.setIfInBounds_toArray, List.set_cons_zero, List.set_cons_succ]
                refine wpAnyH_take (i := 2) (oi := { dst := some 78, op := _, type := _, pos := _, after := _, guard := _ }) (v := undef) rfl (by kernel_rfl) (by kernel_rfl) (by kernel_rfl) (fun _ _ _ h => h) (Or.inr ⟨by rfl, rfl⟩) hS ?_
                try simp only [Act.put, List.setIfInBounds_toArray, List.set_cons_zero, List.set_cons_succ]
                refine wpAnyH_take (i := 3) (oi := { dst := some 79, op := _, type := _, pos := _, after := _, guard := _ }) (v := undef) rfl (by kernel_rfl) (by kernel_rfl) (by kernel_rfl) (fun _ _ _ h => h) (Or.inr ⟨by rfl, rfl⟩) hS ?_
                try simp only [Act.put, List.setIfInBounds_toArray, List.set_cons_zero, List.set_cons_succ]
                refine wpAnyH_take (i := 4) (oi := { dst := some 80, op := _, type := _, pos := _, after := _, guard := _ }) (v := undef) rfl (by kernel_rfl) (by kernel_rfl) (by kernel_rfl) (fun _ _ _ h => h) (Or.inr ⟨by rfl, rfl⟩) hS ?_
                try simp only [Act.put, List.setIfInBounds_toArray, List.set_cons_zero, List.set_cons_succ]
                refine wpAnyH_take (i := 5) (oi := { dst := some 81, op := _, type := _, pos := _, after := _, guard := _ }) (v := undef) rfl (by kernel_rfl) (by kernel_rfl) (by kernel_rfl) (fun _ _ _ h => h) (Or.inr ⟨by rfl, rfl⟩) hS ?_
                try simp only [Act.put, List.setIfInBounds_toArray, List.set_cons_zero, List.set_cons_succ]
                refine wpAnyH_take (i := 6) (oi := { dst := some 82, op := _, type := _, pos := _, after := _, guard := _ }) (v := undef) rfl (by kernel_rfl) (by kernel_rfl) (by kernel_rfl) (fun _ _ _ h => h) (Or.inr ⟨by rfl, rfl⟩) hS ?_
                try simp only [Act.put, List.setIfInBounds_toArray, List.set_cons_zero, List.set_cons_succ]
                refine wpAnyH_take (i := 8) (oi := { dst := some 84, op := _, type := _, pos := _, after := _, guard := _ }) (v := undef) rfl (by kernel_rfl) (by kernel_rfl) (by kernel_rfl) (fun _ _ _ h => h) (Or.inr ⟨by rfl, rfl⟩) hS ?_
                try simp only [Act.put, List.setIfInBounds_toArray, List.set_cons_zero, List.set_cons_succ]
                refine wpAnyH_take (i := 10) (oi := { dst := some 86, op := _, type := _, pos := _, after := _, guard := _ }) (v := undef) rfl (by kernel_rfl) (by kernel_rfl) (by kernel_rfl) (fun _ _ _ h => h) (Or.inr ⟨by rfl, rfl⟩) hS ?_
                try simp only [Act.put, List.setIfInBounds_toArray, List.set_cons_zero, List.set_cons_succ]
                refine wpAnyH_take (i := 7) (oi := { dst := some 83, op := _, type := _, pos := _, after := _, guard := _ }) (v := undef) rfl (by kernel_rfl) (by kernel_rfl) (by kernel_rfl) (fun _ _ _ h => h) (Or.inr ⟨by rfl, rfl⟩) hS ?_
                try simp only [Act.put, List.setIfInBounds_toArray, List.set_cons_zero, List.set_cons_succ]
                refine wpAnyH_take (i := 9) (oi := { dst := some 85, op := _, type := _, pos := _, after := _, guard := _ }) (v := undef) rfl (by kernel_rfl) (by kernel_rfl) (by kernel_rfl) (fun _ _ _ h => h) (Or.inr ⟨by rfl, rfl⟩) hS ?_
                try simp only [Act.put, List.setIfInBounds_toArray, List.set_cons_zero, List.set_cons_succ]
                refine wpAnyH_take (i := 11) (oi := { dst := some 87, op := _, type := _, pos := _, after := _, guard := _ }) (v := undef) rfl (by kernel_rfl) (by kernel_rfl) (by kernel_rfl) (fun _ _ _ h => h) (Or.inr ⟨by rfl, rfl⟩) hS ?_
                try simp only [Act.put, List.setIfInBounds_toArray, List.set_cons_zero, List.set_cons_succ]
                refine wpAnyH_take (i := 12) (oi := { dst := some 88, op := _, type := _, pos := _, after := _, guard := _ }) (v := undef) rfl (by kernel_rfl) (by kernel_rfl) (by kernel_rfl) (fun _ _ _ h => h) (Or.inr ⟨by rfl, rfl⟩) hS ?_
                try simp only [Act.put, List.setIfInBounds_toArray, List.set_cons_zero, List.set_cons_succ]
                refine wpAnyH_take (i := 13) (oi := { dst := some 89, op := _, type := _, pos := _, after := _, guard := _ }) (v := undef) rfl (by kernel_rfl) (by kernel_rfl) (by kernel_rfl) (fun _ _ _ h => h) (Or.inr ⟨by rfl, rfl⟩) hS ?_
                try simp only [Act.put, List.setIfInBounds_toArray, List.set_cons_zero, List.set_cons_succ]
                refine wpAnyH_take (i := 14) (oi := { dst := some 90, op := _, type := _, pos := _, after := _, guard := _ }) (v := undef) rfl (by kernel_rfl) (by kernel_rfl) (by kernel_rfl) (fun _ _ _ h => h) (Or.inr ⟨by rfl, rfl⟩) hS ?_
                try simp only [Act.put, List.setIfInBounds_toArray, List.set_cons_zero, List.set_cons_succ]
                refine wpAnyH_take (i := 15) (oi := { dst := some 91, op := _, type := _, pos := _, after := _, guard := _ }) (v := ?_) rfl (by kernel_rfl) (by kernel_rfl) (by kernel_rfl) (fun _ _ _ h => h) (Or.inl ⟨by rfl, ?_⟩) hS ?_
                rotate_left
                · intro W hSw
                  have d0 : W.cell? ⟨p11, 0, none⟩ = some (.int .i64 z.k) := (hSw.2.2 0 _ rfl).1
                  have d5 : W.cell? ⟨p5, 5, none⟩ = some (.slice (some ⟨b, off, none⟩) n cp) := (HC5.out W hSw.1.below).1
                  go_simp
                  first | done | rfl
                try simp only [Act.put, List.setIfInBounds_toArray, List.set_cons_zero, List.set_cons_succ]
                refine wpAnyH_take (i := 16) (oi := { dst := some 9, op := _, type := _, pos := _, after := _, guard := _ }) (v := ?_) rfl (by kernel_rfl) (by kernel_rfl) (by kernel_rfl) (fun _ _ _ h => h) (Or.inl ⟨by rfl, ?_⟩) hS ?_
                rotate_left
                · intro W hSw
                  have d0 : W.cell? ⟨p11, 0, none⟩ = some (.int .i64 z.k) := (hSw.2.2 0 _ rfl).1
                  have d5 : W.cell? ⟨p5, 5, none⟩ = some (.slice (some ⟨b, off, none⟩) n cp) := (HC5.out W hSw.1.below).1
                  go_simp
                  first | done | rfl
                try simp only [Act.put, List.setIfInBounds_toArray, List.set_cons_zero, List.set_cons_succ]
                refine wpAnyH_done (by kernel_rfl) ?_ _
                refine NoPanic.normal ?_
                go_wp2_with fail
                go_roundw
                case rel => exact ⟨k + 1, by omega, by go_num, by rw [HSN.out]; rfl, hS.1⟩
                case measure => simp [intOf]; omega
            exact AllReadyH.nil
        
          · obtain rfl : k = K := by omega
            have HTK : Hid (l.take k = l) := Lib.hid (by rw [HK.out, List.take_length])
            rw [HTK.out, HANY.out]
            go_wp2_with fail
            go_roundw
            case rel => exact ⟨j + 1, by omega, by go_num, by rw [HMS.out]; exact HSR.out⟩
            case measure => simp [intOf]; omega

      · obtain rfl : j = n := by omega
        clear HCHN
        go_wp2_with fail
        go_ret
        exact ⟨rfl, HB6.out.trans (HSR.out.below.mono HB6.out.size)⟩
end Go.Proofs.YtpbjjmenkoigjaaDoor
end

/- What was decided once stays: the plain law. sure of the law: the entry that is held, if none denies it. The walk of ChooseKeeps. -/
import Derived.Test.YtpbjjmenkoigjaaDoorMgLawChooseChainsAA
import Derived.Test.YtpbjjmenkoigjaaDoorMgLawChooseTurnsAN
section
namespace Go.Proofs.YtpbjjmenkoigjaaDoor
open Go.RowKit
set_option linter.unusedVariables false
def sureStep (n v : Int) (e : Est) (m : Mst) : Est := if v ≤ m.lv ∧ (m.says n).k = 1 ∧ e.o = 0 then (m.says n).e else e
def sureE (l : List Mst) (n v : Int) : Est := l.foldl (sureStep n v) Est.zero
def sureM (n v : Int) (s : Sst) (m : Mst) : Bool := decide (m.lv < v) || (decide ((m.says n).k = 3) || (decide ((m.says n).k ≠ 0) && decide ((m.says n).s = s)))
def sureB (l : List Mst) (n v : Int) : Bool := l.all (sureM n v (stubV (sureE l n v))) && decide ((sureE l n v).o = n)
theorem sure_from (n v : Int) : ∀ (l : List Mst) (e : Est), l.foldl (sureStep n v) e = e ∨ ∃ m ∈ l, v ≤ m.lv ∧ (m.says n).k = 1 ∧ (m.says n).e = l.foldl (sureStep n v) e
  | [], e => .inl rfl
  | m :: l, e => by
    rw [List.foldl_cons]
    rcases sure_from n v l (sureStep n v e m) with h | ⟨x, hx, h⟩
    · rw [h]
      unfold sureStep
      split
      · next q => exact .inr ⟨m, by simp, q.1, q.2.1, rfl⟩
      · exact .inl rfl
    · exact .inr ⟨x, List.mem_cons_of_mem _ hx, h⟩
/-- What is told where all who know of v or later tell one stub. -/
def ToldP (n v : Int) (S : Sst) (l : List Mst) (t : Int × Sst × Bool) : Prop :=
  (t = (-1, Sst.zero, false) ∨ (0 ≤ t.1 ∧ (v ≤ t.1 → t.2.2 = true ∧ t.2.1 = S))) ∧ ∀ m ∈ l, (m.says n).k ≠ 3 → m.lv ≤ t.1
theorem told_step {n v : Int} {S : Sst} {l : List Mst} {t : Int × Sst × Bool} {m : Mst} (h : ToldP n v S l t) (hm : 0 ≤ m.lv) (hs : v ≤ m.lv → (m.says n).k ≠ 3 → (m.says n).k ≠ 0 ∧ (m.says n).s = S) : ToldP n v S (l ++ [m]) (toldStep n t m) := by
  obtain ⟨h1, h2⟩ := h
  unfold toldStep
  by_cases hc : (m.says n).k = 3 ∨ m.lv < t.1
  · rw [if_pos hc]
    refine ⟨h1, fun x hx hk => ?_⟩
    rcases List.mem_append.1 hx with hx | hx
    · exact h2 x hx hk
    · obtain rfl : x = m := by simpa using hx
      rcases hc with q | q
      · exact absurd q hk
      · omega
  · rw [if_neg hc]
    have hk3 : (m.says n).k ≠ 3 := fun q => hc (.inl q)
    have hlv : t.1 ≤ m.lv := by
      have : ¬ m.lv < t.1 := fun q => hc (.inr q)
      omega
    have htop : (if t.1 < m.lv then m.lv else t.1) = m.lv := by split <;> omega
    have hall : ∀ x ∈ l ++ [m], (x.says n).k ≠ 3 → x.lv ≤ m.lv := fun x hx hk => by
      rcases List.mem_append.1 hx with hx | hx
      · exact Int.le_trans (h2 x hx hk) hlv
      · obtain rfl : x = m := by simpa using hx
        omega
    simp only [htop]
    by_cases hq : (m.says n).k ≠ 0 ∧ (if t.1 < m.lv then false else t.2.2) = false
    · rw [if_pos hq]
      exact ⟨.inr ⟨hm, fun hv => ⟨rfl, (hs hv hk3).2⟩⟩, hall⟩
    · rw [if_neg hq]
      refine ⟨.inr ⟨hm, fun hv => ?_⟩, hall⟩
      have hv : v ≤ m.lv := hv
      have hk0 := (hs hv hk3).1
      by_cases hlt : t.1 < m.lv
      · exact absurd ⟨hk0, by rw [if_pos hlt]⟩ hq
      · have he : t.1 = m.lv := by omega
        rcases h1 with h1 | h1
        · have : t.1 = -1 := by rw [h1]
          omega
        · show (if t.1 < m.lv then false else t.2.2) = true ∧ t.2.1 = S
          rw [if_neg hlt]
          exact h1.2 (by omega)
theorem told_all {n v : Int} {S : Sst} (hs : ∀ (m : Mst), v ≤ m.lv → (m.says n).k ≠ 3 → (m.says n).k ≠ 0 ∧ (m.says n).s = S → True) : ∀ (l2 l1 : List Mst) (t : Int × Sst × Bool), ToldP n v S l1 t → (∀ m ∈ l2, 0 ≤ m.lv ∧ (v ≤ m.lv → (m.says n).k ≠ 3 → (m.says n).k ≠ 0 ∧ (m.says n).s = S)) → ToldP n v S (l1 ++ l2) (l2.foldl (toldStep n) t)
  | [], l1, t, h, _ => by rw [List.append_nil]; exact h
  | m :: l2, l1, t, h, ha => by
    rw [List.foldl_cons, show l1 ++ m :: l2 = (l1 ++ [m]) ++ l2 by simp]
    have hm := ha m (by simp)
    exact told_all hs l2 (l1 ++ [m]) _ (told_step h hm.1 hm.2) (fun x hx => ha x (List.mem_cons_of_mem _ hx))
theorem told_sure {n v : Int} {S : Sst} {l : List Mst} (ha : ∀ m ∈ l, 0 ≤ m.lv ∧ (v ≤ m.lv → (m.says n).k ≠ 3 → (m.says n).k ≠ 0 ∧ (m.says n).s = S)) (hx : ∃ m ∈ l, v ≤ m.lv ∧ (m.says n).k = 1) : (told l n).2.2 = true ∧ (told l n).2.1 = S := by
  have h := told_all (n := n) (v := v) (S := S) (fun _ _ _ _ => trivial) l [] (-1, Sst.zero, false) ⟨.inl rfl, fun m hm => by cases hm⟩ ha
  rw [List.nil_append] at h
  obtain ⟨h1, h2⟩ := h
  obtain ⟨m, hm, hv, hk⟩ := hx
  have hle := h2 m hm (by omega)
  have hlv := (ha m hm).1
  unfold told
  rcases h1 with h1 | h1
  · rw [h1] at hle
    have : m.lv ≤ -1 := hle
    omega
  · exact h1.2 (by omega)
theorem held_find {l : List Mst} {n : Int} {s : Sst} (h : ∃ m ∈ l, (m.says n).k = 1 ∧ (m.says n).s = s) : ∃ e, held l n s = some e := by
  obtain ⟨m, hm, hk, hs⟩ := h
  unfold held
  cases hf : l.find? (hasIt n s) with
  | none =>
    have := List.find?_eq_none.1 hf m hm
    rw [hasIt_yes hk hs] at this
    exact absurd rfl this
  | some x => exact ⟨_, rfl⟩
/-- At a mark whose next entry is sure the run goes on, with an entry of its stub. -/
theorem sure_step {l : List Mst} (hl : ∀ m ∈ l, m.k = 7 ∧ rightB m = true) {o a s v : Int} (hb : sureB l (o + 1) v = true) (hf : (sureE l (o + 1) v).fol o a s = true) :
    ¬ badStub (told l (o + 1)) o a s ∧ ∃ e, held l (o + 1) (told l (o + 1)).2.1 = some e ∧ stubV e = stubV (sureE l (o + 1) v) := by
  unfold sureB at hb
  rw [Bool.and_eq_true, decide_eq_true_iff] at hb
  obtain ⟨hall, hop⟩ := hb
  unfold Est.fol folB at hf
  rw [Bool.and_eq_true, decide_eq_true_iff] at hf
  obtain ⟨hB, h1, h2, h3⟩ := hf
  have hB : (sureE l (o + 1) v).B = true := hB
  have hop1 := entB_op _ _ _ _ _ _ _ _ hB
  obtain ⟨m, hm, hv, hk, he⟩ : ∃ m ∈ l, v ≤ m.lv ∧ (m.says (o + 1)).k = 1 ∧ (m.says (o + 1)).e = sureE l (o + 1) v := by
    rcases sure_from (o + 1) v l Est.zero with h | h
    · have : (sureE l (o + 1) v).o = 0 := by unfold sureE; rw [h]; rfl
      omega
    · exact h
  have hit : ∀ m ∈ l, m.is.all itemB = true := fun m hm => ((rightB_iff m (hl m hm).1).1 (hl m hm).2).2.2.2.2.2.2.2.2
  have hst := (item_holds (says_item (hit m hm) (o + 1)) hk).2
  rw [he] at hst
  have ht := told_sure (l := l) (n := o + 1) (v := v) (S := stubV (sureE l (o + 1) v)) (fun x hx => ⟨((rightB_iff x (hl x hx).1).1 (hl x hx).2).2.2.2.1.1, fun hxv hx3 => by
    have := List.all_eq_true.1 hall x hx
    unfold sureM at this
    rw [decide_eq_false (by omega), decide_eq_false hx3, Bool.false_or, Bool.false_or, Bool.and_eq_true, decide_eq_true_iff, decide_eq_true_iff] at this
    exact this⟩) ⟨m, hm, hv, hk⟩
  have hsv : stubV (sureE l (o + 1) v) = ⟨(sureE l (o + 1) v).o, (sureE l (o + 1) v).v, (sureE l (o + 1) v).u, (sureE l (o + 1) v).p, (sureE l (o + 1) v).sum⟩ := if_pos hB
  refine ⟨?_, ?_⟩
  · unfold badStub
    rw [ht.2, ht.1, hsv]
    intro q
    rcases q with q | q | q | q
    · cases q
    · exact q (by show (sureE l (o + 1) v).o = o + 1; omega)
    · exact q h2
    · exact q h3
  · rw [ht.2]
    obtain ⟨e, hh⟩ := held_find (l := l) (n := o + 1) (s := stubV (sureE l (o + 1) v)) ⟨m, hm, hk, hst.symm⟩
    refine ⟨e, hh, ?_⟩
    obtain ⟨x, hx, hxk, hxs, hxe⟩ := held_some hh
    have := (item_holds (says_item (hit x hx) (o + 1)) hxk).2
    rw [← hxe, this, hxs]
theorem run_prefix {l : List Mst} {wh : Bool} : ∀ (f : Nat) (o v s : Int) (E E' : List Est), runC l wh f o v s E = some E' → ∃ R, E' = E ++ R
  | 0, o, v, s, E, E', h => by
    have h : some E = some E' := h
    injection h with h
    exact ⟨[], by rw [← h]; simp⟩
  | f + 1, o, v, s, E, E', h => by
    rw [show runC l wh (f + 1) o v s E = (if badStub (told l (o + 1)) o v s then some E else match held l (o + 1) (told l (o + 1)).2.1 with
      | none => if wh = true then some E else none
      | some e => runC l wh f e.mo e.mv e.sum (E ++ [e])) from rfl] at h
    split at h
    · injection h with h; exact ⟨[], by rw [← h]; simp⟩
    · split at h
      · split at h
        · injection h with h; exact ⟨[], by rw [← h]; simp⟩
        · cases h
      · next e _ =>
        obtain ⟨R, hR⟩ := run_prefix f _ _ _ _ _ h
        exact ⟨e :: R, by rw [hR]; simp⟩
theorem markAt_prefix (M : Int × Int × Int) (E R : List Est) {j : Nat} (h : j ≤ E.length) : markAt M (E ++ R) j = markAt M E j := by unfold markAt; rw [List.take_append_of_le_length h]
/-- Where the run could go on it has gone on. -/
theorem run_at {l : List Mst} {wh : Bool} (M : Int × Int × Int) : ∀ (f : Nat) (o v s : Int) (E E' : List Est), markAt M E E.length = (o, v, s) → runC l wh f o v s E = some E' →
    ∀ k, E.length ≤ k → k < E.length + f → k ≤ E'.length → ¬ badStub (told l ((markAt M E' k).1 + 1)) (markAt M E' k).1 (markAt M E' k).2.1 (markAt M E' k).2.2 → ∀ e, held l ((markAt M E' k).1 + 1) (told l ((markAt M E' k).1 + 1)).2.1 = some e → E'[k]? = some e
  | 0, o, v, s, E, E', hM, h, k, hk1, hk2, hk3, hb, e, he => by omega
  | f + 1, o, v, s, E, E', hM, h, k, hk1, hk2, hk3, hb, e, he => by
    obtain ⟨R, hR⟩ := run_prefix _ _ _ _ _ _ h
    rw [show runC l wh (f + 1) o v s E = (if badStub (told l (o + 1)) o v s then some E else match held l (o + 1) (told l (o + 1)).2.1 with
      | none => if wh = true then some E else none
      | some e => runC l wh f e.mo e.mv e.sum (E ++ [e])) from rfl] at h
    by_cases hkE : k = E.length
    · subst hkE
      have hmk : markAt M E' E.length = (o, v, s) := by rw [hR, markAt_prefix M E R (Nat.le_refl _), hM]
      rw [hmk] at hb he
      rw [if_neg hb] at h
      simp only at he
      rw [he] at h
      obtain ⟨R2, hR2⟩ := run_prefix _ _ _ _ _ _ h
      rw [hR2]
      simp
    · have hlen : E.length < E'.length := by omega
      split at h
      · injection h with h; rw [h] at hlen; omega
      · split at h
        · split at h
          · injection h with h; rw [h] at hlen; omega
          · cases h
        · next e2 _ =>
          have hlast : (E ++ [e2])[E.length]? = some e2 := by simp
          refine run_at M f e2.mo e2.mv e2.sum (E ++ [e2]) E' ?_ h k (by simp; omega) (by simp; omega) hk3 hb e he
          rw [List.length_append, show E.length + [e2].length = E.length + 1 from rfl, markAt_succ hlast]
theorem chooseV_run {C : Int} {L : List Mst} (h : (chooseV C L).r = true) : ∃ wh, runC (countsL C.toNat L) wh 8 (chooseV C L).co (chooseV C L).cv (chooseV C L).cs [] = some (chooseV C L).es := by
  unfold chooseV at *
  split at h
  · next hC =>
    rw [if_pos hC]
    generalize countsL C.toNat L = l at *
    unfold chooseL at *
    split at h
    · cases h
    · next hn =>
      rw [if_neg hn]
      split at h
      · cases h
      · next m0 l' _ =>
        split at h
        · cases h
        · next E hE =>
          simp only [hE]
          exact ⟨_, hE⟩
  · cases h
/-- THE LAW: what is sure behind a mark of the choice is chosen next, by its stub. -/
theorem keeps_plain {C v : Int} {L : List Mst} (h : (chooseV C L).r = true) (k : Nat) (hk : k < 8) (hk2 : k ≤ (chooseV C L).es.length) (M : Int × Int × Int) (hM : M = markAt ((chooseV C L).co, (chooseV C L).cv, (chooseV C L).cs) (chooseV C L).es k)
    (hb : sureB (countsL C.toNat L) (M.1 + 1) v = true) (hf : (sureE (countsL C.toNat L) (M.1 + 1) v).fol M.1 M.2.1 M.2.2 = true) :
    ∃ x, (chooseV C L).es[k]? = some x ∧ stubV x = stubV (sureE (countsL C.toNat L) (M.1 + 1) v) := by
  obtain ⟨wh, hrun⟩ := chooseV_run h
  have hl : ∀ m ∈ countsL C.toNat L, m.k = 7 ∧ rightB m = true := fun m hm => (countsL_mem hm).2
  obtain ⟨hnb, e, he, hst⟩ := sure_step hl hb hf
  subst hM
  exact ⟨e, run_at ((chooseV C L).co, (chooseV C L).cv, (chooseV C L).cs) 8 _ _ _ [] _ rfl hrun k (Nat.zero_le _) (by simpa using hk) hk2 hnb e he, hst⟩
end Go.Proofs.YtpbjjmenkoigjaaDoor
end

section
namespace Go.Proofs.YtpbjjmenkoigjaaDoor
open Go.RowKit
set_option linter.unusedVariables false
theorem ne_sst (x y : Sst) : NeFact 38 x.row y.row (!decide (x = y)) := by
  intro xo yo W
  obtain ⟨a1, a2, a3, a4, a5⟩ := x
  obtain ⟨b1, b2, b3, b4, b5⟩ := y
  unfold Sst.row
  simp only [Sst.mk.injEq]
  simp [go_sem]
  repeat' split
  all_goals simp_all
theorem results_sure {tmps : Array Value} {w : World} {g : Nat} {s : Est} {v : Value} (hp : tmps[6]?.getD undef = .pointer (some ⟨g, 0, none⟩)) (hv : tmps[7]?.getD undef = v) (hB : Blk w g s.row) :
    (results Tryd.f15 tmps).run Tryd.prog w = .ok (.tuple #[.agg s.row, v]) w := by
  have hl := run_loadVar_mid (P := Tryd.prog) w g 0 35 s.row.toList _ hB.range Tryd.underlying35 rfl (by kernel_rfl)
  rw [show results Tryd.f15 tmps = (do return .tuple #[← loadVar 35 (← asAddr (tmps[6]?.getD undef)), (tmps[7]?.getD undef)]) from by simp [results], hp, hv]
  simp [asAddr, hl]
theorem su_load {e : Est} {b : Nat} {w : World} (h : Blk w b e.row) : (Instr.loadAt 35 (.pointer (some ⟨b, 0, none⟩))).run Tryd.prog w = .ok (.agg e.row) w := load_at 35 _ h.range Tryd.underlying35 rfl (by kernel_rfl)
/-- In sure: the world since w; the answer's block, and the entry's. -/
structure SuR (w W : World) (r e : Est) : Prop where
  below : Below w.heap.size w W
  res : Blk W w.heap.size r.row
  acc : Blk W (w.heap.size + 1) e.row
theorem SuR.later {w W W' : World} {r e : Est} (h : SuR w W r e) (hb : Below W.heap.size W W') : SuR w W' r e := ⟨h.below.trans (hb.mono h.below.size), h.res.later hb, h.acc.later hb⟩
abbrev SuI (w W : World) (e : Est) : Prop := SuR w W Est.zero e
set_option maxRecDepth 100000 in
set_option maxHeartbeats 40000000 in
theorem sure_any (l : List Mst) (ad : Option Addr) (cap : Nat) (n v : Int) (w : World) (hr : RowsAt 33 w ad (l.map Mst.row)) (hcap : l.length ≤ cap) (hsm : l.length ≤ 1000) (hin : ∀ m ∈ l, m.In w) (hl : ∀ m ∈ l, m.k = 7 ∧ rightB m = true) :
    Calls Tryd.prog 15 #[.slice ad l.length cap, .int .i64 n, .int .i64 v] w fun e w' => e = .returned (.tuple #[.agg (sureE l n v).row, .bool (sureB l n v)]) ∧ Below w.heap.size w w' := by
  have HR := Lib.hid hr
  have HIN := Lib.hid hin
  have HY8 := Lib.hid (fun (m : Mst) (hm : m ∈ l) => (show m.is.length = 8 ∧ (0 ≤ m.co ∧ m.co ≤ 72057594037927935) from by have := (rightB_iff m (hl m hm).1).1 (hl m hm).2; exact ⟨this.2.2.2.2.2.2.2.1, this.2.2.2.2.2.1⟩))
  have hE0ok : (sureE l n v).Ok := by
    rcases sure_from n v l Est.zero with h | ⟨m, hm, _, _, he⟩
    · unfold sureE; rw [h]; unfold Est.Ok Est.zero; simp
    · unfold sureE; rw [← he]; exact (says_ok (hin m hm) n).2
  obtain ⟨K, hK⟩ : ∃ K, K = l.length := ⟨_, rfl⟩
  have HK := Lib.hid hK
  rw [← hK] at hcap hsm ⊢
  clear hr hin hl hK
  obtain ⟨w1, st1, hz1, hB1, hbe1, hot1⟩ := refill (cs := Est.zero.row) 35 (Blk.new (w.alloc (.cells #[.int .i64 0, .int .i64 0, .int .i64 0, .int .u64 0, .int .i64 0, .int .i64 0, .int .i64 0, .int .i64 0, .string ⟨#[]⟩] 35)) #[.int .i64 0, .int .i64 0, .int .i64 0, .int .u64 0, .int .i64 0, .int .i64 0, .int .i64 0, .int .i64 0, .string ⟨#[]⟩] 35 (w.heap.size + 1) (by simp)) rfl (by kernel_rfl) (Est.row_one _)
  have HS1 : Hid (SuI w w1 Est.zero) := Lib.hid ⟨(((Below.refl _ _).alloc (Nat.le_refl _) _).alloc (by simp) _).trans (hbe1 _ (by omega) (by simp; omega)), hot1 _ _ (by omega) (Blk.alloc (Blk.new _ _ _ _ rfl) _), hB1⟩
  have st1 := Lib.hid st1
  clear hz1 hB1 hbe1 hot1
  go_enter Tryd.func15, Tryd.ntmps15
  go_wp2_with (first | (guard_target =~ wpList _ _ _ (⟨_, Op.store _ (Operand.tmp 8) (Operand.tmp 13), _, _, _, _⟩ :: _) _ _; refine wpList_store_eq 35 (Operand.tmp 8) (Operand.tmp 13) rfl rfl st1.out rfl rfl ?_))
  clear st1
  go_loopw [9] (fun iv wr => ∃ j : Nat, j ≤ K ∧ iv = .int .i64 (j : Int) ∧ SuI w wr ((l.take j).foldl (sureStep n v) Est.zero)) (fun iv _ => K - (intOf iv).toNat)
  case atStart => exact ⟨0, by omega, rfl, HS1.out⟩
  case round =>
    clear HS1
    obtain ⟨j, hj, rfl, hSr⟩ := hrel
    have HSR := Lib.hid hSr
    clear hSr
    by_cases hlt : j < K
    · have hltj : (j : Int) < (K : Int) := by omega
      obtain ⟨y, hy⟩ : ∃ y, l[j]? = some y := ⟨l[j]'(by rw [← HK.out]; exact hlt), List.getElem?_eq_getElem _⟩
      obtain ⟨b, off, had, hbl, hra⟩ := HR.out.range (i := j) (x := y.row) (by rw [List.getElem?_map, hy]; rfl)
      subst had
      have hym := List.mem_of_getElem? hy
      have HLY : Hid (∀ W, Below w.heap.size w W → (Instr.loadAt 45 (.pointer (some ⟨b, off + j * 33, none⟩))).run Tryd.prog W = .ok (.agg y.row) W ∧ W.cell? ⟨b, off + j * 33 + 3, none⟩ = some (.int .i64 y.lv)) := Lib.hid (fun W hW => ⟨load_at 45 _ (rangeAt.later hra hbl hW) Tryd.underlying45 rfl (by kernel_rfl), rangeAt.later hra hbl hW 3 _ rfl⟩)
      have HSY := Lib.hid (fun W (hW : Below w.heap.size w W) => says18_any y n W ((HIN.out y hym).below hW (Nat.le_refl _)) (HY8.out y hym).1 (HY8.out y hym).2)
      have HSN : Hid ((l.take (j + 1)).foldl (sureStep n v) Est.zero = sureStep n v ((l.take j).foldl (sureStep n v) Est.zero) y) := Lib.hid (by rw [take_snoc hy, List.foldl_append]; rfl)
      generalize (l.take j).foldl (sureStep n v) Est.zero = e0 at *
      have l1 := Lib.hid (HLY.out _ HSR.out.below).1
      clear hra hbl hy hym
      go_wp2_with (first | (guard_target =~ wpList _ _ _ (⟨_, Op.load _ (Operand.tmp 22), _, _, _, _⟩ :: _) _ _; refine wpList_load_eq 45 (Operand.tmp 22) rfl rfl l1.out rfl ?_) | (guard_target =~ wpList _ _ _ (⟨_, Op.load _ (Operand.tmp 22), _, _, _, _⟩ :: _) _ _; refine wpList_load_w 45 (Operand.tmp 22) (by kernel_rfl) rfl l1.out rfl ?_))
      clear l1
      refine (HSY.out _ HSR.out.below).mono ?_
      rintro ev w2 ⟨rfl, hb2⟩
      have hS2 := HSR.out.later hb2
      have HSF := Lib.hid (show sureStep n v e0 y = (if v ≤ y.lv ∧ (y.says n).k = 1 ∧ e0.o = 0 then (y.says n).e else e0) from rfl)
      generalize y.says n = z at *
      obtain ⟨w3, st3, hW3, hB3, hz3⟩ := fresh w2 #[.int .i64 0, .int .i64 0, .int .i64 0, .int .i64 0, .int .u64 0, .int .u64 0, .int .i64 0, .int .i64 0, .int .i64 0, .int .u64 0, .int .i64 0, .int .i64 0, .int .i64 0, .int .i64 0, .string ⟨#[]⟩] z.row 40 rfl (by kernel_rfl) (Ist.row_one _)
      have HS3 := Lib.hid (And.intro (hS2.later hW3) hB3)
      have st3 := Lib.hid st3
      have cl : w3.cell? ⟨b, off + j * 33 + 3, none⟩ = some (.int .i64 y.lv) := (HLY.out _ HS3.out.1.below).2
      have ck : w3.cell? ⟨w2.heap.size, 0, none⟩ = some (.int .i64 z.k) := (hB3.2 0 _ rfl).1
      have ce : w3.cell? ⟨w.heap.size + 1, 1, none⟩ = some (.int .i64 e0.o) := (HS3.out.1.acc.2 1 _ rfl).1
      clear hb2 hS2 hW3 hB3 hz3 HSR HSY
      by_cases hv : v ≤ y.lv
      · by_cases hk : z.k = 1
        · by_cases he : e0.o = 0
          · have HST : Hid (sureStep n v e0 y = z.e) := Lib.hid (by rw [HSF.out]; exact if_pos ⟨hv, hk, he⟩)
            have l43 := Lib.hid (it_ldE HS3.out.2)
            obtain ⟨w5, st5, hz5, hB5, hbe5, hot5⟩ := refill (cs := z.e.row) 35 HS3.out.1.acc rfl (by kernel_rfl) (Est.row_one _)
            have HS5 : Hid (SuI w w5 z.e) := Lib.hid ⟨HS3.out.1.below.trans (hbe5 _ (by omega) HS3.out.1.below.size), hot5 _ _ (by omega) HS3.out.1.res, hB5⟩
            have st5 := Lib.hid st5
            rw [hk] at ck
            rw [he] at ce
            clear hz5 hB5 hbe5 hot5
            go_wp2_with (first | (guard_target =~ wpList _ _ _ (⟨_, Op.store _ (Operand.tmp 10) (Operand.tmp 25), _, _, _, _⟩ :: _) _ _; refine wpList_store_eq 40 (Operand.tmp 10) (Operand.tmp 25) rfl rfl st3.out rfl rfl ?_) | (guard_target =~ wpList _ _ _ (⟨_, Op.load _ (Operand.tmp 43), _, _, _, _⟩ :: _) _ _; refine wpList_load_eq 35 (Operand.tmp 43) rfl rfl l43.out rfl ?_) | (guard_target =~ wpList _ _ _ (⟨_, Op.load _ (Operand.tmp 43), _, _, _, _⟩ :: _) _ _; refine wpList_load_w 35 (Operand.tmp 43) (by kernel_rfl) rfl l43.out rfl ?_) | (guard_target =~ wpList _ _ _ (⟨_, Op.store _ (Operand.tmp 8) (Operand.tmp 44), _, _, _, _⟩ :: _) _ _; refine wpList_store_eq 35 (Operand.tmp 8) (Operand.tmp 44) rfl rfl st5.out rfl rfl ?_))
            go_roundw
            case rel => exact ⟨j + 1, by omega, by go_num, by rw [HSN.out, HST.out]; exact HS5.out⟩
            case measure => simp [intOf]; omega
          · have heb : (e0.o == 0) = false := beq_eq_false_iff_ne.2 he
            rw [hk] at ck
            go_wp2_with (first | (guard_target =~ wpList _ _ _ (⟨_, Op.store _ (Operand.tmp 10) (Operand.tmp 25), _, _, _, _⟩ :: _) _ _; refine wpList_store_eq 40 (Operand.tmp 10) (Operand.tmp 25) rfl rfl st3.out rfl rfl ?_))
            go_roundw
            case rel => exact ⟨j + 1, by omega, by go_num, by rw [HSN.out, HSF.out, if_neg (by omega)]; exact HS3.out.1⟩
            case measure => simp [intOf]; omega
        · have hkb : (z.k == 1) = false := beq_eq_false_iff_ne.2 hk
          go_wp2_with (first | (guard_target =~ wpList _ _ _ (⟨_, Op.store _ (Operand.tmp 10) (Operand.tmp 25), _, _, _, _⟩ :: _) _ _; refine wpList_store_eq 40 (Operand.tmp 10) (Operand.tmp 25) rfl rfl st3.out rfl rfl ?_))
          go_roundw
          case rel => exact ⟨j + 1, by omega, by go_num, by rw [HSN.out, HSF.out, if_neg (by omega)]; exact HS3.out.1⟩
          case measure => simp [intOf]; omega
      · have hv' : y.lv < v := by omega
        go_wp2_with (first | (guard_target =~ wpList _ _ _ (⟨_, Op.store _ (Operand.tmp 10) (Operand.tmp 25), _, _, _, _⟩ :: _) _ _; refine wpList_store_eq 40 (Operand.tmp 10) (Operand.tmp 25) rfl rfl st3.out rfl rfl ?_))
        go_roundw
        case rel => exact ⟨j + 1, by omega, by go_num, by rw [HSN.out, HSF.out, if_neg (by omega)]; exact HS3.out.1⟩
        case measure => simp [intOf]; omega
    · obtain rfl : j = K := by omega
      have HTK : Hid ((l.take j).foldl (sureStep n v) Est.zero = sureE l n v) := Lib.hid (by rw [HK.out, List.take_length]; rfl)
      rw [HTK.out] at HSR
      have HVT := Lib.hid (show sureB l n v = (l.all (sureM n v (stubV (sureE l n v))) && decide ((sureE l n v).o = n)) from rfl)
      have HSTB := Lib.hid (fun W => stubof_any (sureE l n v) W hE0ok)
      obtain ⟨e0, he0⟩ : ∃ e0, e0 = sureE l n v := ⟨_, rfl⟩
      rw [← he0] at HSR HVT HSTB
      have HE0 := Lib.hid he0
      clear hE0ok he0
      go_wp2_with fail
      go_loopw [11] (fun iv wr => ∃ i : Nat, i ≤ j ∧ iv = .int .i64 (i : Int) ∧ (l.take i).all (sureM n v (stubV e0)) = true ∧ SuI w wr e0) (fun iv _ => j - (intOf iv).toNat)
      case atStart => exact ⟨0, by omega, rfl, by simp, HSR.out⟩
      case round =>
        clear HSR HTK
        obtain ⟨i, hi, rfl, hall, hSr⟩ := hrel
        have HSR := Lib.hid hSr
        have HALL := Lib.hid hall
        clear hSr hall
        by_cases hlt2 : i < j
        · have hlti : (i : Int) < (j : Int) := by omega
          obtain ⟨y, hy⟩ : ∃ y, l[i]? = some y := ⟨l[i]'(by rw [← HK.out]; exact hlt2), List.getElem?_eq_getElem _⟩
          obtain ⟨b, off, had, hbl, hra⟩ := HR.out.range (i := i) (x := y.row) (by rw [List.getElem?_map, hy]; rfl)
          subst had
          have HY := Lib.hid hy
          have hym := List.mem_of_getElem? hy
          have HLY : Hid (∀ W, Below w.heap.size w W → (Instr.loadAt 45 (.pointer (some ⟨b, off + i * 33, none⟩))).run Tryd.prog W = .ok (.agg y.row) W ∧ W.cell? ⟨b, off + i * 33 + 3, none⟩ = some (.int .i64 y.lv)) := Lib.hid (fun W hW => ⟨load_at 45 _ (rangeAt.later hra hbl hW) Tryd.underlying45 rfl (by kernel_rfl), rangeAt.later hra hbl hW 3 _ rfl⟩)
          have HSY := Lib.hid (fun W (hW : Below w.heap.size w W) => says18_any y n W ((HIN.out y hym).below hW (Nat.le_refl _)) (HY8.out y hym).1 (HY8.out y hym).2)
          have HSF := Lib.hid (show sureM n v (stubV e0) y = (decide (y.lv < v) || (decide ((y.says n).k = 3) || (decide ((y.says n).k ≠ 0) && decide ((y.says n).s = stubV e0)))) from rfl)
          have l1 := Lib.hid (HLY.out _ HSR.out.below).1
          clear hra hbl hy hym
          go_wp2_with (first | (guard_target =~ wpList _ _ _ (⟨_, Op.load _ (Operand.tmp 53), _, _, _, _⟩ :: _) _ _; refine wpList_load_eq 45 (Operand.tmp 53) rfl rfl l1.out rfl ?_) | (guard_target =~ wpList _ _ _ (⟨_, Op.load _ (Operand.tmp 53), _, _, _, _⟩ :: _) _ _; refine wpList_load_w 45 (Operand.tmp 53) (by kernel_rfl) rfl l1.out rfl ?_))
          clear l1
          refine (HSY.out _ HSR.out.below).mono ?_
          rintro ev w2 ⟨rfl, hb2⟩
          have hS2 := HSR.out.later hb2
          generalize y.says n = z at *
          obtain ⟨w3, st3, hW3, hB3, hz3⟩ := fresh w2 #[.int .i64 0, .int .i64 0, .int .i64 0, .int .i64 0, .int .u64 0, .int .u64 0, .int .i64 0, .int .i64 0, .int .i64 0, .int .u64 0, .int .i64 0, .int .i64 0, .int .i64 0, .int .i64 0, .string ⟨#[]⟩] z.row 40 rfl (by kernel_rfl) (Ist.row_one _)
          have HS4 := Lib.hid (And.intro (hS2.later hW3) hB3)
          have st3 := Lib.hid st3
          have cl : w3.cell? ⟨b, off + i * 33 + 3, none⟩ = some (.int .i64 y.lv) := (HLY.out _ HS4.out.1.below).2
          have ck : w3.cell? ⟨w2.heap.size, 0, none⟩ = some (.int .i64 z.k) := (hB3.2 0 _ rfl).1
          clear hb2 hS2 hW3 hB3 hz3 HSR HSY
          by_cases hv : y.lv < v
          · have HM1 : Hid (sureM n v (stubV e0) y = true) := Lib.hid (by rw [HSF.out, decide_eq_true hv]; rfl)
            go_wp2_with (first | (guard_target =~ wpList _ _ _ (⟨_, Op.store _ (Operand.tmp 12) (Operand.tmp 56), _, _, _, _⟩ :: _) _ _; refine wpList_store_eq 40 (Operand.tmp 12) (Operand.tmp 56) rfl rfl st3.out rfl rfl ?_))
            go_roundw
            case rel => exact ⟨i + 1, by omega, by go_num, all_snoc HY.out HALL.out HM1.out, HS4.out.1⟩
            case measure => simp [intOf]; omega
          · have hv' : v ≤ y.lv := by omega
            have HVV := Lib.hid hv
            clear hv
            by_cases hk3 : z.k = 3
            · have HM1 : Hid (sureM n v (stubV e0) y = true) := Lib.hid (by rw [HSF.out, decide_eq_true hk3]; simp)
              rw [hk3] at ck
              go_wp2_with (first | (guard_target =~ wpList _ _ _ (⟨_, Op.store _ (Operand.tmp 12) (Operand.tmp 56), _, _, _, _⟩ :: _) _ _; refine wpList_store_eq 40 (Operand.tmp 12) (Operand.tmp 56) rfl rfl st3.out rfl rfl ?_))
              go_roundw
              case rel => exact ⟨i + 1, by omega, by go_num, all_snoc HY.out HALL.out HM1.out, HS4.out.1⟩
              case measure => simp [intOf]; omega
            · have hk3b : (z.k == 3) = false := beq_eq_false_iff_ne.2 hk3
              have HM0 : Hid (sureM n v (stubV e0) y = (decide (z.k ≠ 0) && decide (z.s = stubV e0))) := Lib.hid (by rw [HSF.out, decide_eq_false HVV.out, decide_eq_false hk3]; rfl)
              have HK3 := Lib.hid hk3
              go_wp2_with (first | (guard_target =~ wpList _ _ _ (⟨_, Op.store _ (Operand.tmp 12) (Operand.tmp 56), _, _, _, _⟩ :: _) _ _; refine wpList_store_eq 40 (Operand.tmp 12) (Operand.tmp 56) rfl rfl st3.out rfl rfl ?_))
              clear cl ck st3 hk3 hk3b
              generalize w2.heap.size = p12 at *
              generalize w3 = w4 at *
              by_cases k0 : z.k = 0
              · have HV : Hid (sureB l n v = false) := Lib.hid (by rw [HVT.out, all_no HY.out (by rw [HM0.out, decide_eq_false (by omega)]; rfl)]; rfl)
                have k0 := Lib.hid k0
                go_wp2_with fail
                refine wp_region_noPanic ?_
                refine wp_region_held_drew (S := fun W => SuI w W e0 ∧ Blk W p12 z.row) (by kernel_rfl) (show SuI w w4.drew e0 ∧ Blk w4.drew p12 z.row from ⟨HS4.out.1.later (Below.refl _ _).drew, HS4.out.2.drew⟩) (fun hS => ?_)
                generalize w4.drew = cw at *
                refine wpAnyH_take (i := 0) (oi := { dst := some 69, op := _, type := _, pos := _, after := _, guard := _ }) (v := ?_) rfl (by kernel_rfl) (by kernel_rfl) (by kernel_rfl) (fun _ _ _ h => h) (Or.inl ⟨by rfl, ?_⟩) hS ?_
                rotate_left
                · intro W hSw
                  have d0 : W.cell? ⟨p12, 0, none⟩ = some (.int .i64 0) := by rw [← k0.out]; exact (hSw.2.2 0 _ rfl).1
                  go_simp
                  first | done | rfl
                try simp only [Act.put, List.setIfInBounds_toArray, List.set_cons_zero, List.set_cons_succ]
                refine wpAnyH_take (i := 1) (oi := { dst := some 70, op := _, type := _, pos := _, after := _, guard := _ }) (v := ?_) rfl (by kernel_rfl) (by kernel_rfl) (by kernel_rfl) (fun _ _ _ h => h) (Or.inl ⟨by rfl, ?_⟩) hS ?_
                rotate_left
                · intro W hSw
                  have d0 : W.cell? ⟨p12, 0, none⟩ = some (.int .i64 0) := by rw [← k0.out]; exact (hSw.2.2 0 _ rfl).1
                  go_simp
                  first | done | rfl
                try simp only [Act.put, List.setIfInBounds_toArray, List.set_cons_zero, List.set_cons_succ]
                refine wpAnyH_take (i := 2) (oi := { dst := some 71, op := _, type := _, pos := _, after := _, guard := _ }) (v := .bool true) rfl (by kernel_rfl) (by kernel_rfl) (by kernel_rfl) (fun _ _ _ h => h) (Or.inl ⟨by rfl, ?_⟩) hS ?_
                · intro W hSw
                  have d0 : W.cell? ⟨p12, 0, none⟩ = some (.int .i64 0) := by rw [← k0.out]; exact (hSw.2.2 0 _ rfl).1
                  go_simp
                  first | done | rfl
                try simp only [Act.put, List.setIfInBounds_toArray, List.set_cons_zero, List.set_cons_succ]
                refine wpAnyH_take (i := 3) (oi := { dst := some 72, op := _, type := _, pos := _, after := _, guard := _ }) (v := ?_) rfl (by kernel_rfl) (by kernel_rfl) (by kernel_rfl) (fun _ _ _ h => h) (Or.inl ⟨by rfl, ?_⟩) hS ?_
                rotate_left
                · intro W hSw
                  have d0 : W.cell? ⟨p12, 0, none⟩ = some (.int .i64 0) := by rw [← k0.out]; exact (hSw.2.2 0 _ rfl).1
                  go_simp
                  first | done | rfl
                try simp only [Act.put, List.setIfInBounds_toArray, List.set_cons_zero, List.set_cons_succ]
                refine wpAnyH_take (i := 4) (oi := { dst := some 73, op := _, type := _, pos := _, after := _, guard := _ }) (v := undef) rfl (by kernel_rfl) (by kernel_rfl) (by kernel_rfl) (fun _ _ _ h => h) (Or.inr ⟨by rfl, rfl⟩) hS ?_
                try simp only [Act.put, List.setIfInBounds_toArray, List.set_cons_zero, List.set_cons_succ]
                refine wpAnyH_take (i := 6) (oi := { dst := some 75, op := _, type := _, pos := _, after := _, guard := _ }) (v := undef) rfl (by kernel_rfl) (by kernel_rfl) (by kernel_rfl) (fun _ _ _ h => h) (Or.inr ⟨by rfl, rfl⟩) hS ?_
                try simp only [Act.put, List.setIfInBounds_toArray, List.set_cons_zero, List.set_cons_succ]
                refine wpAnyH_take (i := 5) (oi := { dst := some 74, op := _, type := _, pos := _, after := _, guard := _ }) (v := undef) rfl (by kernel_rfl) (by kernel_rfl) (by kernel_rfl) (fun _ _ _ h => h) (Or.inr ⟨by rfl, rfl⟩) hS ?_
                try simp only [Act.put, List.setIfInBounds_toArray, List.set_cons_zero, List.set_cons_succ]
                refine wpAnyH_take (i := 7) (oi := { dst := some 76, op := _, type := _, pos := _, after := _, guard := _ }) (v := undef) rfl (by kernel_rfl) (by kernel_rfl) (by kernel_rfl) (fun _ _ _ h => h) (Or.inr ⟨by rfl, rfl⟩) hS ?_
                try simp only [Act.put, List.setIfInBounds_toArray, List.set_cons_zero, List.set_cons_succ]
                refine wpAnyH_take (i := 8) (oi := { dst := some 77, op := _, type := _, pos := _, after := _, guard := _ }) (v := undef) rfl (by kernel_rfl) (by kernel_rfl) (by kernel_rfl) (fun _ _ _ h => h) (Or.inr ⟨by rfl, rfl⟩) hS ?_
                try simp only [Act.put, List.setIfInBounds_toArray, List.set_cons_zero, List.set_cons_succ]
                refine wpAnyH_take (i := 9) (oi := { dst := some 78, op := _, type := _, pos := _, after := _, guard := _ }) (v := ?_) rfl (by kernel_rfl) (by kernel_rfl) (by kernel_rfl) (fun _ _ _ h => h) (Or.inl ⟨by rfl, ?_⟩) hS ?_
                rotate_left
                · intro W hSw
                  have d0 : W.cell? ⟨p12, 0, none⟩ = some (.int .i64 0) := by rw [← k0.out]; exact (hSw.2.2 0 _ rfl).1
                  go_simp
                  first | done | rfl
                try simp only [Act.put, List.setIfInBounds_toArray, List.set_cons_zero, List.set_cons_succ]
                refine wpAnyH_done (by kernel_rfl) ?_ _
                refine NoPanic.normal ?_
                have lF := Lib.hid (su_load hS.1.acc)
                obtain ⟨w9, st9, hz9, hB9, hbe9, hot9⟩ := refill (cs := e0.row) 35 hS.1.res rfl (by kernel_rfl) (Est.row_one _)
                have HB9 := Lib.hid (And.intro hB9 (hS.1.below.trans (hbe9 _ (Nat.le_refl _) hS.1.below.size)))
                have st9 := Lib.hid st9
                clear hB9 hbe9 hot9 hz9
                go_wp2_with (first | (guard_target =~ wpList _ _ _ (⟨_, Op.load _ (Operand.tmp 8), _, _, _, _⟩ :: _) _ _; refine wpList_load_eq 35 (Operand.tmp 8) rfl rfl lF.out rfl ?_) | (guard_target =~ wpList _ _ _ (⟨_, Op.load _ (Operand.tmp 8), _, _, _, _⟩ :: _) _ _; refine wpList_load_w 35 (Operand.tmp 8) (by kernel_rfl) rfl lF.out rfl ?_) | (guard_target =~ wpList _ _ _ (⟨_, Op.store _ (Operand.tmp 6) (Operand.tmp 79), _, _, _, _⟩ :: _) _ _; refine wpList_store_eq 35 (Operand.tmp 6) (Operand.tmp 79) rfl rfl st9.out rfl rfl ?_))

                exact bodyPost_ret (results_sure rfl rfl HB9.out.1) rfl ⟨by rw [HV.out, ← HE0.out]; rfl, HB9.out.2⟩

              · have kb : (z.k == 0) = false := beq_eq_false_iff_ne.2 k0
                have K0 := Lib.hid k0
                by_cases hse : z.s = stubV e0
                · have HM1 : Hid (sureM n v (stubV e0) y = true) := Lib.hid (by rw [HM0.out, decide_eq_true K0.out, decide_eq_true hse]; rfl)
                  have HNE : Hid (NeFact 38 z.s.row (stubV e0).row false) := Lib.hid (by have := ne_sst z.s (stubV e0); rwa [decide_eq_true hse] at this)
                  clear hse
                  go_wp2_with fail
                  refine wp_region_noPanic ?_
                  refine wp_region_held_drew (S := fun W => SuI w W e0 ∧ Blk W p12 z.row) (by kernel_rfl) (show SuI w w4.drew e0 ∧ Blk w4.drew p12 z.row from ⟨HS4.out.1.later (Below.refl _ _).drew, HS4.out.2.drew⟩) (fun hS => ?_)
                  generalize w4.drew = cw at *
                  refine wpAnyH_take (i := 0) (oi := { dst := some 69, op := _, type := _, pos := _, after := _, guard := _ }) (v := ?_) rfl (by kernel_rfl) (by kernel_rfl) (by kernel_rfl) (fun _ _ _ h => h) (Or.inl ⟨by rfl, ?_⟩) hS ?_
                  rotate_left
                  · intro W hSw
                    have d0 : W.cell? ⟨p12, 0, none⟩ = some (.int .i64 z.k) := (hSw.2.2 0 _ rfl).1
                    go_simp
                    first | done | rfl
                  try simp only [Act.put, List.setIfInBounds_toArray, List.set_cons_zero, List.set_cons_succ]
                  refine wpAnyH_take (i := 1) (oi := { dst := some 70, op := _, type := _, pos := _, after := _, guard := _ }) (v := ?_) rfl (by kernel_rfl) (by kernel_rfl) (by kernel_rfl) (fun _ _ _ h => h) (Or.inl ⟨by rfl, ?_⟩) hS ?_
                  rotate_left
                  · intro W hSw
                    have d0 : W.cell? ⟨p12, 0, none⟩ = some (.int .i64 z.k) := (hSw.2.2 0 _ rfl).1
                    go_simp
                    first | done | rfl
                  try simp only [Act.put, List.setIfInBounds_toArray, List.set_cons_zero, List.set_cons_succ]
                  refine wpAnyH_take (i := 2) (oi := { dst := some 71, op := _, type := _, pos := _, after := _, guard := _ }) (v := .bool false) rfl (by kernel_rfl) (by kernel_rfl) (by kernel_rfl) (fun _ _ _ h => h) (Or.inl ⟨by rfl, ?_⟩) hS ?_
                  · intro W hSw
                    have d0 : W.cell? ⟨p12, 0, none⟩ = some (.int .i64 z.k) := (hSw.2.2 0 _ rfl).1
                    go_simp
                    first | done | rfl
                  try simp only [Act.put, List.setIfInBounds_toArray, List.set_cons_zero, List.set_cons_succ]
                  refine wpAnyH_take (i := 3) (oi := { dst := some 72, op := _, type := _, pos := _, after := _, guard := _ }) (v := ?_) rfl (by kernel_rfl) (by kernel_rfl) (by kernel_rfl) (fun _ _ _ h => h) (Or.inl ⟨by rfl, ?_⟩) hS ?_
                  rotate_left
                  · intro W hSw
                    have d0 : W.cell? ⟨p12, 0, none⟩ = some (.int .i64 z.k) := (hSw.2.2 0 _ rfl).1
                    go_simp
                    first | done | rfl
                  try simp only [Act.put, List.setIfInBounds_toArray, List.set_cons_zero, List.set_cons_succ]
                  refine wpAnyH_take (i := 4) (oi := { dst := some 73, op := _, type := _, pos := _, after := _, guard := _ }) (v := ?_) rfl (by kernel_rfl) (by kernel_rfl) (by kernel_rfl) (fun _ _ _ h => h) (Or.inl ⟨by rfl, ?_⟩) hS ?_
                  rotate_left
                  · intro W hSw
                    have d0 : W.cell? ⟨p12, 0, none⟩ = some (.int .i64 z.k) := (hSw.2.2 0 _ rfl).1
                    go_simp
                    first | done | rfl
                  try simp only [Act.put, List.setIfInBounds_toArray, List.set_cons_zero, List.set_cons_succ]
                  refine wpAnyH_take (i := 6) (oi := { dst := some 75, op := _, type := _, pos := _, after := _, guard := _ }) (v := .agg e0.row) rfl (by kernel_rfl) (by kernel_rfl) (by kernel_rfl) (fun _ _ _ h => h) (Or.inl ⟨by rfl, ?_⟩) hS ?_
                  · intro W hSw
                    have d0 : W.cell? ⟨p12, 0, none⟩ = some (.int .i64 z.k) := (hSw.2.2 0 _ rfl).1
                    exact exec_load 35 (Operand.tmp 8) rfl rfl (su_load hSw.1.acc)
                  try simp only [Act.put, List.setIfInBounds_toArray, List.set_cons_zero, List.set_cons_succ]
                  refine wpAnyH_take (i := 5) (oi := { dst := some 74, op := _, type := _, pos := _, after := _, guard := _ }) (v := .agg z.s.row) rfl (by kernel_rfl) (by kernel_rfl) (by kernel_rfl) (fun _ _ _ h => h) (Or.inl ⟨by rfl, ?_⟩) hS ?_
                  · intro W hSw
                    have d0 : W.cell? ⟨p12, 0, none⟩ = some (.int .i64 z.k) := (hSw.2.2 0 _ rfl).1
                    exact exec_load 38 (Operand.tmp 73) rfl rfl (it_ldS hSw.2)
                  try simp only [Act.put, List.setIfInBounds_toArray, List.set_cons_zero, List.set_cons_succ]
                  refine wpAnyH_ready (rs := [7]) (by kernel_rfl) (by simp) ?_
                  refine AllReadyH.cons (o := { dst := some 76, op := _, type := _, pos := _, after := _, guard := _ }) rfl (fun K hK => ?_) AllReadyH.nil
                  go_simp
                  refine (HSTB.out _).mono ?_
                  rintro ev cw ⟨rfl, hb⟩
                  replace hS : SuI w cw e0 ∧ Blk cw p12 z.row := ⟨hS.1.later hb, hS.2.later hb⟩
                  clear hb
                  refine hK.out _ _ hS (fun _ => ?_)
                  clear hK K
                  try simp only [Act.put, List.setIfInBounds_toArray, List.set_cons_zero, List.set_cons_succ]
                  refine wpAnyH_take (i := 8) (oi := { dst := some 77, op := _, type := _, pos := _, after := _, guard := _ }) (v := .bool false) rfl (by kernel_rfl) (by kernel_rfl) (by kernel_rfl) (fun _ _ _ h => h) (Or.inl ⟨by rfl, ?_⟩) hS ?_
                  · intro W hSw
                    have d0 : W.cell? ⟨p12, 0, none⟩ = some (.int .i64 z.k) := (hSw.2.2 0 _ rfl).1
                    exact exec_neq 38 _ (Operand.tmp 74) (Operand.tmp 76) rfl rfl rfl HNE.out
                  try simp only [Act.put, List.setIfInBounds_toArray, List.set_cons_zero, List.set_cons_succ]
                  refine wpAnyH_take (i := 9) (oi := { dst := some 78, op := _, type := _, pos := _, after := _, guard := _ }) (v := ?_) rfl (by kernel_rfl) (by kernel_rfl) (by kernel_rfl) (fun _ _ _ h => h) (Or.inl ⟨by rfl, ?_⟩) hS ?_
                  rotate_left
                  · intro W hSw
                    have d0 : W.cell? ⟨p12, 0, none⟩ = some (.int .i64 z.k) := (hSw.2.2 0 _ rfl).1
                    go_simp
                    first | done | rfl
                  try simp only [Act.put, List.setIfInBounds_toArray, List.set_cons_zero, List.set_cons_succ]
                  refine wpAnyH_done (by kernel_rfl) ?_ _
                  refine NoPanic.normal ?_
                  go_wp2_with fail
                  go_roundw
                  case rel => exact ⟨i + 1, by omega, by go_num, all_snoc HY.out HALL.out HM1.out, hS.1⟩
                  case measure => simp [intOf]; omega

                · have HV : Hid (sureB l n v = false) := Lib.hid (by rw [HVT.out, all_no HY.out (by rw [HM0.out, decide_eq_false hse, Bool.and_false])]; rfl)
                  have HNE : Hid (NeFact 38 z.s.row (stubV e0).row true) := Lib.hid (by have := ne_sst z.s (stubV e0); rwa [decide_eq_false hse] at this)
                  clear hse
                  go_wp2_with fail
                  refine wp_region_noPanic ?_
                  refine wp_region_held_drew (S := fun W => SuI w W e0 ∧ Blk W p12 z.row) (by kernel_rfl) (show SuI w w4.drew e0 ∧ Blk w4.drew p12 z.row from ⟨HS4.out.1.later (Below.refl _ _).drew, HS4.out.2.drew⟩) (fun hS => ?_)
                  generalize w4.drew = cw at *
                  refine wpAnyH_take (i := 0) (oi := { dst := some 69, op := _, type := _, pos := _, after := _, guard := _ }) (v := ?_) rfl (by kernel_rfl) (by kernel_rfl) (by kernel_rfl) (fun _ _ _ h => h) (Or.inl ⟨by rfl, ?_⟩) hS ?_
                  rotate_left
                  · intro W hSw
                    have d0 : W.cell? ⟨p12, 0, none⟩ = some (.int .i64 z.k) := (hSw.2.2 0 _ rfl).1
                    go_simp
                    first | done | rfl
                  try simp only [Act.put, List.setIfInBounds_toArray, List.set_cons_zero, List.set_cons_succ]
                  refine wpAnyH_take (i := 1) (oi := { dst := some 70, op := _, type := _, pos := _, after := _, guard := _ }) (v := ?_) rfl (by kernel_rfl) (by kernel_rfl) (by kernel_rfl) (fun _ _ _ h => h) (Or.inl ⟨by rfl, ?_⟩) hS ?_
                  rotate_left
                  · intro W hSw
                    have d0 : W.cell? ⟨p12, 0, none⟩ = some (.int .i64 z.k) := (hSw.2.2 0 _ rfl).1
                    go_simp
                    first | done | rfl
                  try simp only [Act.put, List.setIfInBounds_toArray, List.set_cons_zero, List.set_cons_succ]
                  refine wpAnyH_take (i := 2) (oi := { dst := some 71, op := _, type := _, pos := _, after := _, guard := _ }) (v := .bool false) rfl (by kernel_rfl) (by kernel_rfl) (by kernel_rfl) (fun _ _ _ h => h) (Or.inl ⟨by rfl, ?_⟩) hS ?_
                  · intro W hSw
                    have d0 : W.cell? ⟨p12, 0, none⟩ = some (.int .i64 z.k) := (hSw.2.2 0 _ rfl).1
                    go_simp
                    first | done | rfl
                  try simp only [Act.put, List.setIfInBounds_toArray, List.set_cons_zero, List.set_cons_succ]
                  refine wpAnyH_take (i := 3) (oi := { dst := some 72, op := _, type := _, pos := _, after := _, guard := _ }) (v := ?_) rfl (by kernel_rfl) (by kernel_rfl) (by kernel_rfl) (fun _ _ _ h => h) (Or.inl ⟨by rfl, ?_⟩) hS ?_
                  rotate_left
                  · intro W hSw
                    have d0 : W.cell? ⟨p12, 0, none⟩ = some (.int .i64 z.k) := (hSw.2.2 0 _ rfl).1
                    go_simp
                    first | done | rfl
                  try simp only [Act.put, List.setIfInBounds_toArray, List.set_cons_zero, List.set_cons_succ]
                  refine wpAnyH_take (i := 4) (oi := { dst := some 73, op := _, type := _, pos := _, after := _, guard := _ }) (v := ?_) rfl (by kernel_rfl) (by kernel_rfl) (by kernel_rfl) (fun _ _ _ h => h) (Or.inl ⟨by rfl, ?_⟩) hS ?_
                  rotate_left
                  · intro W hSw
                    have d0 : W.cell? ⟨p12, 0, none⟩ = some (.int .i64 z.k) := (hSw.2.2 0 _ rfl).1
                    go_simp
                    first | done | rfl
                  try simp only [Act.put, List.setIfInBounds_toArray, List.set_cons_zero, List.set_cons_succ]
                  refine wpAnyH_take (i := 6) (oi := { dst := some 75, op := _, type := _, pos := _, after := _, guard := _ }) (v := .agg e0.row) rfl (by kernel_rfl) (by kernel_rfl) (by kernel_rfl) (fun _ _ _ h => h) (Or.inl ⟨by rfl, ?_⟩) hS ?_
                  · intro W hSw
                    have d0 : W.cell? ⟨p12, 0, none⟩ = some (.int .i64 z.k) := (hSw.2.2 0 _ rfl).1
                    exact exec_load 35 (Operand.tmp 8) rfl rfl (su_load hSw.1.acc)
                  try simp only [Act.put, List.setIfInBounds_toArray, List.set_cons_zero, List.set_cons_succ]
                  refine wpAnyH_take (i := 5) (oi := { dst := some 74, op := _, type := _, pos := _, after := _, guard := _ }) (v := .agg z.s.row) rfl (by kernel_rfl) (by kernel_rfl) (by kernel_rfl) (fun _ _ _ h => h) (Or.inl ⟨by rfl, ?_⟩) hS ?_
                  · intro W hSw
                    have d0 : W.cell? ⟨p12, 0, none⟩ = some (.int .i64 z.k) := (hSw.2.2 0 _ rfl).1
                    exact exec_load 38 (Operand.tmp 73) rfl rfl (it_ldS hSw.2)
                  try simp only [Act.put, List.setIfInBounds_toArray, List.set_cons_zero, List.set_cons_succ]
                  refine wpAnyH_ready (rs := [7]) (by kernel_rfl) (by simp) ?_
                  refine AllReadyH.cons (o := { dst := some 76, op := _, type := _, pos := _, after := _, guard := _ }) rfl (fun K hK => ?_) AllReadyH.nil
                  go_simp
                  refine (HSTB.out _).mono ?_
                  rintro ev cw ⟨rfl, hb⟩
                  replace hS : SuI w cw e0 ∧ Blk cw p12 z.row := ⟨hS.1.later hb, hS.2.later hb⟩
                  clear hb
                  refine hK.out _ _ hS (fun _ => ?_)
                  clear hK K
                  try simp only [Act.put, List.setIfInBounds_toArray, List.set_cons_zero, List.set_cons_succ]
                  refine wpAnyH_take (i := 8) (oi := { dst := some 77, op := _, type := _, pos := _, after := _, guard := _ }) (v := .bool true) rfl (by kernel_rfl) (by kernel_rfl) (by kernel_rfl) (fun _ _ _ h => h) (Or.inl ⟨by rfl, ?_⟩) hS ?_
                  · intro W hSw
                    have d0 : W.cell? ⟨p12, 0, none⟩ = some (.int .i64 z.k) := (hSw.2.2 0 _ rfl).1
                    exact exec_neq 38 _ (Operand.tmp 74) (Operand.tmp 76) rfl rfl rfl HNE.out
                  try simp only [Act.put, List.setIfInBounds_toArray, List.set_cons_zero, List.set_cons_succ]
                  refine wpAnyH_take (i := 9) (oi := { dst := some 78, op := _, type := _, pos := _, after := _, guard := _ }) (v := ?_) rfl (by kernel_rfl) (by kernel_rfl) (by kernel_rfl) (fun _ _ _ h => h) (Or.inl ⟨by rfl, ?_⟩) hS ?_
                  rotate_left
                  · intro W hSw
                    have d0 : W.cell? ⟨p12, 0, none⟩ = some (.int .i64 z.k) := (hSw.2.2 0 _ rfl).1
                    go_simp
                    first | done | rfl
                  try simp only [Act.put, List.setIfInBounds_toArray, List.set_cons_zero, List.set_cons_succ]
                  refine wpAnyH_done (by kernel_rfl) ?_ _
                  refine NoPanic.normal ?_
                  have lF := Lib.hid (su_load hS.1.acc)
                  obtain ⟨w9, st9, hz9, hB9, hbe9, hot9⟩ := refill (cs := e0.row) 35 hS.1.res rfl (by kernel_rfl) (Est.row_one _)
                  have HB9 := Lib.hid (And.intro hB9 (hS.1.below.trans (hbe9 _ (Nat.le_refl _) hS.1.below.size)))
                  have st9 := Lib.hid st9
                  clear hB9 hbe9 hot9 hz9
                  go_wp2_with (first | (guard_target =~ wpList _ _ _ (⟨_, Op.load _ (Operand.tmp 8), _, _, _, _⟩ :: _) _ _; refine wpList_load_eq 35 (Operand.tmp 8) rfl rfl lF.out rfl ?_) | (guard_target =~ wpList _ _ _ (⟨_, Op.load _ (Operand.tmp 8), _, _, _, _⟩ :: _) _ _; refine wpList_load_w 35 (Operand.tmp 8) (by kernel_rfl) rfl lF.out rfl ?_) | (guard_target =~ wpList _ _ _ (⟨_, Op.store _ (Operand.tmp 6) (Operand.tmp 79), _, _, _, _⟩ :: _) _ _; refine wpList_store_eq 35 (Operand.tmp 6) (Operand.tmp 79) rfl rfl st9.out rfl rfl ?_))

                  exact bodyPost_ret (results_sure rfl rfl HB9.out.1) rfl ⟨by rw [HV.out, ← HE0.out]; rfl, HB9.out.2⟩

        · obtain rfl : i = j := by omega
          have HV : Hid (sureB l n v = decide (e0.o = n)) := Lib.hid (by have := HALL.out; rw [HK.out, List.take_length] at this; rw [HVT.out, this]; rfl)
          go_wp2_with fail
          refine wp_region_noPanic ?_
          refine wp_region_held_drew (S := fun W => ∃ r, SuR w W r e0) (by kernel_rfl) (show ∃ r, SuR w wr.drew r e0 from ⟨_, HSR.out.later (Below.refl _ _).drew⟩) (fun _ => ?_)
          have hS : SuR w wr.drew Est.zero e0 := HSR.out.later (Below.refl _ _).drew
          generalize wr.drew = cw at *
          refine wpAnyH_take (i := 0) (oi := { dst := some 80, op := _, type := _, pos := _, after := _, guard := _ }) (v := .agg e0.row) rfl (by kernel_rfl) (by kernel_rfl) (by kernel_rfl) (fun _ _ _ h => h) (Or.inl ⟨by rfl, ?_⟩) ⟨_, hS⟩ ?_
          · intro W hSw
            obtain ⟨r0, hSw⟩ := hSw
            have d1 : W.cell? ⟨w.heap.size + 1, 1, none⟩ = some (.int .i64 e0.o) := (hSw.acc.2 1 _ rfl).1
            exact exec_load 35 (Operand.tmp 8) rfl rfl (su_load hSw.acc)
          try simp only [Act.put, List.setIfInBounds_toArray, List.set_cons_zero, List.set_cons_succ]
          refine wpAnyH_take (i := 1) (oi := { dst := some 81, op := _, type := _, pos := _, after := _, guard := _ }) (v := ?_) rfl (by kernel_rfl) (by kernel_rfl) (by kernel_rfl) (fun _ _ _ h => h) (Or.inl ⟨by rfl, ?_⟩) ⟨_, hS⟩ ?_
          rotate_left
          · intro W hSw
            obtain ⟨r0, hSw⟩ := hSw
            have d1 : W.cell? ⟨w.heap.size + 1, 1, none⟩ = some (.int .i64 e0.o) := (hSw.acc.2 1 _ rfl).1
            go_simp
            first | done | rfl
          try simp only [Act.put, List.setIfInBounds_toArray, List.set_cons_zero, List.set_cons_succ]
          refine wpAnyH_take (i := 3) (oi := { dst := some 83, op := _, type := _, pos := _, after := _, guard := _ }) (v := ?_) rfl (by kernel_rfl) (by kernel_rfl) (by kernel_rfl) (fun _ _ _ h => h) (Or.inl ⟨by rfl, ?_⟩) ⟨_, hS⟩ ?_
          rotate_left
          · intro W hSw
            obtain ⟨r0, hSw⟩ := hSw
            have d1 : W.cell? ⟨w.heap.size + 1, 1, none⟩ = some (.int .i64 e0.o) := (hSw.acc.2 1 _ rfl).1
            go_simp
            first | done | rfl
          try simp only [Act.put, List.setIfInBounds_toArray, List.set_cons_zero, List.set_cons_succ]
          refine wpAnyH_take (i := 2) (oi := { dst := some 82, op := _, type := _, pos := _, after := _, guard := _ }) (v := ?_) rfl (by kernel_rfl) (by kernel_rfl) (by kernel_rfl) (fun _ _ _ h => h) (Or.inl ⟨by rfl, ?_⟩) ⟨_, hS⟩ ?_
          rotate_left
          · intro W hSw
            obtain ⟨r0, hSw⟩ := hSw
            have d1 : W.cell? ⟨w.heap.size + 1, 1, none⟩ = some (.int .i64 e0.o) := (hSw.acc.2 1 _ rfl).1
            go_simp
            first | done | rfl
          try simp only [Act.put, List.setIfInBounds_toArray, List.set_cons_zero, List.set_cons_succ]
          refine wpAnyH_take (i := 4) (oi := { dst := some 84, op := _, type := _, pos := _, after := _, guard := _ }) (v := .bool (decide (e0.o = n))) rfl (by kernel_rfl) (by kernel_rfl) (by kernel_rfl) (fun _ _ _ h => h) (Or.inl ⟨by rfl, ?_⟩) ⟨_, hS⟩ ?_
          · intro W hSw
            obtain ⟨r0, hSw⟩ := hSw
            have d1 : W.cell? ⟨w.heap.size + 1, 1, none⟩ = some (.int .i64 e0.o) := (hSw.acc.2 1 _ rfl).1
            go_simp
            first | done | rfl | simp
          try simp only [Act.put, List.setIfInBounds_toArray, List.set_cons_zero, List.set_cons_succ]
          refine wpAnyH_ready (rs := [5]) (by kernel_rfl) (by simp) ?_
          refine AllReadyH.cons (o := { dst := none, op := _, type := _, pos := _, after := _, guard := _ }) rfl (fun K hK => ?_) AllReadyH.nil
          obtain ⟨cw, st9, hz9, hB9, hbe9, hot9⟩ := refill (cs := e0.row) 35 hS.res rfl (by kernel_rfl) (Est.row_one _)
          have hS9 : SuR w cw e0 e0 := ⟨hS.below.trans (hbe9 _ (Nat.le_refl _) hS.below.size), hB9, hot9 _ _ (by omega) hS.acc⟩
          refine wp_store_eq 35 (Operand.tmp 6) (Operand.tmp 80) rfl st9 rfl rfl ?_
          clear hB9 hbe9 hot9 hz9
          refine hK.out _ _ ⟨_, hS9⟩ (fun _ => ?_)
          clear hK K
          try simp only [Act.put]
          refine wpAnyH_take (i := 6) (oi := { dst := some 7, op := _, type := _, pos := _, after := _, guard := _ }) (v := ?_) rfl (by kernel_rfl) (by kernel_rfl) (by kernel_rfl) (fun _ _ _ h => h) (Or.inl ⟨by rfl, ?_⟩) ⟨_, hS9⟩ ?_
          rotate_left
          · intro W hSw
            obtain ⟨r0, hSw⟩ := hSw
            have d1 : W.cell? ⟨w.heap.size + 1, 1, none⟩ = some (.int .i64 e0.o) := (hSw.acc.2 1 _ rfl).1
            go_simp
            first | done | rfl
          try simp only [Act.put, List.setIfInBounds_toArray, List.set_cons_zero, List.set_cons_succ]
          refine wpAnyH_done (by kernel_rfl) ?_ _
          refine NoPanic.normal ?_
          go_wp2_with fail
          exact bodyPost_ret (results_sure rfl rfl hS9.res) rfl ⟨by rw [HV.out, ← HE0.out]; rfl, hS9.below⟩

end Go.Proofs.YtpbjjmenkoigjaaDoor
end

section
namespace Go.Proofs.YtpbjjmenkoigjaaDoor
open Go.RowKit
set_option linter.unusedVariables false
theorem ne_est2 (x y : Est) : NeFact 35 x.row y.row (!decide (x = y)) := by
  intro xo yo W
  obtain ⟨a1, a2, a3, a4, a5, a6, a7, a8, a9⟩ := x
  obtain ⟨b1, b2, b3, b4, b5, b6, b7, b8, b9⟩ := y
  unfold Est.row
  simp only [Est.mk.injEq, bytes_eq a9 b9]
  simp [go_sem]
  repeat' split
  all_goals simp_all
theorem chooseV_co (C : Int) (L : List Mst) : 0 ≤ (chooseV C L).co ∧ (chooseV C L).co ≤ 72057594037927935 := by
  unfold chooseV
  split
  · have hm : ∀ m ∈ countsL C.toNat L, 0 ≤ m.co ∧ m.co ≤ 72057594037927935 := fun m hm => by
      have := countsL_mem hm
      exact ((rightB_iff m this.2.1).1 this.2.2).2.2.2.2.2.1
    generalize countsL C.toNat L = l at *
    unfold chooseL
    split
    · exact ⟨by decide, by decide⟩
    · split
      · exact ⟨by decide, by decide⟩
      · next m0 l' _ =>
        split
        · exact ⟨by decide, by decide⟩
        · exact topCk_ok (m0 :: l') hm (m0.co, m0.cv, m0.cs, 0) (hm m0 (by simp))
  · exact ⟨by decide, by decide⟩
theorem markAt_ok {M : Int × Int × Int} (hM : 0 ≤ M.1 ∧ M.1 ≤ 72057594037927935) (es : List Est) : ∀ j, 0 ≤ (markAt M es j).1 ∧ (markAt M es j).1 ≤ 72057594037927935
  | 0 => hM
  | j + 1 => by
    cases hx : es[j]? with
    | none =>
      have : markAt M es (j + 1) = markAt M es j := by
        unfold markAt
        rw [List.take_of_length_le (by have := List.getElem?_eq_none_iff.1 hx; omega), List.take_of_length_le (List.getElem?_eq_none_iff.1 hx)]
      rw [this]
      exact markAt_ok hM es j
    | some x => rw [markAt_succ hx]; exact mo_ok x
set_option maxRecDepth 100000 in
set_option maxHeartbeats 40000000 in
theorem keeps_walk (C vv : Int) (ad : Option Addr) (cap : Nat) (L : List Mst) (w : World) (hr : RowsAt 33 w ad (L.map Mst.row)) (hcap : L.length ≤ cap) (hin : ∀ m ∈ L, m.In w) (hg : Gl w) :
    Calls Tryd.prog 4 #[.int .i64 C, .slice ad L.length cap, .int .i64 vv] w fun e w' => e = .returned (.bool true) ∧ Below w.heap.size w w' := by
  have HAW := Lib.hid (awake18_any w hg)
  have HGR := Lib.hid (fun W (hW : Below w.heap.size w W) => great_any ad cap L W (hr.later hW) (fun m hm => (hin m hm).later hW))
  have HR := Lib.hid hr
  have HIN := Lib.hid hin
  have HG := Lib.hid hg
  obtain ⟨N, hN⟩ : ∃ N, N = L.length := ⟨_, rfl⟩
  have HN := Lib.hid hN
  rw [← hN] at hcap ⊢
  simp only [← hN] at HGR
  clear hr hin hg hN
  go_enter Tryd.func4, Tryd.ntmps4
  go_wp2_with fail
  refine HAW.out.mono ?_
  rintro e w1 ⟨rfl, hb1⟩
  have HB1 := Lib.hid hb1
  go_wp2_with fail
  refine (HGR.out _ hb1).mono ?_
  rintro e w1' ⟨⟨v, rfl, hv⟩, rfl⟩
  cases v
  rotate_left
  · go_wp2_with fail
    go_ret
    exact ⟨rfl, HB1.out⟩
  have h12 : L.length ≤ 12 := hv rfl
  have HLA := Lib.hid (fun W (hW : Below w.heap.size w W) => (⟨HR.out.later hW, by rw [← HN.out]; exact hcap, by omega, fun m hm => (HIN.out m hm).later hW⟩ : LogsAt W ad cap L))
  have HLG := Lib.hid (fun W hW => logs_any C ad cap L W (HLA.out W hW))
  have HCH := Lib.hid (choose_any C ad cap L w1 (HLA.out w1 HB1.out) (HG.out.later HB1.out))
  simp only [← HN.out] at HLG HCH
  have HCV := Lib.hid (chooseV_chain C L)
  have h8 := chooseV_len C L
  clear hv hb1 HAW HGR h12
  obtain ⟨cc, hcc⟩ : ∃ cc, cc = chooseV C L := ⟨_, rfl⟩
  have HCC9 := Lib.hid hcc
  have hmo := chooseV_co C L
  rw [← hcc] at HCH HCV h8 hmo
  clear hcc
  go_wp2_with fail
  refine HCH.out.mono ?_
  rintro e w4 ⟨⟨ea, cp, rfl, hre, hce⟩, hb4⟩
  obtain ⟨n, hn⟩ : ∃ n, n = cc.es.length := ⟨_, rfl⟩
  rw [← hn] at h8 hce ⊢
  have HNn := Lib.hid hn
  obtain ⟨w5, st5, hW5, hB5, hz5⟩ := fresh w4 #[.bool false, .int .i64 0, .int .i64 0, .int .u64 0, .int .i64 0, .slice none 0 0] (crow cc.r cc.co cc.cv cc.cs cc.cm ea n cp) 30 rfl (by kernel_rfl) (crow_one _ _ _ _ _ _ _ _)
  obtain ⟨p5, hp5⟩ : ∃ p5, p5 = w4.heap.size := ⟨_, rfl⟩
  have HP5 : Hid (w.heap.size ≤ p5 ∧ p5 < w5.heap.size) := Lib.hid ⟨by rw [hp5]; exact Nat.le_trans HB1.out.size hb4.size, by rw [hp5]; exact hz5⟩
  have HB5 := Lib.hid ((HB1.out.trans (hb4.mono HB1.out.size)).trans (hW5.mono (HB1.out.trans (hb4.mono HB1.out.size)).size))
  have HC5 := Lib.hid (show Blk w5 p5 (crow cc.r cc.co cc.cv cc.cs cc.cm ea n cp) by rw [hp5]; exact hB5)
  have HRE := Lib.hid (hre.later hW5)
  have st5 := Lib.hid st5
  clear hW5 hB5 hz5 hb4 hre hn HCH HB1
  cases hr : cc.r
  · have x0 : w5.cell? ⟨p5, 0, none⟩ = some (.bool false) := by have := (HC5.out.2 0 (.bool cc.r) rfl).1; rwa [hr] at this
    subst hp5
    rw [hr] at st5
    go_wp2_with (first | (guard_target =~ wpList _ _ _ (⟨_, Op.store _ (Operand.tmp 7) (Operand.tmp 19), _, _, _, _⟩ :: _) _ _; refine wpList_store_eq 30 (Operand.tmp 7) (Operand.tmp 19) rfl rfl st5.out rfl rfl ?_))
    go_ret
    exact ⟨rfl, HB5.out⟩
  · obtain ⟨hC, hcm, hch⟩ := HCV.out.2 hr
    have HCC := Lib.hid hC
    have x0 : w5.cell? ⟨p5, 0, none⟩ = some (.bool true) := by have := (HC5.out.2 0 (.bool cc.r) rfl).1; rwa [hr] at this
    rw [← asked_C hC] at hch
    have HCHN := Lib.hid hch
    have HPL := Lib.hid (fun k h1 h2 M hM => keeps_plain (C := C) (v := vv) (L := L) (by rw [← HCC9.out]; exact hr) k h1 (by rw [← HCC9.out]; exact h2) M (by rw [← HCC9.out]; exact hM))
    rw [← asked_C hC, ← HCC9.out] at HPL
    subst hp5
    rw [hr] at st5
    clear hC hch
    go_wp2_with (first | (guard_target =~ wpList _ _ _ (⟨_, Op.store _ (Operand.tmp 7) (Operand.tmp 19), _, _, _, _⟩ :: _) _ _; refine wpList_store_eq 30 (Operand.tmp 7) (Operand.tmp 19) rfl rfl st5.out rfl rfl ?_))
    generalize w4.heap.size = p5 at *
    clear x0 st5
    refine (HLG.out _ HB5.out).mono ?_
    rintro e w6 ⟨⟨ad2, cap2, rfl, hr2, hc2⟩, hb6⟩
    have HB6 := Lib.hid (HB5.out.trans (hb6.mono HB5.out.size))
    have HM := Lib.hid (fun m (hm : m ∈ countsL (asked C) L) => countsL_mem hm)
    have hk5 := Nat.le_trans (countsL_len L (asked C)) (asked_le C)
    generalize countsL (asked C) L = l at *
    obtain ⟨K, hK⟩ : ∃ K, K = l.length := ⟨_, rfl⟩
    have HK := Lib.hid hK
    rw [← hK] at hc2 hk5 ⊢
    have HR2 := Lib.hid hr2
    have HRE6 := Lib.hid (HRE.out.later hb6)
    have HC6 := Lib.hid (HC5.out.later hb6)
    have l40 := Lib.hid (ck_load HC6.out)
    obtain ⟨w7, st7, hW7, hB7, hz7⟩ := fresh w6 #[.int .i64 0, .int .i64 0, .int .u64 0] (mrow cc.co cc.cv cc.cs) 27 rfl (by kernel_rfl) (mrow_one _ _ _)
    have HS7 : Hid (CnI w6 w7 (mrow cc.co cc.cv cc.cs)) := Lib.hid ⟨hW7, hB7⟩
    have st7 := Lib.hid st7
    clear hW7 hB7 hz7 hb6 hr2 hK HLG HC5 HRE HB5
    go_wp2_with (first | (guard_target =~ wpList _ _ _ (⟨_, Op.load _ (Operand.tmp 26), _, _, _, _⟩ :: _) _ _; refine wpList_load_eq 27 (Operand.tmp 26) rfl rfl l40.out rfl ?_) | (guard_target =~ wpList _ _ _ (⟨_, Op.load _ (Operand.tmp 26), _, _, _, _⟩ :: _) _ _; refine wpList_load_w 27 (Operand.tmp 26) (by kernel_rfl) rfl l40.out rfl ?_) | (guard_target =~ wpList _ _ _ (⟨_, Op.store _ (Operand.tmp 9) (Operand.tmp 27), _, _, _, _⟩ :: _) _ _; refine wpList_store_eq 27 (Operand.tmp 9) (Operand.tmp 27) rfl rfl st7.out rfl rfl ?_))
    clear l40 st7
    have HC5 : Hid (∀ W, Below w6.heap.size w6 W → W.cell? ⟨p5, 5, none⟩ = some (.slice ea n cp) ∧ W.cell? ⟨p5, 4, none⟩ = some (.int .i64 cc.cm) ∧ W.cell? ⟨p5, 1, none⟩ = some (.int .i64 cc.co)) := Lib.hid (fun W hW => ⟨((HC6.out.later hW).2 5 _ rfl).1, ((HC6.out.later hW).2 4 _ rfl).1, ((HC6.out.later hW).2 1 _ rfl).1⟩)
    have HMO := Lib.hid (markAt_ok (M := (cc.co, cc.cv, cc.cs)) hmo cc.es)
    have HLM : Hid (∀ m ∈ l, m.k = 7 ∧ rightB m = true) := Lib.hid (fun m hm => (HM.out m hm).2)
    go_loopw [10] (fun iv wr => ∃ k : Nat, k ≤ 8 ∧ k ≤ n ∧ iv = .int .i64 (k : Int) ∧ CnI w6 wr (mrow (markAt (cc.co, cc.cv, cc.cs) cc.es k).1 (markAt (cc.co, cc.cv, cc.cs) cc.es k).2.1 (markAt (cc.co, cc.cv, cc.cs) cc.es k).2.2)) (fun iv _ => 8 - (intOf iv).toNat)
    case atStart => exact ⟨0, by omega, by omega, rfl, HS7.out⟩
    case round =>
      clear HS7
      obtain ⟨k, hk8, hkn, rfl, hSr⟩ := hrel
      have HSR := Lib.hid hSr
      clear hSr
      by_cases hlt : k < 8
      · have hmo2 := HMO.out k
        have HPK := Lib.hid (HPL.out k hlt (by rw [← HNn.out]; exact hkn) _ rfl)
        have HCK := Lib.hid (HCHN.out k)
        have HMSK : Hid (∀ x, cc.es[k]? = some x → markAt (cc.co, cc.cv, cc.cs) cc.es (k + 1) = (x.mo, x.mv, x.sum)) := Lib.hid (fun x hx => markAt_succ hx)
        generalize (markAt (cc.co, cc.cv, cc.cs) cc.es k).1 = o at *
        generalize (markAt (cc.co, cc.cv, cc.cs) cc.es k).2.1 = a at *
        generalize (markAt (cc.co, cc.cv, cc.cs) cc.es k).2.2 = s at *
        have d0 : wr.cell? ⟨w6.heap.size, 0, none⟩ = some (.int .i64 o) := (HSR.out.mkb.2 0 _ rfl).1
        have HSU := Lib.hid (sure_any l ad2 cap2 (o + 1) vv wr (HR2.out.later HSR.out.below) (by rw [← HK.out]; exact hc2) (by rw [← HK.out]; omega) (fun m hm => (HIN.out m (HM.out m hm).1).below (HB6.out.trans (HSR.out.below.mono HB6.out.size)) (Nat.le_refl _)) HLM.out)
        have HE0k : Hid ((sureE l (o + 1) vv).Ok) := Lib.hid (by
          rcases sure_from (o + 1) vv l Est.zero with h | ⟨m, hm, _, _, he⟩
          · unfold sureE; rw [h]; unfold Est.Ok Est.zero; simp
          · unfold sureE; rw [← he]; exact (says_ok (HIN.out m (HM.out m hm).1) (o + 1)).2)
        simp only [← HK.out] at HSU
        generalize sureE l (o + 1) vv = e0 at *
        generalize sureB l (o + 1) vv = ok at *
        go_wp2_with fail
        refine HSU.out.mono ?_
        rintro ev w7 ⟨rfl, hb7⟩
        have hS7 := HSR.out.later hb7
        obtain ⟨w8, st8, hW8, hB8, hz8⟩ := fresh w7 #[.int .i64 0, .int .i64 0, .int .i64 0, .int .u64 0, .int .i64 0, .int .i64 0, .int .i64 0, .int .i64 0, .string ⟨#[]⟩] e0.row 35 rfl (by kernel_rfl) (Est.row_one _)
        obtain ⟨p11, hp11⟩ : ∃ p11, p11 = w7.heap.size := ⟨_, rfl⟩
        have HS8 : Hid (CnI w6 w8 (mrow o a s) ∧ Blk w8 p11 e0.row) := Lib.hid ⟨hS7.later hW8, by rw [hp11]; exact hB8⟩
        have st8 := Lib.hid st8
        have l44 := Lib.hid (mk_load HS8.out.1.mkb)
        have l45 := Lib.hid (su_load HS8.out.2)
        have HFOL := Lib.hid (fun W => follows_any o a s e0.v e0.o e0.u e0.p e0.c e0.s e0.r e0.k e0.b HE0k.out.1 W)
        clear d0 hb7 hS7 hW8 hB8 hz8 HSU HSR
        subst hp11
        cases ok
        · go_wp2_with (first | (guard_target =~ wpList _ _ _ (⟨_, Op.store _ (Operand.tmp 11) (Operand.tmp 39), _, _, _, _⟩ :: _) _ _; refine wpList_store_eq 35 (Operand.tmp 11) (Operand.tmp 39) rfl rfl st8.out rfl rfl ?_))
          go_ret
          exact ⟨rfl, HB6.out.trans (HS8.out.1.below.mono HB6.out.size)⟩
        · go_wp2_with (first | (guard_target =~ wpList _ _ _ (⟨_, Op.store _ (Operand.tmp 11) (Operand.tmp 39), _, _, _, _⟩ :: _) _ _; refine wpList_store_eq 35 (Operand.tmp 11) (Operand.tmp 39) rfl rfl st8.out rfl rfl ?_) | (guard_target =~ wpList _ _ _ (⟨_, Op.load _ (Operand.tmp 9), _, _, _, _⟩ :: _) _ _; refine wpList_load_w 27 (Operand.tmp 9) (by kernel_rfl) rfl l44.out rfl ?_) | (guard_target =~ wpList _ _ _ (⟨_, Op.load _ (Operand.tmp 11), _, _, _, _⟩ :: _) _ _; refine wpList_load_w 35 (Operand.tmp 11) (by kernel_rfl) rfl l45.out rfl ?_))
          clear st8 l44 l45
          generalize w7.heap.size = p11 at *
          refine (HFOL.out _).mono ?_
          rintro ev w9 ⟨rfl, hb9⟩
          have hS9 : CnI w6 w9 (mrow o a s) ∧ Blk w9 p11 e0.row := ⟨HS8.out.1.later hb9, HS8.out.2.later hb9⟩
          clear HS8 hb9 HFOL
          generalize w9 = w8 at *
          have HS8 := Lib.hid hS9
          clear hS9
          cases hfo : folB o a s e0.v e0.o e0.u e0.p e0.c e0.s e0.r e0.k e0.b
          · go_wp2_with fail
            go_ret
            exact ⟨rfl, HB6.out.trans (HS8.out.1.below.mono HB6.out.size)⟩
          · obtain ⟨x, hx, hst⟩ := HPK.out (by first | rfl | trivial) hfo
            have hkn2 : k < n := by rw [HNn.out]; exact (List.getElem?_eq_some_iff.1 hx).1
            have hkni : (k : Int) < (n : Int) := by omega
            have hxok : x.Ok := heldBy_ok (HCK.out x hx).2 (fun m hm => (HIN.out m (HM.out m hm).1))
            have HMSX := Lib.hid (HMSK.out x hx)
            have HSX := Lib.hid (fun W => stubof_any x W hxok)
            have HSE := Lib.hid (fun W => stubof_any e0 W HE0k.out)
            have HMK := Lib.hid (fun W => markof_any e0.v e0.o e0.u e0.c e0.s e0.r e0.k e0.p e0.b HE0k.out.2 W)
            obtain ⟨b, off, had, hbl, hra⟩ := HRE6.out.range (i := k) (x := x.row) (by rw [List.getElem?_map, hx]; rfl)
            subst had
            have HLE : Hid (∀ W, Below w6.heap.size w6 W → (Instr.loadAt 35 (.pointer (some ⟨b, off + k * 9, none⟩))).run Tryd.prog W = .ok (.agg x.row) W) := Lib.hid (fun W hW => load_at 35 _ (rangeAt.later hra hbl hW) Tryd.underlying35 rfl (by kernel_rfl))
            have HNS : Hid (NeFact 38 (stubV x).row (stubV e0).row false) := Lib.hid (by have := ne_sst (stubV x) (stubV e0); rwa [decide_eq_true hst] at this)
            have HFO := Lib.hid hfo
            by_cases hxe : x = e0
            · have HNE : Hid (NeFact 35 x.row e0.row false) := Lib.hid (by have := ne_est2 x e0; rwa [decide_eq_true hxe] at this)
              have HMS : Hid (markAt (cc.co, cc.cv, cc.cs) cc.es (k + 1) = (e0.mo, e0.mv, e0.sum)) := Lib.hid (by rw [HMSX.out, hxe])
              clear hra hbl hx hst hxok hxe hfo
              go_wp2_with fail
              refine wp_region_noPanic ?_
              refine wp_region_held_drew (S := fun W => CnI w6 W (mrow o a s) ∧ Blk W p11 e0.row) (by kernel_rfl) (show CnI w6 w8.drew (mrow o a s) ∧ Blk w8.drew p11 e0.row from ⟨HS8.out.1.later (Below.refl _ _).drew, HS8.out.2.drew⟩) (fun hS => ?_)
              generalize w8.drew = cw at *
              refine wpAnyH_take (i := 0) (oi := { dst := some 49, op := _, type := _, pos := _, after := _, guard := _ }) (v := ?_) rfl (by kernel_rfl) (by kernel_rfl) (by kernel_rfl) (fun _ _ _ h => h) (Or.inl ⟨by rfl, ?_⟩) hS ?_
              rotate_left
              · intro W hSw
                have d5 : W.cell? ⟨p5, 5, none⟩ = some (.slice (some ⟨b, off, none⟩) n cp) := (HC5.out W hSw.1.below).1
                go_simp
                first | done | rfl
              try simp only [Act.put, List.setIfInBounds_toArray, List.set_cons_zero, List.set_cons_succ]
              refine wpAnyH_take (i := 1) (oi := { dst := some 50, op := _, type := _, pos := _, after := _, guard := _ }) (v := ?_) rfl (by kernel_rfl) (by kernel_rfl) (by kernel_rfl) (fun _ _ _ h => h) (Or.inl ⟨by rfl, ?_⟩) hS ?_
              rotate_left
              · intro W hSw
                have d5 : W.cell? ⟨p5, 5, none⟩ = some (.slice (some ⟨b, off, none⟩) n cp) := (HC5.out W hSw.1.below).1
                go_simp
                first | done | rfl
              try simp only [Act.put, List.setIfInBounds_toArray, List.set_cons_zero, List.set_cons_succ]
              refine wpAnyH_take (i := 2) (oi := { dst := some 51, op := _, type := _, pos := _, after := _, guard := _ }) (v := ?_) rfl (by kernel_rfl) (by kernel_rfl) (by kernel_rfl) (fun _ _ _ h => h) (Or.inl ⟨by rfl, ?_⟩) hS ?_
              rotate_left
              · intro W hSw
                have d5 : W.cell? ⟨p5, 5, none⟩ = some (.slice (some ⟨b, off, none⟩) n cp) := (HC5.out W hSw.1.below).1
                go_simp
                first | done | rfl
              try simp only [Act.put, List.setIfInBounds_toArray, List.set_cons_zero, List.set_cons_succ]
              refine wpAnyH_take (i := 3) (oi := { dst := some 52, op := _, type := _, pos := _, after := _, guard := _ }) (v := ?_) rfl (by kernel_rfl) (by kernel_rfl) (by kernel_rfl) (fun _ _ _ h => h) (Or.inl ⟨by rfl, ?_⟩) hS ?_
              rotate_left
              · intro W hSw
                have d5 : W.cell? ⟨p5, 5, none⟩ = some (.slice (some ⟨b, off, none⟩) n cp) := (HC5.out W hSw.1.below).1
                go_simp
                first | done | rfl
              try simp only [Act.put, List.setIfInBounds_toArray, List.set_cons_zero, List.set_cons_succ]
              refine wpAnyH_take (i := 4) (oi := { dst := some 53, op := _, type := _, pos := _, after := _, guard := _ }) (v := .bool false) rfl (by kernel_rfl) (by kernel_rfl) (by kernel_rfl) (fun _ _ _ h => h) (Or.inl ⟨by rfl, ?_⟩) hS ?_
              · intro W hSw
                have d5 : W.cell? ⟨p5, 5, none⟩ = some (.slice (some ⟨b, off, none⟩) n cp) := (HC5.out W hSw.1.below).1
                go_simp
                first | done | rfl | (rw [decide_eq_false (by omega)])
              try simp only [Act.put, List.setIfInBounds_toArray, List.set_cons_zero, List.set_cons_succ]
              refine wpAnyH_take (i := 5) (oi := { dst := some 54, op := _, type := _, pos := _, after := _, guard := _ }) (v := ?_) rfl (by kernel_rfl) (by kernel_rfl) (by kernel_rfl) (fun _ _ _ h => h) (Or.inl ⟨by rfl, ?_⟩) hS ?_
              rotate_left
              · intro W hSw
                have d5 : W.cell? ⟨p5, 5, none⟩ = some (.slice (some ⟨b, off, none⟩) n cp) := (HC5.out W hSw.1.below).1
                go_simp
                first | done | rfl
              try simp only [Act.put, List.setIfInBounds_toArray, List.set_cons_zero, List.set_cons_succ]
              refine wpAnyH_take (i := 6) (oi := { dst := some 55, op := _, type := _, pos := _, after := _, guard := _ }) (v := ?_) rfl (by kernel_rfl) (by kernel_rfl) (by kernel_rfl) (fun _ _ _ h => h) (Or.inl ⟨by rfl, ?_⟩) hS ?_
              rotate_left
              · intro W hSw
                have d5 : W.cell? ⟨p5, 5, none⟩ = some (.slice (some ⟨b, off, none⟩) n cp) := (HC5.out W hSw.1.below).1
                go_simp
                first | done | rfl
              try simp only [Act.put, List.setIfInBounds_toArray, List.set_cons_zero, List.set_cons_succ]
              refine wpAnyH_take (i := 8) (oi := { dst := some 57, op := _, type := _, pos := _, after := _, guard := _ }) (v := ?_) rfl (by kernel_rfl) (by kernel_rfl) (by kernel_rfl) (fun _ _ _ h => h) (Or.inl ⟨by rfl, ?_⟩) hS ?_
              rotate_left
              · intro W hSw
                have d5 : W.cell? ⟨p5, 5, none⟩ = some (.slice (some ⟨b, off, none⟩) n cp) := (HC5.out W hSw.1.below).1
                go_simp
                first | done | rfl
              try simp only [Act.put, List.setIfInBounds_toArray, List.set_cons_zero, List.set_cons_succ]
              refine wpAnyH_take (i := 11) (oi := { dst := some 60, op := _, type := _, pos := _, after := _, guard := _ }) (v := .agg e0.row) rfl (by kernel_rfl) (by kernel_rfl) (by kernel_rfl) (fun _ _ _ h => h) (Or.inl ⟨by rfl, ?_⟩) hS ?_
              · intro W hSw
                have d5 : W.cell? ⟨p5, 5, none⟩ = some (.slice (some ⟨b, off, none⟩) n cp) := (HC5.out W hSw.1.below).1
                exact exec_load 35 (Operand.tmp 11) rfl rfl (su_load hSw.2)
              try simp only [Act.put, List.setIfInBounds_toArray, List.set_cons_zero, List.set_cons_succ]
              refine wpAnyH_take (i := 7) (oi := { dst := some 56, op := _, type := _, pos := _, after := _, guard := _ }) (v := ?_) rfl (by kernel_rfl) (by kernel_rfl) (by kernel_rfl) (fun _ _ _ h => h) (Or.inl ⟨by rfl, ?_⟩) hS ?_
              rotate_left
              · intro W hSw
                have d5 : W.cell? ⟨p5, 5, none⟩ = some (.slice (some ⟨b, off, none⟩) n cp) := (HC5.out W hSw.1.below).1
                go_simp
                first | done | rfl
              try simp only [Act.put, List.setIfInBounds_toArray, List.set_cons_zero, List.set_cons_succ]
              refine wpAnyH_take (i := 9) (oi := { dst := some 58, op := _, type := _, pos := _, after := _, guard := _ }) (v := ?_) rfl (by kernel_rfl) (by kernel_rfl) (by kernel_rfl) (fun _ _ _ h => h) (Or.inl ⟨by rfl, ?_⟩) hS ?_
              rotate_left
              · intro W hSw
                have d5 : W.cell? ⟨p5, 5, none⟩ = some (.slice (some ⟨b, off, none⟩) n cp) := (HC5.out W hSw.1.below).1
                go_simp
                first | done | rfl
              try simp only [Act.put, List.setIfInBounds_toArray, List.set_cons_zero, List.set_cons_succ]
              refine wpAnyH_take (i := 10) (oi := { dst := some 59, op := _, type := _, pos := _, after := _, guard := _ }) (v := .agg x.row) rfl (by kernel_rfl) (by kernel_rfl) (by kernel_rfl) (fun _ _ _ h => h) (Or.inl ⟨by rfl, ?_⟩) hS ?_
              · intro W hSw
                have d5 : W.cell? ⟨p5, 5, none⟩ = some (.slice (some ⟨b, off, none⟩) n cp) := (HC5.out W hSw.1.below).1
                exact exec_load 35 (Operand.tmp 58) rfl rfl (HLE.out W hSw.1.below)
              try simp only [Act.put, List.setIfInBounds_toArray, List.set_cons_zero, List.set_cons_succ]
              refine wpAnyH_take (i := 12) (oi := { dst := some 61, op := _, type := _, pos := _, after := _, guard := _ }) (v := .bool false) rfl (by kernel_rfl) (by kernel_rfl) (by kernel_rfl) (fun _ _ _ h => h) (Or.inl ⟨by rfl, ?_⟩) hS ?_
              · intro W hSw
                have d5 : W.cell? ⟨p5, 5, none⟩ = some (.slice (some ⟨b, off, none⟩) n cp) := (HC5.out W hSw.1.below).1
                exact exec_neq 35 _ (Operand.tmp 59) (Operand.tmp 60) rfl rfl rfl HNE.out
              try simp only [Act.put, List.setIfInBounds_toArray, List.set_cons_zero, List.set_cons_succ]
              refine wpAnyH_take (i := 13) (oi := { dst := some 62, op := _, type := _, pos := _, after := _, guard := _ }) (v := ?_) rfl (by kernel_rfl) (by kernel_rfl) (by kernel_rfl) (fun _ _ _ h => h) (Or.inl ⟨by rfl, ?_⟩) hS ?_
              rotate_left
              · intro W hSw
                have d5 : W.cell? ⟨p5, 5, none⟩ = some (.slice (some ⟨b, off, none⟩) n cp) := (HC5.out W hSw.1.below).1
                go_simp
                first | done | rfl
              try simp only [Act.put, List.setIfInBounds_toArray, List.set_cons_zero, List.set_cons_succ]
              refine wpAnyH_take (i := 14) (oi := { dst := some 63, op := _, type := _, pos := _, after := _, guard := _ }) (v := undef) rfl (by kernel_rfl) (by kernel_rfl) (by kernel_rfl) (fun _ _ _ h => h) (Or.inr ⟨by rfl, rfl⟩) hS ?_
              try simp only [Act.put, List.setIfInBounds_toArray, List.set_cons_zero, List.set_cons_succ]
              refine wpAnyH_take (i := 16) (oi := { dst := some 65, op := _, type := _, pos := _, after := _, guard := _ }) (v := undef) rfl (by kernel_rfl) (by kernel_rfl) (by kernel_rfl) (fun _ _ _ h => h) (Or.inr ⟨by rfl, rfl⟩) hS ?_
              try simp only [Act.put, List.setIfInBounds_toArray, List.set_cons_zero, List.set_cons_succ]
              refine wpAnyH_take (i := 20) (oi := { dst := some 69, op := _, type := _, pos := _, after := _, guard := _ }) (v := undef) rfl (by kernel_rfl) (by kernel_rfl) (by kernel_rfl) (fun _ _ _ h => h) (Or.inr ⟨by rfl, rfl⟩) hS ?_
              try simp only [Act.put, List.setIfInBounds_toArray, List.set_cons_zero, List.set_cons_succ]
              refine wpAnyH_take (i := 15) (oi := { dst := some 64, op := _, type := _, pos := _, after := _, guard := _ }) (v := undef) rfl (by kernel_rfl) (by kernel_rfl) (by kernel_rfl) (fun _ _ _ h => h) (Or.inr ⟨by rfl, rfl⟩) hS ?_
              try simp only [Act.put, List.setIfInBounds_toArray, List.set_cons_zero, List.set_cons_succ]
              refine wpAnyH_take (i := 17) (oi := { dst := some 66, op := _, type := _, pos := _, after := _, guard := _ }) (v := undef) rfl (by kernel_rfl) (by kernel_rfl) (by kernel_rfl) (fun _ _ _ h => h) (Or.inr ⟨by rfl, rfl⟩) hS ?_
              try simp only [Act.put, List.setIfInBounds_toArray, List.set_cons_zero, List.set_cons_succ]
              refine wpAnyH_take (i := 18) (oi := { dst := some 67, op := _, type := _, pos := _, after := _, guard := _ }) (v := undef) rfl (by kernel_rfl) (by kernel_rfl) (by kernel_rfl) (fun _ _ _ h => h) (Or.inr ⟨by rfl, rfl⟩) hS ?_
              try simp only [Act.put, List.setIfInBounds_toArray, List.set_cons_zero, List.set_cons_succ]
              refine wpAnyH_take (i := 19) (oi := { dst := some 68, op := _, type := _, pos := _, after := _, guard := _ }) (v := undef) rfl (by kernel_rfl) (by kernel_rfl) (by kernel_rfl) (fun _ _ _ h => h) (Or.inr ⟨by rfl, rfl⟩) hS ?_
              try simp only [Act.put, List.setIfInBounds_toArray, List.set_cons_zero, List.set_cons_succ]
              refine wpAnyH_take (i := 21) (oi := { dst := some 70, op := _, type := _, pos := _, after := _, guard := _ }) (v := undef) rfl (by kernel_rfl) (by kernel_rfl) (by kernel_rfl) (fun _ _ _ h => h) (Or.inr ⟨by rfl, rfl⟩) hS ?_
              try simp only [Act.put, List.setIfInBounds_toArray, List.set_cons_zero, List.set_cons_succ]
              refine wpAnyH_take (i := 22) (oi := { dst := some 71, op := _, type := _, pos := _, after := _, guard := _ }) (v := undef) rfl (by kernel_rfl) (by kernel_rfl) (by kernel_rfl) (fun _ _ _ h => h) (Or.inr ⟨by rfl, rfl⟩) hS ?_
              try simp only [Act.put, List.setIfInBounds_toArray, List.set_cons_zero, List.set_cons_succ]
              refine wpAnyH_take (i := 23) (oi := { dst := some 72, op := _, type := _, pos := _, after := _, guard := _ }) (v := ?_) rfl (by kernel_rfl) (by kernel_rfl) (by kernel_rfl) (fun _ _ _ h => h) (Or.inl ⟨by rfl, ?_⟩) hS ?_
              rotate_left
              · intro W hSw
                have d5 : W.cell? ⟨p5, 5, none⟩ = some (.slice (some ⟨b, off, none⟩) n cp) := (HC5.out W hSw.1.below).1
                go_simp
                first | done | rfl
              try simp only [Act.put, List.setIfInBounds_toArray, List.set_cons_zero, List.set_cons_succ]
              refine wpAnyH_take (i := 24) (oi := { dst := some 73, op := _, type := _, pos := _, after := _, guard := _ }) (v := ?_) rfl (by kernel_rfl) (by kernel_rfl) (by kernel_rfl) (fun _ _ _ h => h) (Or.inl ⟨by rfl, ?_⟩) hS ?_
              rotate_left
              · intro W hSw
                have d5 : W.cell? ⟨p5, 5, none⟩ = some (.slice (some ⟨b, off, none⟩) n cp) := (HC5.out W hSw.1.below).1
                go_simp
                first | done | rfl
              try simp only [Act.put, List.setIfInBounds_toArray, List.set_cons_zero, List.set_cons_succ]
              refine wpAnyH_done (by kernel_rfl) ?_ _
              refine NoPanic.normal ?_
              have HS8 := Lib.hid hS
              generalize cw = w8 at *
              clear hS
              go_wp2_with fail
              refine wp_region_noPanic ?_
              refine wp_region_held_drew (S := fun W => CnI w6 W (mrow o a s) ∧ Blk W p11 e0.row) (by kernel_rfl) (show CnI w6 w8.drew (mrow o a s) ∧ Blk w8.drew p11 e0.row from ⟨HS8.out.1.later (Below.refl _ _).drew, HS8.out.2.drew⟩) (fun hS => ?_)
              generalize w8.drew = cw at *
              refine wpAnyH_take (i := 0) (oi := { dst := some 74, op := _, type := _, pos := _, after := _, guard := _ }) (v := ?_) rfl (by kernel_rfl) (by kernel_rfl) (by kernel_rfl) (fun _ _ _ h => h) (Or.inl ⟨by rfl, ?_⟩) hS ?_
              rotate_left
              · intro W hSw
                have d5 : W.cell? ⟨p5, 5, none⟩ = some (.slice (some ⟨b, off, none⟩) n cp) := (HC5.out W hSw.1.below).1
                go_simp
                first | done | rfl
              try simp only [Act.put, List.setIfInBounds_toArray, List.set_cons_zero, List.set_cons_succ]
              refine wpAnyH_take (i := 2) (oi := { dst := some 76, op := _, type := _, pos := _, after := _, guard := _ }) (v := ?_) rfl (by kernel_rfl) (by kernel_rfl) (by kernel_rfl) (fun _ _ _ h => h) (Or.inl ⟨by rfl, ?_⟩) hS ?_
              rotate_left
              · intro W hSw
                have d5 : W.cell? ⟨p5, 5, none⟩ = some (.slice (some ⟨b, off, none⟩) n cp) := (HC5.out W hSw.1.below).1
                go_simp
                first | done | rfl
              try simp only [Act.put, List.setIfInBounds_toArray, List.set_cons_zero, List.set_cons_succ]
              refine wpAnyH_take (i := 5) (oi := { dst := some 79, op := _, type := _, pos := _, after := _, guard := _ }) (v := .agg e0.row) rfl (by kernel_rfl) (by kernel_rfl) (by kernel_rfl) (fun _ _ _ h => h) (Or.inl ⟨by rfl, ?_⟩) hS ?_
              · intro W hSw
                have d5 : W.cell? ⟨p5, 5, none⟩ = some (.slice (some ⟨b, off, none⟩) n cp) := (HC5.out W hSw.1.below).1
                exact exec_load 35 (Operand.tmp 11) rfl rfl (su_load hSw.2)
              try simp only [Act.put, List.setIfInBounds_toArray, List.set_cons_zero, List.set_cons_succ]
              refine wpAnyH_take (i := 1) (oi := { dst := some 75, op := _, type := _, pos := _, after := _, guard := _ }) (v := ?_) rfl (by kernel_rfl) (by kernel_rfl) (by kernel_rfl) (fun _ _ _ h => h) (Or.inl ⟨by rfl, ?_⟩) hS ?_
              rotate_left
              · intro W hSw
                have d5 : W.cell? ⟨p5, 5, none⟩ = some (.slice (some ⟨b, off, none⟩) n cp) := (HC5.out W hSw.1.below).1
                go_simp
                first | done | rfl
              try simp only [Act.put, List.setIfInBounds_toArray, List.set_cons_zero, List.set_cons_succ]
              refine wpAnyH_take (i := 3) (oi := { dst := some 77, op := _, type := _, pos := _, after := _, guard := _ }) (v := ?_) rfl (by kernel_rfl) (by kernel_rfl) (by kernel_rfl) (fun _ _ _ h => h) (Or.inl ⟨by rfl, ?_⟩) hS ?_
              rotate_left
              · intro W hSw
                have d5 : W.cell? ⟨p5, 5, none⟩ = some (.slice (some ⟨b, off, none⟩) n cp) := (HC5.out W hSw.1.below).1
                go_simp
                first | done | rfl
              try simp only [Act.put, List.setIfInBounds_toArray, List.set_cons_zero, List.set_cons_succ]
              refine wpAnyH_take (i := 4) (oi := { dst := some 78, op := _, type := _, pos := _, after := _, guard := _ }) (v := .agg x.row) rfl (by kernel_rfl) (by kernel_rfl) (by kernel_rfl) (fun _ _ _ h => h) (Or.inl ⟨by rfl, ?_⟩) hS ?_
              · intro W hSw
                have d5 : W.cell? ⟨p5, 5, none⟩ = some (.slice (some ⟨b, off, none⟩) n cp) := (HC5.out W hSw.1.below).1
                exact exec_load 35 (Operand.tmp 77) rfl rfl (HLE.out W hSw.1.below)
              try simp only [Act.put, List.setIfInBounds_toArray, List.set_cons_zero, List.set_cons_succ]
              refine wpAnyH_take (i := 6) (oi := { dst := some 80, op := _, type := _, pos := _, after := _, guard := _ }) (v := .bool false) rfl (by kernel_rfl) (by kernel_rfl) (by kernel_rfl) (fun _ _ _ h => h) (Or.inl ⟨by rfl, ?_⟩) hS ?_
              · intro W hSw
                have d5 : W.cell? ⟨p5, 5, none⟩ = some (.slice (some ⟨b, off, none⟩) n cp) := (HC5.out W hSw.1.below).1
                exact exec_neq 35 _ (Operand.tmp 78) (Operand.tmp 79) rfl rfl rfl HNE.out
              try simp only [Act.put, List.setIfInBounds_toArray, List.set_cons_zero, List.set_cons_succ]
              refine wpAnyH_done (by kernel_rfl) ?_ _
              refine NoPanic.normal ?_
              have l81 := Lib.hid (su_load hS.2)
              have HS9 := Lib.hid hS
              clear hS
              go_wp2_with (first | (guard_target =~ wpList _ _ _ (⟨_, Op.load _ (Operand.tmp 11), _, _, _, _⟩ :: _) _ _; refine wpList_load_eq 35 (Operand.tmp 11) rfl rfl l81.out rfl ?_) | (guard_target =~ wpList _ _ _ (⟨_, Op.load _ (Operand.tmp 11), _, _, _, _⟩ :: _) _ _; refine wpList_load_w 35 (Operand.tmp 11) (by kernel_rfl) rfl l81.out rfl ?_))
              refine (HMK.out _).mono ?_
              rintro ev w9 ⟨rfl, hb9⟩
              have hS9 := HS9.out.1.later hb9
              obtain ⟨w10, st10, hz10, hB10, hbe10, hot10⟩ := refill (cs := mrow e0.mo e0.mv e0.sum) 27 hS9.mkb rfl (by kernel_rfl) (mrow_one _ _ _)
              have HS10 : Hid (CnI w6 w10 (mrow e0.mo e0.mv e0.sum)) := Lib.hid ⟨hS9.below.trans (hbe10 _ (Nat.le_refl _) hS9.below.size), hB10⟩
              have st10 := Lib.hid st10
              clear hb9 hS9 hz10 hB10 hbe10 hot10
              go_wp2_with (first | (guard_target =~ wpList _ _ _ (⟨_, Op.store _ (Operand.tmp 9) (Operand.tmp 82), _, _, _, _⟩ :: _) _ _; refine wpList_store_eq 27 (Operand.tmp 9) (Operand.tmp 82) rfl rfl st10.out rfl rfl ?_))
              go_roundw
              case rel => exact ⟨k + 1, by omega, by omega, by go_num, by rw [HMS.out]; exact HS10.out⟩
              case measure => simp [intOf]; omega

            · have HNE : Hid (NeFact 35 x.row e0.row true) := Lib.hid (by have := ne_est2 x e0; rwa [decide_eq_false hxe] at this)
              clear hra hbl hx hst hxok hxe hfo
              go_wp2_with fail
              refine wp_region_noPanic ?_
              refine wp_region_held_drew (S := fun W => CnI w6 W (mrow o a s) ∧ Blk W p11 e0.row) (by kernel_rfl) (show CnI w6 w8.drew (mrow o a s) ∧ Blk w8.drew p11 e0.row from ⟨HS8.out.1.later (Below.refl _ _).drew, HS8.out.2.drew⟩) (fun hS => ?_)
              generalize w8.drew = cw at *
              refine wpAnyH_take (i := 0) (oi := { dst := some 49, op := _, type := _, pos := _, after := _, guard := _ }) (v := ?_) rfl (by kernel_rfl) (by kernel_rfl) (by kernel_rfl) (fun _ _ _ h => h) (Or.inl ⟨by rfl, ?_⟩) hS ?_
              rotate_left
              · intro W hSw
                have d5 : W.cell? ⟨p5, 5, none⟩ = some (.slice (some ⟨b, off, none⟩) n cp) := (HC5.out W hSw.1.below).1
                go_simp
                first | done | rfl
              try simp only [Act.put, List.setIfInBounds_toArray, List.set_cons_zero, List.set_cons_succ]
              refine wpAnyH_take (i := 1) (oi := { dst := some 50, op := _, type := _, pos := _, after := _, guard := _ }) (v := ?_) rfl (by kernel_rfl) (by kernel_rfl) (by kernel_rfl) (fun _ _ _ h => h) (Or.inl ⟨by rfl, ?_⟩) hS ?_
              rotate_left
              · intro W hSw
                have d5 : W.cell? ⟨p5, 5, none⟩ = some (.slice (some ⟨b, off, none⟩) n cp) := (HC5.out W hSw.1.below).1
                go_simp
                first | done | rfl
              try simp only [Act.put, List.setIfInBounds_toArray, List.set_cons_zero, List.set_cons_succ]
              refine wpAnyH_take (i := 2) (oi := { dst := some 51, op := _, type := _, pos := _, after := _, guard := _ }) (v := ?_) rfl (by kernel_rfl) (by kernel_rfl) (by kernel_rfl) (fun _ _ _ h => h) (Or.inl ⟨by rfl, ?_⟩) hS ?_
              rotate_left
              · intro W hSw
                have d5 : W.cell? ⟨p5, 5, none⟩ = some (.slice (some ⟨b, off, none⟩) n cp) := (HC5.out W hSw.1.below).1
                go_simp
                first | done | rfl
              try simp only [Act.put, List.setIfInBounds_toArray, List.set_cons_zero, List.set_cons_succ]
              refine wpAnyH_take (i := 3) (oi := { dst := some 52, op := _, type := _, pos := _, after := _, guard := _ }) (v := ?_) rfl (by kernel_rfl) (by kernel_rfl) (by kernel_rfl) (fun _ _ _ h => h) (Or.inl ⟨by rfl, ?_⟩) hS ?_
              rotate_left
              · intro W hSw
                have d5 : W.cell? ⟨p5, 5, none⟩ = some (.slice (some ⟨b, off, none⟩) n cp) := (HC5.out W hSw.1.below).1
                go_simp
                first | done | rfl
              try simp only [Act.put, List.setIfInBounds_toArray, List.set_cons_zero, List.set_cons_succ]
              refine wpAnyH_take (i := 4) (oi := { dst := some 53, op := _, type := _, pos := _, after := _, guard := _ }) (v := .bool false) rfl (by kernel_rfl) (by kernel_rfl) (by kernel_rfl) (fun _ _ _ h => h) (Or.inl ⟨by rfl, ?_⟩) hS ?_
              · intro W hSw
                have d5 : W.cell? ⟨p5, 5, none⟩ = some (.slice (some ⟨b, off, none⟩) n cp) := (HC5.out W hSw.1.below).1
                go_simp
                first | done | rfl | (rw [decide_eq_false (by omega)])
              try simp only [Act.put, List.setIfInBounds_toArray, List.set_cons_zero, List.set_cons_succ]
              refine wpAnyH_take (i := 5) (oi := { dst := some 54, op := _, type := _, pos := _, after := _, guard := _ }) (v := ?_) rfl (by kernel_rfl) (by kernel_rfl) (by kernel_rfl) (fun _ _ _ h => h) (Or.inl ⟨by rfl, ?_⟩) hS ?_
              rotate_left
              · intro W hSw
                have d5 : W.cell? ⟨p5, 5, none⟩ = some (.slice (some ⟨b, off, none⟩) n cp) := (HC5.out W hSw.1.below).1
                go_simp
                first | done | rfl
              try simp only [Act.put, List.setIfInBounds_toArray, List.set_cons_zero, List.set_cons_succ]
              refine wpAnyH_take (i := 6) (oi := { dst := some 55, op := _, type := _, pos := _, after := _, guard := _ }) (v := ?_) rfl (by kernel_rfl) (by kernel_rfl) (by kernel_rfl) (fun _ _ _ h => h) (Or.inl ⟨by rfl, ?_⟩) hS ?_
              rotate_left
              · intro W hSw
                have d5 : W.cell? ⟨p5, 5, none⟩ = some (.slice (some ⟨b, off, none⟩) n cp) := (HC5.out W hSw.1.below).1
                go_simp
                first | done | rfl
              try simp only [Act.put, List.setIfInBounds_toArray, List.set_cons_zero, List.set_cons_succ]
              refine wpAnyH_take (i := 8) (oi := { dst := some 57, op := _, type := _, pos := _, after := _, guard := _ }) (v := ?_) rfl (by kernel_rfl) (by kernel_rfl) (by kernel_rfl) (fun _ _ _ h => h) (Or.inl ⟨by rfl, ?_⟩) hS ?_
              rotate_left
              · intro W hSw
                have d5 : W.cell? ⟨p5, 5, none⟩ = some (.slice (some ⟨b, off, none⟩) n cp) := (HC5.out W hSw.1.below).1
                go_simp
                first | done | rfl
              try simp only [Act.put, List.setIfInBounds_toArray, List.set_cons_zero, List.set_cons_succ]
              refine wpAnyH_take (i := 11) (oi := { dst := some 60, op := _, type := _, pos := _, after := _, guard := _ }) (v := .agg e0.row) rfl (by kernel_rfl) (by kernel_rfl) (by kernel_rfl) (fun _ _ _ h => h) (Or.inl ⟨by rfl, ?_⟩) hS ?_
              · intro W hSw
                have d5 : W.cell? ⟨p5, 5, none⟩ = some (.slice (some ⟨b, off, none⟩) n cp) := (HC5.out W hSw.1.below).1
                exact exec_load 35 (Operand.tmp 11) rfl rfl (su_load hSw.2)
              try simp only [Act.put, List.setIfInBounds_toArray, List.set_cons_zero, List.set_cons_succ]
              refine wpAnyH_take (i := 7) (oi := { dst := some 56, op := _, type := _, pos := _, after := _, guard := _ }) (v := ?_) rfl (by kernel_rfl) (by kernel_rfl) (by kernel_rfl) (fun _ _ _ h => h) (Or.inl ⟨by rfl, ?_⟩) hS ?_
              rotate_left
              · intro W hSw
                have d5 : W.cell? ⟨p5, 5, none⟩ = some (.slice (some ⟨b, off, none⟩) n cp) := (HC5.out W hSw.1.below).1
                go_simp
                first | done | rfl
              try simp only [Act.put, List.setIfInBounds_toArray, List.set_cons_zero, List.set_cons_succ]
              refine wpAnyH_take (i := 9) (oi := { dst := some 58, op := _, type := _, pos := _, after := _, guard := _ }) (v := ?_) rfl (by kernel_rfl) (by kernel_rfl) (by kernel_rfl) (fun _ _ _ h => h) (Or.inl ⟨by rfl, ?_⟩) hS ?_
              rotate_left
              · intro W hSw
                have d5 : W.cell? ⟨p5, 5, none⟩ = some (.slice (some ⟨b, off, none⟩) n cp) := (HC5.out W hSw.1.below).1
                go_simp
                first | done | rfl
              try simp only [Act.put, List.setIfInBounds_toArray, List.set_cons_zero, List.set_cons_succ]
              refine wpAnyH_take (i := 10) (oi := { dst := some 59, op := _, type := _, pos := _, after := _, guard := _ }) (v := .agg x.row) rfl (by kernel_rfl) (by kernel_rfl) (by kernel_rfl) (fun _ _ _ h => h) (Or.inl ⟨by rfl, ?_⟩) hS ?_
              · intro W hSw
                have d5 : W.cell? ⟨p5, 5, none⟩ = some (.slice (some ⟨b, off, none⟩) n cp) := (HC5.out W hSw.1.below).1
                exact exec_load 35 (Operand.tmp 58) rfl rfl (HLE.out W hSw.1.below)
              try simp only [Act.put, List.setIfInBounds_toArray, List.set_cons_zero, List.set_cons_succ]
              refine wpAnyH_take (i := 12) (oi := { dst := some 61, op := _, type := _, pos := _, after := _, guard := _ }) (v := .bool true) rfl (by kernel_rfl) (by kernel_rfl) (by kernel_rfl) (fun _ _ _ h => h) (Or.inl ⟨by rfl, ?_⟩) hS ?_
              · intro W hSw
                have d5 : W.cell? ⟨p5, 5, none⟩ = some (.slice (some ⟨b, off, none⟩) n cp) := (HC5.out W hSw.1.below).1
                exact exec_neq 35 _ (Operand.tmp 59) (Operand.tmp 60) rfl rfl rfl HNE.out
              try simp only [Act.put, List.setIfInBounds_toArray, List.set_cons_zero, List.set_cons_succ]
              refine wpAnyH_take (i := 13) (oi := { dst := some 62, op := _, type := _, pos := _, after := _, guard := _ }) (v := ?_) rfl (by kernel_rfl) (by kernel_rfl) (by kernel_rfl) (fun _ _ _ h => h) (Or.inl ⟨by rfl, ?_⟩) hS ?_
              rotate_left
              · intro W hSw
                have d5 : W.cell? ⟨p5, 5, none⟩ = some (.slice (some ⟨b, off, none⟩) n cp) := (HC5.out W hSw.1.below).1
                go_simp
                first | done | rfl
              try simp only [Act.put, List.setIfInBounds_toArray, List.set_cons_zero, List.set_cons_succ]
              refine wpAnyH_take (i := 14) (oi := { dst := some 63, op := _, type := _, pos := _, after := _, guard := _ }) (v := ?_) rfl (by kernel_rfl) (by kernel_rfl) (by kernel_rfl) (fun _ _ _ h => h) (Or.inl ⟨by rfl, ?_⟩) hS ?_
              rotate_left
              · intro W hSw
                have d5 : W.cell? ⟨p5, 5, none⟩ = some (.slice (some ⟨b, off, none⟩) n cp) := (HC5.out W hSw.1.below).1
                go_simp
                first | done | rfl
              try simp only [Act.put, List.setIfInBounds_toArray, List.set_cons_zero, List.set_cons_succ]
              refine wpAnyH_take (i := 16) (oi := { dst := some 65, op := _, type := _, pos := _, after := _, guard := _ }) (v := ?_) rfl (by kernel_rfl) (by kernel_rfl) (by kernel_rfl) (fun _ _ _ h => h) (Or.inl ⟨by rfl, ?_⟩) hS ?_
              rotate_left
              · intro W hSw
                have d5 : W.cell? ⟨p5, 5, none⟩ = some (.slice (some ⟨b, off, none⟩) n cp) := (HC5.out W hSw.1.below).1
                go_simp
                first | done | rfl
              try simp only [Act.put, List.setIfInBounds_toArray, List.set_cons_zero, List.set_cons_succ]
              refine wpAnyH_take (i := 20) (oi := { dst := some 69, op := _, type := _, pos := _, after := _, guard := _ }) (v := .agg e0.row) rfl (by kernel_rfl) (by kernel_rfl) (by kernel_rfl) (fun _ _ _ h => h) (Or.inl ⟨by rfl, ?_⟩) hS ?_
              · intro W hSw
                have d5 : W.cell? ⟨p5, 5, none⟩ = some (.slice (some ⟨b, off, none⟩) n cp) := (HC5.out W hSw.1.below).1
                exact exec_load 35 (Operand.tmp 11) rfl rfl (su_load hSw.2)
              try simp only [Act.put, List.setIfInBounds_toArray, List.set_cons_zero, List.set_cons_succ]
              refine wpAnyH_take (i := 15) (oi := { dst := some 64, op := _, type := _, pos := _, after := _, guard := _ }) (v := ?_) rfl (by kernel_rfl) (by kernel_rfl) (by kernel_rfl) (fun _ _ _ h => h) (Or.inl ⟨by rfl, ?_⟩) hS ?_
              rotate_left
              · intro W hSw
                have d5 : W.cell? ⟨p5, 5, none⟩ = some (.slice (some ⟨b, off, none⟩) n cp) := (HC5.out W hSw.1.below).1
                go_simp
                first | done | rfl
              try simp only [Act.put, List.setIfInBounds_toArray, List.set_cons_zero, List.set_cons_succ]
              refine wpAnyH_take (i := 17) (oi := { dst := some 66, op := _, type := _, pos := _, after := _, guard := _ }) (v := ?_) rfl (by kernel_rfl) (by kernel_rfl) (by kernel_rfl) (fun _ _ _ h => h) (Or.inl ⟨by rfl, ?_⟩) hS ?_
              rotate_left
              · intro W hSw
                have d5 : W.cell? ⟨p5, 5, none⟩ = some (.slice (some ⟨b, off, none⟩) n cp) := (HC5.out W hSw.1.below).1
                go_simp
                first | done | rfl
              try simp only [Act.put, List.setIfInBounds_toArray, List.set_cons_zero, List.set_cons_succ]
              refine wpAnyH_take (i := 18) (oi := { dst := some 67, op := _, type := _, pos := _, after := _, guard := _ }) (v := .agg x.row) rfl (by kernel_rfl) (by kernel_rfl) (by kernel_rfl) (fun _ _ _ h => h) (Or.inl ⟨by rfl, ?_⟩) hS ?_
              · intro W hSw
                have d5 : W.cell? ⟨p5, 5, none⟩ = some (.slice (some ⟨b, off, none⟩) n cp) := (HC5.out W hSw.1.below).1
                exact exec_load 35 (Operand.tmp 66) rfl rfl (HLE.out W hSw.1.below)
              try simp only [Act.put, List.setIfInBounds_toArray, List.set_cons_zero, List.set_cons_succ]
              refine wpAnyH_ready (rs := [19]) (by kernel_rfl) (by simp) ?_
              refine AllReadyH.cons (o := { dst := some 68, op := _, type := _, pos := _, after := _, guard := _ }) rfl (fun K hK => ?_) AllReadyH.nil
              go_simp
              refine (HSX.out _).mono ?_
              rintro ev cw ⟨rfl, hb⟩
              replace hS : CnI w6 cw (mrow o a s) ∧ Blk cw p11 e0.row := ⟨hS.1.later hb, hS.2.later hb⟩
              clear hb
              refine hK.out _ _ hS (fun _ => ?_)
              clear hK K
              try simp only [Act.put, List.setIfInBounds_toArray, List.set_cons_zero, List.set_cons_succ]
              refine wpAnyH_ready (rs := [21]) (by kernel_rfl) (by simp) ?_
              refine AllReadyH.cons (o := { dst := some 70, op := _, type := _, pos := _, after := _, guard := _ }) rfl (fun K hK => ?_) AllReadyH.nil
              go_simp
              refine (HSE.out _).mono ?_
              rintro ev cw ⟨rfl, hb⟩
              replace hS : CnI w6 cw (mrow o a s) ∧ Blk cw p11 e0.row := ⟨hS.1.later hb, hS.2.later hb⟩
              clear hb
              refine hK.out _ _ hS (fun _ => ?_)
              clear hK K
              try simp only [Act.put, List.setIfInBounds_toArray, List.set_cons_zero, List.set_cons_succ]
              refine wpAnyH_take (i := 22) (oi := { dst := some 71, op := _, type := _, pos := _, after := _, guard := _ }) (v := .bool false) rfl (by kernel_rfl) (by kernel_rfl) (by kernel_rfl) (fun _ _ _ h => h) (Or.inl ⟨by rfl, ?_⟩) hS ?_
              · intro W hSw
                have d5 : W.cell? ⟨p5, 5, none⟩ = some (.slice (some ⟨b, off, none⟩) n cp) := (HC5.out W hSw.1.below).1
                exact exec_neq 38 _ (Operand.tmp 68) (Operand.tmp 70) rfl rfl rfl HNS.out
              try simp only [Act.put, List.setIfInBounds_toArray, List.set_cons_zero, List.set_cons_succ]
              refine wpAnyH_take (i := 23) (oi := { dst := some 72, op := _, type := _, pos := _, after := _, guard := _ }) (v := ?_) rfl (by kernel_rfl) (by kernel_rfl) (by kernel_rfl) (fun _ _ _ h => h) (Or.inl ⟨by rfl, ?_⟩) hS ?_
              rotate_left
              · intro W hSw
                have d5 : W.cell? ⟨p5, 5, none⟩ = some (.slice (some ⟨b, off, none⟩) n cp) := (HC5.out W hSw.1.below).1
                go_simp
                first | done | rfl
              try simp only [Act.put, List.setIfInBounds_toArray, List.set_cons_zero, List.set_cons_succ]
              refine wpAnyH_take (i := 24) (oi := { dst := some 73, op := _, type := _, pos := _, after := _, guard := _ }) (v := ?_) rfl (by kernel_rfl) (by kernel_rfl) (by kernel_rfl) (fun _ _ _ h => h) (Or.inl ⟨by rfl, ?_⟩) hS ?_
              rotate_left
              · intro W hSw
                have d5 : W.cell? ⟨p5, 5, none⟩ = some (.slice (some ⟨b, off, none⟩) n cp) := (HC5.out W hSw.1.below).1
                go_simp
                first | done | rfl
              try simp only [Act.put, List.setIfInBounds_toArray, List.set_cons_zero, List.set_cons_succ]
              refine wpAnyH_done (by kernel_rfl) ?_ _
              refine NoPanic.normal ?_
              have HS8 := Lib.hid hS
              generalize cw = w8 at *
              clear hS
              go_wp2_with fail
              refine wp_region_noPanic ?_
              refine wp_region_held_drew (S := fun W => CnI w6 W (mrow o a s) ∧ Blk W p11 e0.row) (by kernel_rfl) (show CnI w6 w8.drew (mrow o a s) ∧ Blk w8.drew p11 e0.row from ⟨HS8.out.1.later (Below.refl _ _).drew, HS8.out.2.drew⟩) (fun hS => ?_)
              generalize w8.drew = cw at *
              refine wpAnyH_take (i := 0) (oi := { dst := some 74, op := _, type := _, pos := _, after := _, guard := _ }) (v := ?_) rfl (by kernel_rfl) (by kernel_rfl) (by kernel_rfl) (fun _ _ _ h => h) (Or.inl ⟨by rfl, ?_⟩) hS ?_
              rotate_left
              · intro W hSw
                have d5 : W.cell? ⟨p5, 5, none⟩ = some (.slice (some ⟨b, off, none⟩) n cp) := (HC5.out W hSw.1.below).1
                go_simp
                first | done | rfl
              try simp only [Act.put, List.setIfInBounds_toArray, List.set_cons_zero, List.set_cons_succ]
              refine wpAnyH_take (i := 2) (oi := { dst := some 76, op := _, type := _, pos := _, after := _, guard := _ }) (v := ?_) rfl (by kernel_rfl) (by kernel_rfl) (by kernel_rfl) (fun _ _ _ h => h) (Or.inl ⟨by rfl, ?_⟩) hS ?_
              rotate_left
              · intro W hSw
                have d5 : W.cell? ⟨p5, 5, none⟩ = some (.slice (some ⟨b, off, none⟩) n cp) := (HC5.out W hSw.1.below).1
                go_simp
                first | done | rfl
              try simp only [Act.put, List.setIfInBounds_toArray, List.set_cons_zero, List.set_cons_succ]
              refine wpAnyH_take (i := 5) (oi := { dst := some 79, op := _, type := _, pos := _, after := _, guard := _ }) (v := .agg e0.row) rfl (by kernel_rfl) (by kernel_rfl) (by kernel_rfl) (fun _ _ _ h => h) (Or.inl ⟨by rfl, ?_⟩) hS ?_
              · intro W hSw
                have d5 : W.cell? ⟨p5, 5, none⟩ = some (.slice (some ⟨b, off, none⟩) n cp) := (HC5.out W hSw.1.below).1
                exact exec_load 35 (Operand.tmp 11) rfl rfl (su_load hSw.2)
              try simp only [Act.put, List.setIfInBounds_toArray, List.set_cons_zero, List.set_cons_succ]
              refine wpAnyH_take (i := 1) (oi := { dst := some 75, op := _, type := _, pos := _, after := _, guard := _ }) (v := ?_) rfl (by kernel_rfl) (by kernel_rfl) (by kernel_rfl) (fun _ _ _ h => h) (Or.inl ⟨by rfl, ?_⟩) hS ?_
              rotate_left
              · intro W hSw
                have d5 : W.cell? ⟨p5, 5, none⟩ = some (.slice (some ⟨b, off, none⟩) n cp) := (HC5.out W hSw.1.below).1
                go_simp
                first | done | rfl
              try simp only [Act.put, List.setIfInBounds_toArray, List.set_cons_zero, List.set_cons_succ]
              refine wpAnyH_take (i := 3) (oi := { dst := some 77, op := _, type := _, pos := _, after := _, guard := _ }) (v := ?_) rfl (by kernel_rfl) (by kernel_rfl) (by kernel_rfl) (fun _ _ _ h => h) (Or.inl ⟨by rfl, ?_⟩) hS ?_
              rotate_left
              · intro W hSw
                have d5 : W.cell? ⟨p5, 5, none⟩ = some (.slice (some ⟨b, off, none⟩) n cp) := (HC5.out W hSw.1.below).1
                go_simp
                first | done | rfl
              try simp only [Act.put, List.setIfInBounds_toArray, List.set_cons_zero, List.set_cons_succ]
              refine wpAnyH_take (i := 4) (oi := { dst := some 78, op := _, type := _, pos := _, after := _, guard := _ }) (v := .agg x.row) rfl (by kernel_rfl) (by kernel_rfl) (by kernel_rfl) (fun _ _ _ h => h) (Or.inl ⟨by rfl, ?_⟩) hS ?_
              · intro W hSw
                have d5 : W.cell? ⟨p5, 5, none⟩ = some (.slice (some ⟨b, off, none⟩) n cp) := (HC5.out W hSw.1.below).1
                exact exec_load 35 (Operand.tmp 77) rfl rfl (HLE.out W hSw.1.below)
              try simp only [Act.put, List.setIfInBounds_toArray, List.set_cons_zero, List.set_cons_succ]
              refine wpAnyH_take (i := 6) (oi := { dst := some 80, op := _, type := _, pos := _, after := _, guard := _ }) (v := .bool true) rfl (by kernel_rfl) (by kernel_rfl) (by kernel_rfl) (fun _ _ _ h => h) (Or.inl ⟨by rfl, ?_⟩) hS ?_
              · intro W hSw
                have d5 : W.cell? ⟨p5, 5, none⟩ = some (.slice (some ⟨b, off, none⟩) n cp) := (HC5.out W hSw.1.below).1
                exact exec_neq 35 _ (Operand.tmp 78) (Operand.tmp 79) rfl rfl rfl HNE.out
              try simp only [Act.put, List.setIfInBounds_toArray, List.set_cons_zero, List.set_cons_succ]
              refine wpAnyH_done (by kernel_rfl) ?_ _
              refine NoPanic.normal ?_
              go_wp2_with fail
              go_ret
              exact ⟨rfl, HB6.out.trans (hS.1.below.mono HB6.out.size)⟩

      · obtain rfl : k = 8 := by omega
        go_wp2_with fail
        go_ret
        exact ⟨rfl, HB6.out.trans (HSR.out.below.mono HB6.out.size)⟩
end Go.Proofs.YtpbjjmenkoigjaaDoor
end

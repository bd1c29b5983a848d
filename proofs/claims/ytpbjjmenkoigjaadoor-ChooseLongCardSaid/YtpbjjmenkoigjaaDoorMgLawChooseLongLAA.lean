/- What is asked of a log, plainly. What Choose answers is a chain that the logs hold: the plain law. What was decided once stays: the plain law. Of clean logs of one view that are beginnings of one log the longest is chosen: the plain law. The walk of ChooseLong where nothing is built. The steps of ChooseLong: a chain grows; entries read. -/
import Derived.Test.YtpbjjmenkoigjaaDoorMgLawChooseTurnsAH
import Derived.Test.YtpbjjmenkoigjaaDoorMgLawChooseTurnsAL
import Derived.Test.YtpbjjmenkoigjaaDoorMgLawChooseTurnsAC
import Derived.Test.YtpbjjmenkoigjaaDoorMgLawChooseTurnsAM
import Derived.Test.YtpbjjmenkoigjaaDoorMgLawChooseTurnsAO
import Derived.Test.YtpbjjmenkoigjaaDoorMgLawChooseWaitsAA
section
namespace Go.Proofs.YtpbjjmenkoigjaaDoor
open Go.RowKit
set_option linter.unusedVariables false
def sameP (m : Mst) : Prop := m.es.length = 0 ∧ m.op = 0 ∧ m.cl = 0 ∧ m.se = 0 ∧ m.rq = 0 ∧ m.pn = 0 ∧ m.ix = 0 ∧ m.sz = 0 ∧ (m.s0 = 0 ∧ m.s1 = 0 ∧ m.s2 = 0 ∧ m.s3 = 0 ∧ m.s4 = 0 ∧ m.s5 = 0) ∧ m.e = Est.zero ∧ m.b = ⟨#[]⟩
instance (m : Mst) : Decidable (sameP m) := by unfold sameP; exact inferInstance
def rightP (m : Mst) : Prop := (0 ≤ m.f ∧ m.f ≤ 255) ∧ sameP m ∧ (0 ≤ m.v ∧ m.v ≤ 72057594037927935) ∧ (0 ≤ m.lv ∧ m.lv ≤ 72057594037927935) ∧ (0 ≤ m.cm ∧ m.cm ≤ 72057594037927935) ∧ (0 ≤ m.co ∧ m.co ≤ 72057594037927935) ∧ (0 ≤ m.cv ∧ m.cv ≤ 72057594037927935) ∧ m.is.length = 8 ∧ m.is.all itemB = true
theorem rightB_iff (m : Mst) (hk : m.k = 7) : rightB m = true ↔ rightP m := by
  unfold rightB rightP sameP emptyB listsB
  simp only [Bool.and_eq_true, decide_eq_true_iff, okN_iff, Bool.or_eq_true]
  unfold emptyP
  constructor
  · rintro ⟨h1, h2, h3, h4, h5, h6, h7, h8, h9, ⟨hn, _, hs, he, hel, _, hb⟩, hl1, hl2, hl3, hl4⟩
    have n2 := hn 2 (by omega)
    have n4 := hn 4 (by omega)
    have n5 := hn 5 (by omega)
    have n6 := hn 6 (by omega)
    have n7 := hn 7 (by omega)
    have n8 := hn 8 (by omega)
    have n9 := hn 9 (by omega)
    exact ⟨⟨h1, h2⟩, ⟨hel, n2, n4, n5, n6, n7, n8, n9, hs, he, hb⟩, h7, h8, h9, h4, h5, by rcases hl4 with q | q; exact absurd hk q; exact q, hl2⟩
  · rintro ⟨⟨h1, h2⟩, ⟨hel, n2, n4, n5, n6, n7, n8, n9, hs, he, hb⟩, h7, h8, h9, h4, h5, hl, hi⟩
    refine ⟨h1, h2, by omega, h4, h5, by rw [hb]; exact Nat.zero_le _, h7, h8, h9, ⟨fun j hj => ?_, ⟨rfl, rfl, rfl⟩, hs, he, hel, rfl, hb⟩, by rw [List.eq_nil_of_length_eq_zero hel]; rfl, hi, by omega, .inr hl⟩
    match j, hj with
    | 0, _ => rfl
    | 1, _ => rfl
    | 2, _ => exact n2
    | 3, _ => rfl
    | 4, _ => exact n4
    | 5, _ => exact n5
    | 6, _ => exact n6
    | 7, _ => exact n7
    | 8, _ => exact n8
    | 9, _ => exact n9
theorem rightB_no (m : Mst) (hk : m.k = 7) (h : ¬ rightP m) : rightB m = false := by
  cases hR : rightB m
  · rfl
  · exact absurd ((rightB_iff m hk).1 hR) h
end Go.Proofs.YtpbjjmenkoigjaaDoor
end

section
namespace Go.Proofs.YtpbjjmenkoigjaaDoor
open Go.RowKit
set_option linter.unusedVariables false
def Est.fol (e : Est) (o v s : Int) : Bool := folB o v s e.v e.o e.u e.p e.c e.s e.r e.k e.b
/-- The mark behind so many entries. -/
def markAt (M : Int × Int × Int) (es : List Est) (j : Nat) : Int × Int × Int := (es.take j).foldl (fun _ e => (e.mo, e.mv, e.sum)) M
theorem markAt_zero (M : Int × Int × Int) (es : List Est) : markAt M es 0 = M := rfl
theorem markAt_succ {M : Int × Int × Int} {es : List Est} {j : Nat} {e : Est} (h : es[j]? = some e) : markAt M es (j + 1) = (e.mo, e.mv, e.sum) := by
  unfold markAt
  rw [take_snoc h, List.foldl_append]
  rfl
/-- An entry is held by one of the logs. -/
def heldBy (l : List Mst) (e : Est) (n : Int) : Prop := ∃ m ∈ l, (m.says n).k = 1 ∧ (m.says n).e = e
/-- A chain behind a mark that the logs hold. -/
def Chn (l : List Mst) (M : Int × Int × Int) (es : List Est) : Prop :=
  ∀ (j : Nat) (e : Est), es[j]? = some e → e.fol (markAt M es j).1 (markAt M es j).2.1 (markAt M es j).2.2 = true ∧ heldBy l e e.mo
theorem says_item {m : Mst} (h : m.is.all itemB = true) (n : Int) : itemB (m.says n) = true := by
  unfold Mst.says
  split
  · cases hx : m.is[(n - 1 - m.co).toNat]? with
    | none => decide
    | some x => exact List.all_eq_true.1 h x (List.mem_of_getElem? hx)
  · decide
theorem held_some {l : List Mst} {n : Int} {s : Sst} {e : Est} (h : held l n s = some e) : ∃ m ∈ l, (m.says n).k = 1 ∧ (m.says n).s = s ∧ (m.says n).e = e := by
  unfold held at h
  cases hf : l.find? (hasIt n s) with
  | none => rw [hf] at h; cases h
  | some m =>
    rw [hf] at h
    have h1 := List.find?_some hf
    unfold hasIt at h1
    have h2 : (m.says n).k = 1 ∧ (m.says n).s = s := by simpa using h1
    exact ⟨m, List.mem_of_find?_eq_some hf, h2.1, h2.2, by simpa using h⟩
theorem item_holds {x : Ist} (h : itemB x = true) (hk : x.k = 1) : x.e.B = true ∧ stubV x.e = x.s := by
  unfold itemB at h
  rw [if_neg (by omega), if_pos hk, Bool.and_eq_true, decide_eq_true_iff] at h
  exact h
theorem B_mo {e : Est} (h : e.B = true) : e.mo = e.o := if_pos h
/-- One step of the run. -/
theorem run_step {l : List Mst} (hl : ∀ m ∈ l, m.is.all itemB = true) {o v s : Int} {e : Est} (hb : ¬ badStub (told l (o + 1)) o v s) (hh : held l (o + 1) (told l (o + 1)).2.1 = some e) :
    e.fol o v s = true ∧ heldBy l e e.mo := by
  obtain ⟨m, hm, hk, hs, he⟩ := held_some hh
  obtain ⟨hB, hst⟩ := item_holds (says_item (hl m hm) (o + 1)) hk
  rw [he] at hB hst
  rw [hs] at hst
  unfold badStub at hb
  have h1 : (told l (o + 1)).2.1.o = o + 1 := Decidable.byContradiction fun q => hb (.inr (.inl q))
  have h2 : (told l (o + 1)).2.1.u = v := Decidable.byContradiction fun q => hb (.inr (.inr (.inl q)))
  have h3 : (told l (o + 1)).2.1.p = s := Decidable.byContradiction fun q => hb (.inr (.inr (.inr q)))
  rw [← hst] at h1 h2 h3
  unfold stubV at h1 h2 h3
  rw [if_pos hB] at h1 h2 h3
  have ho : e.o = o + 1 := h1
  refine ⟨folB_yes _ _ _ _ _ _ _ _ _ _ _ _ hB ⟨by omega, h2, h3⟩, m, hm, ?_⟩
  rw [B_mo hB, ho]
  exact ⟨hk, he⟩
theorem run_chn {l : List Mst} {wh : Bool} (hl : ∀ m ∈ l, m.is.all itemB = true) (M : Int × Int × Int) : ∀ (f : Nat) (o v s : Int) (E E' : List Est), Chn l M E → markAt M E E.length = (o, v, s) → runC l wh f o v s E = some E' → Chn l M E'
  | 0, o, v, s, E, E', hc, _, h => by
    have h : some E = some E' := h
    injection h with h
    exact h ▸ hc
  | f + 1, o, v, s, E, E', hc, hM, h => by
    rw [show runC l wh (f + 1) o v s E = (if badStub (told l (o + 1)) o v s then some E else match held l (o + 1) (told l (o + 1)).2.1 with
      | none => if wh = true then some E else none
      | some e => runC l wh f e.mo e.mv e.sum (E ++ [e])) from rfl] at h
    split at h
    · injection h with h; exact h ▸ hc
    · next hb =>
      split at h
      · split at h
        · injection h with h; exact h ▸ hc
        · cases h
      · next e he =>
        have hst := run_step hl hb he
        have hlast : (E ++ [e])[E.length]? = some e := by simp
        refine run_chn hl M f e.mo e.mv e.sum (E ++ [e]) E' (fun j x hj => ?_) ?_ h
        · have hmk : ∀ j, j ≤ E.length → markAt M (E ++ [e]) j = markAt M E j := fun j hj => by unfold markAt; rw [List.take_append_of_le_length hj]
          by_cases hjl : j < E.length
          · rw [List.getElem?_append_left hjl] at hj
            rw [hmk j (by omega)]
            exact hc j x hj
          · have hjl' : j < (E ++ [e]).length := (List.getElem?_eq_some_iff.1 hj).1
            have hje : j = E.length := by simp at hjl'; omega
            subst hje
            rw [hlast] at hj
            injection hj with hj
            subst hj
            rw [hmk _ (Nat.le_refl _), hM]
            exact hst
        · rw [List.length_append, show E.length + [e].length = E.length + 1 from rfl, markAt_succ hlast]
theorem chn_nil (l : List Mst) (M : Int × Int × Int) : Chn l M [] := fun j e h => by simp at h
theorem ck_le {l : List Mst} : ∀ (t : Int × Int × Int × Int), t.1 ≤ t.2.2.2 ∨ (∃ m ∈ l, m.co = t.1) → (l.foldl ckStep t).1 ≤ (l.foldl ckStep t).2.2.2 := by
  induction l with
  | nil => intro t h; rcases h with h | ⟨m, hm, _⟩; exact h; cases hm
  | cons m l ih =>
    intro t h
    rw [List.foldl_cons]
    refine ih _ ?_
    unfold ckStep
    split
    · left; show m.co ≤ max t.2.2.2 (max m.cm m.co); omega
    · rcases h with h | ⟨x, hx, hx2⟩
      · left; show t.1 ≤ max t.2.2.2 (max m.cm m.co); omega
      · rcases List.mem_cons.1 hx with rfl | hx
        · left; show t.1 ≤ max t.2.2.2 (max x.cm x.co); omega
        · right; exact ⟨x, hx, hx2⟩
theorem countsL_items {L : List Mst} {n : Nat} : ∀ m ∈ countsL n L, m.is.all itemB = true := fun m hm => by
  have := countsL_mem hm
  exact ((rightB_iff m this.2.1).1 this.2.2).2.2.2.2.2.2.2.2
/-- WHAT IS CHOSEN: a chain behind the checkpoint that the logs hold; nothing, if it is not ready. -/
theorem chooseV_chain (C : Int) (L : List Mst) : ((chooseV C L).r = false → chooseV C L = Cst.zero) ∧ ((chooseV C L).r = true → (C = 3 ∨ C = 5) ∧ (chooseV C L).co ≤ (chooseV C L).cm ∧ Chn (countsL C.toNat L) ((chooseV C L).co, (chooseV C L).cv, (chooseV C L).cs) (chooseV C L).es) := by
  unfold chooseV
  split
  · next hC =>
    have hit := countsL_items (L := L) (n := C.toNat)
    generalize countsL C.toNat L = l at *
    unfold chooseL
    split
    · exact ⟨fun _ => rfl, fun h => by cases h⟩
    · split
      · exact ⟨fun _ => rfl, fun h => by cases h⟩
      · next m0 l' _ =>
        split
        · exact ⟨fun _ => rfl, fun h => by cases h⟩
        · next E hE =>
          refine ⟨fun h => (by cases h), fun _ => ⟨hC, ?_⟩⟩
          refine ⟨?_, ?_⟩
          · exact ck_le (l := m0 :: l') (m0.co, m0.cv, m0.cs, 0) (.inr ⟨m0, by simp, rfl⟩)
          · exact run_chn hit _ 8 _ _ _ [] E (chn_nil _ _) rfl hE
  · exact ⟨fun _ => rfl, fun h => by cases h⟩
end Go.Proofs.YtpbjjmenkoigjaaDoor
end

section
namespace Go.Proofs.YtpbjjmenkoigjaaDoor
open Go.RowKit
set_option linter.unusedVariables false
def sureStep (n v : Int) (e : Est) (m : Mst) : Est := if v ≤ m.lv ∧ (m.says n).k = 1 ∧ e.o = 0 then (m.says n).e else e
def sureE (l : List Mst) (n v : Int) : Est := l.foldl (sureStep n v) Est.zero
def sureM (n v : Int) (s : Sst) (m : Mst) : Bool := decide (m.lv < v) || (decide ((m.says n).k = 3) || (decide ((m.says n).k ≠ 0) && decide ((m.says n).s = s)))
def sureB (l : List Mst) (n v : Int) : Bool := l.all (sureM n v (stubV (sureE l n v))) && decide ((sureE l n v).o = n)
theorem sure_from (n v : Int) : ∀ (l : List Mst) (e : Est), l.foldl (sureStep n v) e = e ∨ ∃ m ∈ l, v ≤ m.lv ∧ (m.says n).k = 1 ∧ (m.says n).e = l.foldl (sureStep n v) e
  | [], e => .inl rfl
  | m :: l, e => by
    rw [List.foldl_cons]
    rcases sure_from n v l (sureStep n v e m) with h | ⟨x, hx, h⟩
    · rw [h]
      unfold sureStep
      split
      · next q => exact .inr ⟨m, by simp, q.1, q.2.1, rfl⟩
      · exact .inl rfl
    · exact .inr ⟨x, List.mem_cons_of_mem _ hx, h⟩
/-- What is told where all who know of v or later tell one stub. -/
def ToldP (n v : Int) (S : Sst) (l : List Mst) (t : Int × Sst × Bool) : Prop :=
  (t = (-1, Sst.zero, false) ∨ (0 ≤ t.1 ∧ (v ≤ t.1 → t.2.2 = true ∧ t.2.1 = S))) ∧ ∀ m ∈ l, (m.says n).k ≠ 3 → m.lv ≤ t.1
theorem told_step {n v : Int} {S : Sst} {l : List Mst} {t : Int × Sst × Bool} {m : Mst} (h : ToldP n v S l t) (hm : 0 ≤ m.lv) (hs : v ≤ m.lv → (m.says n).k ≠ 3 → (m.says n).k ≠ 0 ∧ (m.says n).s = S) : ToldP n v S (l ++ [m]) (toldStep n t m) := by
  obtain ⟨h1, h2⟩ := h
  unfold toldStep
  by_cases hc : (m.says n).k = 3 ∨ m.lv < t.1
  · rw [if_pos hc]
    refine ⟨h1, fun x hx hk => ?_⟩
    rcases List.mem_append.1 hx with hx | hx
    · exact h2 x hx hk
    · obtain rfl : x = m := by simpa using hx
      rcases hc with q | q
      · exact absurd q hk
      · omega
  · rw [if_neg hc]
    have hk3 : (m.says n).k ≠ 3 := fun q => hc (.inl q)
    have hlv : t.1 ≤ m.lv := by
      have : ¬ m.lv < t.1 := fun q => hc (.inr q)
      omega
    have htop : (if t.1 < m.lv then m.lv else t.1) = m.lv := by split <;> omega
    have hall : ∀ x ∈ l ++ [m], (x.says n).k ≠ 3 → x.lv ≤ m.lv := fun x hx hk => by
      rcases List.mem_append.1 hx with hx | hx
      · exact Int.le_trans (h2 x hx hk) hlv
      · obtain rfl : x = m := by simpa using hx
        omega
    simp only [htop]
    by_cases hq : (m.says n).k ≠ 0 ∧ (if t.1 < m.lv then false else t.2.2) = false
    · rw [if_pos hq]
      exact ⟨.inr ⟨hm, fun hv => ⟨rfl, (hs hv hk3).2⟩⟩, hall⟩
    · rw [if_neg hq]
      refine ⟨.inr ⟨hm, fun hv => ?_⟩, hall⟩
      have hv : v ≤ m.lv := hv
      have hk0 := (hs hv hk3).1
      by_cases hlt : t.1 < m.lv
      · exact absurd ⟨hk0, by rw [if_pos hlt]⟩ hq
      · have he : t.1 = m.lv := by omega
        rcases h1 with h1 | h1
        · have : t.1 = -1 := by rw [h1]
          omega
        · show (if t.1 < m.lv then false else t.2.2) = true ∧ t.2.1 = S
          rw [if_neg hlt]
          exact h1.2 (by omega)
theorem told_all {n v : Int} {S : Sst} (hs : ∀ (m : Mst), v ≤ m.lv → (m.says n).k ≠ 3 → (m.says n).k ≠ 0 ∧ (m.says n).s = S → True) : ∀ (l2 l1 : List Mst) (t : Int × Sst × Bool), ToldP n v S l1 t → (∀ m ∈ l2, 0 ≤ m.lv ∧ (v ≤ m.lv → (m.says n).k ≠ 3 → (m.says n).k ≠ 0 ∧ (m.says n).s = S)) → ToldP n v S (l1 ++ l2) (l2.foldl (toldStep n) t)
  | [], l1, t, h, _ => by rw [List.append_nil]; exact h
  | m :: l2, l1, t, h, ha => by
    rw [List.foldl_cons, show l1 ++ m :: l2 = (l1 ++ [m]) ++ l2 by simp]
    have hm := ha m (by simp)
    exact told_all hs l2 (l1 ++ [m]) _ (told_step h hm.1 hm.2) (fun x hx => ha x (List.mem_cons_of_mem _ hx))
theorem told_sure {n v : Int} {S : Sst} {l : List Mst} (ha : ∀ m ∈ l, 0 ≤ m.lv ∧ (v ≤ m.lv → (m.says n).k ≠ 3 → (m.says n).k ≠ 0 ∧ (m.says n).s = S)) (hx : ∃ m ∈ l, v ≤ m.lv ∧ (m.says n).k = 1) : (told l n).2.2 = true ∧ (told l n).2.1 = S := by
  have h := told_all (n := n) (v := v) (S := S) (fun _ _ _ _ => trivial) l [] (-1, Sst.zero, false) ⟨.inl rfl, fun m hm => by cases hm⟩ ha
  rw [List.nil_append] at h
  obtain ⟨h1, h2⟩ := h
  obtain ⟨m, hm, hv, hk⟩ := hx
  have hle := h2 m hm (by omega)
  have hlv := (ha m hm).1
  unfold told
  rcases h1 with h1 | h1
  · rw [h1] at hle
    have : m.lv ≤ -1 := hle
    omega
  · exact h1.2 (by omega)
theorem held_find {l : List Mst} {n : Int} {s : Sst} (h : ∃ m ∈ l, (m.says n).k = 1 ∧ (m.says n).s = s) : ∃ e, held l n s = some e := by
  obtain ⟨m, hm, hk, hs⟩ := h
  unfold held
  cases hf : l.find? (hasIt n s) with
  | none =>
    have := List.find?_eq_none.1 hf m hm
    rw [hasIt_yes hk hs] at this
    exact absurd rfl this
  | some x => exact ⟨_, rfl⟩
/-- At a mark whose next entry is sure the run goes on, with an entry of its stub. -/
theorem sure_step {l : List Mst} (hl : ∀ m ∈ l, m.k = 7 ∧ rightB m = true) {o a s v : Int} (hb : sureB l (o + 1) v = true) (hf : (sureE l (o + 1) v).fol o a s = true) :
    ¬ badStub (told l (o + 1)) o a s ∧ ∃ e, held l (o + 1) (told l (o + 1)).2.1 = some e ∧ stubV e = stubV (sureE l (o + 1) v) := by
  unfold sureB at hb
  rw [Bool.and_eq_true, decide_eq_true_iff] at hb
  obtain ⟨hall, hop⟩ := hb
  unfold Est.fol folB at hf
  rw [Bool.and_eq_true, decide_eq_true_iff] at hf
  obtain ⟨hB, h1, h2, h3⟩ := hf
  have hB : (sureE l (o + 1) v).B = true := hB
  have hop1 := entB_op _ _ _ _ _ _ _ _ hB
  obtain ⟨m, hm, hv, hk, he⟩ : ∃ m ∈ l, v ≤ m.lv ∧ (m.says (o + 1)).k = 1 ∧ (m.says (o + 1)).e = sureE l (o + 1) v := by
    rcases sure_from (o + 1) v l Est.zero with h | h
    · have : (sureE l (o + 1) v).o = 0 := by unfold sureE; rw [h]; rfl
      omega
    · exact h
  have hit : ∀ m ∈ l, m.is.all itemB = true := fun m hm => ((rightB_iff m (hl m hm).1).1 (hl m hm).2).2.2.2.2.2.2.2.2
  have hst := (item_holds (says_item (hit m hm) (o + 1)) hk).2
  rw [he] at hst
  have ht := told_sure (l := l) (n := o + 1) (v := v) (S := stubV (sureE l (o + 1) v)) (fun x hx => ⟨((rightB_iff x (hl x hx).1).1 (hl x hx).2).2.2.2.1.1, fun hxv hx3 => by
    have := List.all_eq_true.1 hall x hx
    unfold sureM at this
    rw [decide_eq_false (by omega), decide_eq_false hx3, Bool.false_or, Bool.false_or, Bool.and_eq_true, decide_eq_true_iff, decide_eq_true_iff] at this
    exact this⟩) ⟨m, hm, hv, hk⟩
  have hsv : stubV (sureE l (o + 1) v) = ⟨(sureE l (o + 1) v).o, (sureE l (o + 1) v).v, (sureE l (o + 1) v).u, (sureE l (o + 1) v).p, (sureE l (o + 1) v).sum⟩ := if_pos hB
  refine ⟨?_, ?_⟩
  · unfold badStub
    rw [ht.2, ht.1, hsv]
    intro q
    rcases q with q | q | q | q
    · cases q
    · exact q (by show (sureE l (o + 1) v).o = o + 1; omega)
    · exact q h2
    · exact q h3
  · rw [ht.2]
    obtain ⟨e, hh⟩ := held_find (l := l) (n := o + 1) (s := stubV (sureE l (o + 1) v)) ⟨m, hm, hk, hst.symm⟩
    refine ⟨e, hh, ?_⟩
    obtain ⟨x, hx, hxk, hxs, hxe⟩ := held_some hh
    have := (item_holds (says_item (hit x hx) (o + 1)) hxk).2
    rw [← hxe, this, hxs]
theorem run_prefix {l : List Mst} {wh : Bool} : ∀ (f : Nat) (o v s : Int) (E E' : List Est), runC l wh f o v s E = some E' → ∃ R, E' = E ++ R
  | 0, o, v, s, E, E', h => by
    have h : some E = some E' := h
    injection h with h
    exact ⟨[], by rw [← h]; simp⟩
  | f + 1, o, v, s, E, E', h => by
    rw [show runC l wh (f + 1) o v s E = (if badStub (told l (o + 1)) o v s then some E else match held l (o + 1) (told l (o + 1)).2.1 with
      | none => if wh = true then some E else none
      | some e => runC l wh f e.mo e.mv e.sum (E ++ [e])) from rfl] at h
    split at h
    · injection h with h; exact ⟨[], by rw [← h]; simp⟩
    · split at h
      · split at h
        · injection h with h; exact ⟨[], by rw [← h]; simp⟩
        · cases h
      · next e _ =>
        obtain ⟨R, hR⟩ := run_prefix f _ _ _ _ _ h
        exact ⟨e :: R, by rw [hR]; simp⟩
theorem markAt_prefix (M : Int × Int × Int) (E R : List Est) {j : Nat} (h : j ≤ E.length) : markAt M (E ++ R) j = markAt M E j := by unfold markAt; rw [List.take_append_of_le_length h]
/-- Where the run could go on it has gone on. -/
theorem run_at {l : List Mst} {wh : Bool} (M : Int × Int × Int) : ∀ (f : Nat) (o v s : Int) (E E' : List Est), markAt M E E.length = (o, v, s) → runC l wh f o v s E = some E' →
    ∀ k, E.length ≤ k → k < E.length + f → k ≤ E'.length → ¬ badStub (told l ((markAt M E' k).1 + 1)) (markAt M E' k).1 (markAt M E' k).2.1 (markAt M E' k).2.2 → ∀ e, held l ((markAt M E' k).1 + 1) (told l ((markAt M E' k).1 + 1)).2.1 = some e → E'[k]? = some e
  | 0, o, v, s, E, E', hM, h, k, hk1, hk2, hk3, hb, e, he => by omega
  | f + 1, o, v, s, E, E', hM, h, k, hk1, hk2, hk3, hb, e, he => by
    obtain ⟨R, hR⟩ := run_prefix _ _ _ _ _ _ h
    rw [show runC l wh (f + 1) o v s E = (if badStub (told l (o + 1)) o v s then some E else match held l (o + 1) (told l (o + 1)).2.1 with
      | none => if wh = true then some E else none
      | some e => runC l wh f e.mo e.mv e.sum (E ++ [e])) from rfl] at h
    by_cases hkE : k = E.length
    · subst hkE
      have hmk : markAt M E' E.length = (o, v, s) := by rw [hR, markAt_prefix M E R (Nat.le_refl _), hM]
      rw [hmk] at hb he
      rw [if_neg hb] at h
      simp only at he
      rw [he] at h
      obtain ⟨R2, hR2⟩ := run_prefix _ _ _ _ _ _ h
      rw [hR2]
      simp
    · have hlen : E.length < E'.length := by omega
      split at h
      · injection h with h; rw [h] at hlen; omega
      · split at h
        · split at h
          · injection h with h; rw [h] at hlen; omega
          · cases h
        · next e2 _ =>
          have hlast : (E ++ [e2])[E.length]? = some e2 := by simp
          refine run_at M f e2.mo e2.mv e2.sum (E ++ [e2]) E' ?_ h k (by simp; omega) (by simp; omega) hk3 hb e he
          rw [List.length_append, show E.length + [e2].length = E.length + 1 from rfl, markAt_succ hlast]
theorem chooseV_run {C : Int} {L : List Mst} (h : (chooseV C L).r = true) : ∃ wh, runC (countsL C.toNat L) wh 8 (chooseV C L).co (chooseV C L).cv (chooseV C L).cs [] = some (chooseV C L).es := by
  unfold chooseV at *
  split at h
  · next hC =>
    rw [if_pos hC]
    generalize countsL C.toNat L = l at *
    unfold chooseL at *
    split at h
    · cases h
    · next hn =>
      rw [if_neg hn]
      split at h
      · cases h
      · next m0 l' _ =>
        split at h
        · cases h
        · next E hE =>
          simp only [hE]
          exact ⟨_, hE⟩
  · cases h
/-- THE LAW: what is sure behind a mark of the choice is chosen next, by its stub. -/
theorem keeps_plain {C v : Int} {L : List Mst} (h : (chooseV C L).r = true) (k : Nat) (hk : k < 8) (hk2 : k ≤ (chooseV C L).es.length) (M : Int × Int × Int) (hM : M = markAt ((chooseV C L).co, (chooseV C L).cv, (chooseV C L).cs) (chooseV C L).es k)
    (hb : sureB (countsL C.toNat L) (M.1 + 1) v = true) (hf : (sureE (countsL C.toNat L) (M.1 + 1) v).fol M.1 M.2.1 M.2.2 = true) :
    ∃ x, (chooseV C L).es[k]? = some x ∧ stubV x = stubV (sureE (countsL C.toNat L) (M.1 + 1) v) := by
  obtain ⟨wh, hrun⟩ := chooseV_run h
  have hl : ∀ m ∈ countsL C.toNat L, m.k = 7 ∧ rightB m = true := fun m hm => (countsL_mem hm).2
  obtain ⟨hnb, e, he, hst⟩ := sure_step hl hb hf
  subst hM
  exact ⟨e, run_at ((chooseV C L).co, (chooseV C L).cv, (chooseV C L).cs) 8 _ _ _ [] _ rfl hrun k (Nat.zero_le _) (by simpa using hk) hk2 hnb e he, hst⟩
end Go.Proofs.YtpbjjmenkoigjaaDoor
end

section
namespace Go.Proofs.YtpbjjmenkoigjaaDoor
open Go.RowKit
set_option linter.unusedVariables false
/-- A chain from the empty mark on. -/
def Chained (ch : List Est) : Prop := ∀ (j : Nat) (e : Est), ch[j]? = some e → e.fol (markAt (0, 0, 0) ch j).1 (markAt (0, 0, 0) ch j).2.1 (markAt (0, 0, 0) ch j).2.2 = true
def lgOf (ch : List Est) (view : Int) (i : Nat) (p : Nat × Nat) : Mst := logM ((i : Int) + 1) view p.1 (itemsOf (ch.take p.2) (8 - (ch.take p.2).length))
def lgs (ch : List Est) (view : Int) (P : List (Nat × Nat)) : List Mst := P.mapIdx (lgOf ch view)
def topOf (P : List (Nat × Nat)) : Nat := P.foldl (fun t p => max t p.2) 0
theorem lgs_snoc (ch : List Est) (view : Int) (P : List (Nat × Nat)) (p : Nat × Nat) : lgs ch view (P ++ [p]) = lgs ch view P ++ [lgOf ch view P.length p] := by unfold lgs; rw [List.mapIdx_concat]
theorem topOf_snoc (P : List (Nat × Nat)) (p : Nat × Nat) : topOf (P ++ [p]) = max (topOf P) p.2 := by unfold topOf; rw [List.foldl_append]; rfl
theorem lgs_len (ch : List Est) (view : Int) (P : List (Nat × Nat)) : (lgs ch view P).length = P.length := by unfold lgs; simp
theorem lgs_at {ch : List Est} {view : Int} {P : List (Nat × Nat)} {j : Nat} {m : Mst} (h : (lgs ch view P)[j]? = some m) : ∃ p, P[j]? = some p ∧ m = lgOf ch view j p := by
  unfold lgs at h
  rw [List.getElem?_mapIdx] at h
  cases hp : P[j]? with
  | none => rw [hp] at h; cases h
  | some p => rw [hp] at h; exact ⟨p, rfl, by simpa using h.symm⟩
theorem fol_B {e : Est} {o v s : Int} (h : e.fol o v s = true) : e.B = true ∧ e.o = o + 1 ∧ e.u = v ∧ e.p = s := by
  unfold Est.fol folB at h
  rw [Bool.and_eq_true, decide_eq_true_iff] at h
  exact ⟨h.1, by omega, h.2.2.1, h.2.2.2⟩
theorem chained_B {ch : List Est} (h : Chained ch) : ∀ e ∈ ch, e.B = true := fun e he => by
  obtain ⟨j, hj⟩ := List.getElem?_of_mem he
  exact (fol_B (h j e hj)).1
theorem chained_op {ch : List Est} (h : Chained ch) : ∀ (j : Nat), j ≤ ch.length → (markAt (0, 0, 0) ch j).1 = (j : Int)
  | 0, _ => rfl
  | j + 1, hj => by
    obtain ⟨e, he⟩ : ∃ e, ch[j]? = some e := ⟨ch[j], List.getElem?_eq_getElem _⟩
    rw [markAt_succ he]
    have hf := fol_B (h j e he)
    rw [chained_op h j (by omega)] at hf
    show e.mo = _
    rw [B_mo hf.1, hf.2.1]
    omega
theorem items_len {l : List Est} (h : l.length ≤ 8) : (itemsOf l (8 - l.length)).length = 8 := by unfold itemsOf; simp; omega
theorem items_all {l : List Est} {n : Nat} (h : ∀ e ∈ l, e.B = true) : (itemsOf l n).all itemB = true := by
  unfold itemsOf
  rw [List.all_append, Bool.and_eq_true]
  constructor
  · rw [List.all_eq_true]
    intro x hx
    obtain ⟨e, he, rfl⟩ := List.mem_map.1 hx
    exact item_hold (h e he)
  · rw [List.all_eq_true]
    intro x hx
    rw [(List.mem_replicate.1 hx).2]
    exact item_zero
theorem items_at (l : List Est) (n k : Nat) : ((itemsOf l n)[k]?).getD Ist.zero = match l[k]? with | some e => holdIt e | none => Ist.zero := by
  unfold itemsOf
  by_cases hk : k < l.length
  · rw [List.getElem?_append_left (by simpa using hk), List.getElem?_map, List.getElem?_eq_getElem hk]
    rfl
  · rw [List.getElem?_append_right (by simp; omega), List.getElem?_eq_none (by omega : l.length ≤ k)]
    simp only [List.getElem?_replicate]
    split <;> rfl
section
variable {ch : List Est} {view : Int} {P : List (Nat × Nat)}
theorem lg_right (hc : Chained ch) (h8 : ch.length ≤ 8) (hv : 0 ≤ view ∧ view ≤ 72057594037927935) {j : Nat} (hj : j < 255) (p : Nat × Nat) : rightB (lgOf ch view j p) = true :=
  rightB_log ⟨by omega, by omega⟩ hv (items_len (by rw [List.length_take]; omega)) (items_all fun e he => chained_B hc e (List.mem_of_mem_take he))
theorem lastOf_lgs (hc : Chained ch) (h8 : ch.length ≤ 8) (hv : 0 ≤ view ∧ view ≤ 72057594037927935) (hP : P.length ≤ 5) (n : Nat) : lastOf ((n : Int) + 1) (lgs ch view P) = (lgs ch view P)[n]? := by
  have hlog : ∀ (j : Nat) (m : Mst), (lgs ch view P)[j]? = some m → ∀ w2 : Int, isLog w2 m = decide ((j : Int) + 1 = w2) := fun j m hm w2 => by
    obtain ⟨p, hp, rfl⟩ := lgs_at hm
    have hj := (List.getElem?_eq_some_iff.1 hp).1
    exact isLog_log ⟨by omega, by omega⟩ hv (items_len (by rw [List.length_take]; omega)) (items_all fun e he => chained_B hc e (List.mem_of_mem_take he))
  unfold lastOf
  cases hf : (lgs ch view P).reverse.find? (isLog ((n : Int) + 1)) with
  | none =>
    cases hn : (lgs ch view P)[n]? with
    | none => rfl
    | some m =>
      have := List.find?_eq_none.1 hf m (List.mem_reverse.2 (List.mem_of_getElem? hn))
      rw [hlog n m hn, decide_eq_true rfl] at this
      exact absurd rfl this
  | some m =>
    have h1 := List.mem_reverse.1 (List.mem_of_find?_eq_some hf)
    have h2 := List.find?_some hf
    obtain ⟨j, hj⟩ := List.getElem?_of_mem h1
    rw [hlog j m hj] at h2
    have h3 := of_decide_eq_true h2
    have : j = n := by omega
    rw [← this, hj]
theorem counts_lgs (hc : Chained ch) (h8 : ch.length ≤ 8) (hv : 0 ≤ view ∧ view ≤ 72057594037927935) (hP : P.length ≤ 5) : ∀ n, countsL n (lgs ch view P) = (lgs ch view P).take n
  | 0 => rfl
  | n + 1 => by
    rw [show countsL (n + 1) (lgs ch view P) = countsL n (lgs ch view P) ++ (lastOf ((n : Int) + 1) (lgs ch view P)).toList from rfl, counts_lgs hc h8 hv hP n, lastOf_lgs hc h8 hv hP n, List.take_add_one]
theorem says_lg (j : Nat) (p : Nat × Nat) (k : Nat) : (lgOf ch view j p).says ((k : Int) + 1) = match (ch.take p.2)[k]? with | some e => holdIt e | none => Ist.zero := by
  have := saysA (k + 1) (by omega) ((j : Int) + 1) view p.1 (itemsOf (ch.take p.2) (8 - (ch.take p.2).length))
  rw [show ((k + 1 : Nat) : Int) = (k : Int) + 1 by omega] at this
  unfold lgOf
  rw [this, ← items_at _ (8 - (ch.take p.2).length) k]
  rfl
/-- What one log of them says: what the chain has, as far as the log goes. -/
theorem says_lgs {m : Mst} (hm : m ∈ lgs ch view P) (k : Nat) : m.lv = view ∧ ∃ p ∈ P, m.says ((k : Int) + 1) = if k < p.2 then (match ch[k]? with | some e => holdIt e | none => Ist.zero) else Ist.zero := by
  obtain ⟨j, hj⟩ := List.getElem?_of_mem hm
  obtain ⟨p, hp, rfl⟩ := lgs_at hj
  refine ⟨rfl, p, List.mem_of_getElem? hp, ?_⟩
  rw [says_lg]
  by_cases h : k < p.2
  · rw [if_pos h, List.getElem?_take_of_lt h]
  · rw [if_neg h, List.getElem?_eq_none (by rw [List.length_take]; omega)]
end
def ToldQ (view : Int) (S : Sst) (b : Bool) (t : Int × Sst × Bool) : Prop := (t.1 = -1 ∨ t.1 = view) ∧ (t.2.2 = true → t.2.1 = S ∧ t.1 = view) ∧ t.2.2 = b
theorem toldQ_step {view n : Int} {S : Sst} {b : Bool} {t : Int × Sst × Bool} {m : Mst} (hv : 0 ≤ view) (h : ToldQ view S b t) (hl : m.lv = view) (hm : (m.says n).k = 0 ∨ ((m.says n).k = 1 ∧ (m.says n).s = S)) : ToldQ view S (b || decide ((m.says n).k = 1)) (toldStep n t m) := by
  obtain ⟨h1, h2, h3⟩ := h
  unfold toldStep
  rw [if_neg (by rw [hl]; omega)]
  have htop : (if t.1 < m.lv then m.lv else t.1) = view := by split <;> omega
  have hfd : (if t.1 < m.lv then false else t.2.2) = b := by
    split
    · next q =>
      cases hb : t.2.2
      · rw [← h3, hb]
      · have := (h2 hb).2; omega
    · exact h3
  simp only [htop, hfd]
  rcases hm with hk | ⟨hk, hs⟩
  · rw [if_neg (by omega), decide_eq_false (by omega), Bool.or_false]
    exact ⟨.inr rfl, fun q => ⟨(h2 (h3.trans q)).1, rfl⟩, rfl⟩
  · rw [decide_eq_true hk, Bool.or_true]
    by_cases hb : b = false
    · rw [if_pos ⟨by omega, hb⟩]
      exact ⟨.inr rfl, fun _ => ⟨hs, rfl⟩, rfl⟩
    · rw [if_neg (fun q => hb q.2)]
      have hb : b = true := by simpa using hb
      exact ⟨.inr rfl, fun _ => ⟨(h2 (h3.trans hb)).1, rfl⟩, hb⟩
theorem toldQ_all {view n : Int} {S : Sst} (hv : 0 ≤ view) : ∀ (l : List Mst) (b : Bool) (t : Int × Sst × Bool), ToldQ view S b t → (∀ m ∈ l, m.lv = view ∧ ((m.says n).k = 0 ∨ ((m.says n).k = 1 ∧ (m.says n).s = S))) → ToldQ view S (b || l.any (fun m => decide ((m.says n).k = 1))) (l.foldl (toldStep n) t)
  | [], b, t, h, _ => by rw [List.any_nil, Bool.or_false]; exact h
  | m :: l, b, t, h, ha => by
    rw [List.foldl_cons, List.any_cons, ← Bool.or_assoc]
    have hm := ha m (by simp)
    exact toldQ_all hv l _ _ (toldQ_step hv h hm.1 hm.2) (fun x hx => ha x (List.mem_cons_of_mem _ hx))
theorem top_le {P : List (Nat × Nat)} : ∀ {p : Nat × Nat}, p ∈ P → p.2 ≤ topOf P := by
  unfold topOf
  have : ∀ (P : List (Nat × Nat)) (t : Nat), t ≤ P.foldl (fun t p => max t p.2) t ∧ ∀ p ∈ P, p.2 ≤ P.foldl (fun t p => max t p.2) t := by
    intro P
    induction P with
    | nil => intro t; exact ⟨Nat.le_refl _, fun p h => by cases h⟩
    | cons a P ih =>
      intro t
      rw [List.foldl_cons]
      have := ih (max t a.2)
      refine ⟨by omega, fun p hp => ?_⟩
      rcases List.mem_cons.1 hp with rfl | hp
      · omega
      · exact this.2 p hp
  exact fun {p} hp => (this P 0).2 p hp
theorem top_is {P : List (Nat × Nat)} {k : Nat} (h : k < topOf P) : ∃ p ∈ P, k < p.2 := by
  have : ∀ (P : List (Nat × Nat)) (t : Nat), k < P.foldl (fun t p => max t p.2) t → k < t ∨ ∃ p ∈ P, k < p.2 := by
    intro P
    induction P with
    | nil => intro t h; exact .inl h
    | cons a P ih =>
      intro t h
      rw [List.foldl_cons] at h
      rcases ih _ h with q | ⟨p, hp, q⟩
      · by_cases h2 : k < t
        · exact .inl h2
        · exact .inr ⟨a, by simp, by omega⟩
      · exact .inr ⟨p, List.mem_cons_of_mem _ hp, q⟩
  rcases this P 0 h with q | q
  · omega
  · exact q
section
variable {ch : List Est} {view : Int} {P : List (Nat × Nat)}
theorem told_lgs (hv : 0 ≤ view) {k : Nat} {e : Est} (he : ch[k]? = some e) : ToldQ view (stubV e) ((lgs ch view P).any (fun m => decide ((m.says ((k : Int) + 1)).k = 1))) (told (lgs ch view P) ((k : Int) + 1)) := by
  have := toldQ_all (n := (k : Int) + 1) (S := stubV e) hv (lgs ch view P) false (-1, Sst.zero, false) ⟨.inl rfl, fun q => (by cases q), rfl⟩ (fun m hm => by
    obtain ⟨h1, p, _, h2⟩ := says_lgs hm k
    refine ⟨h1, ?_⟩
    rw [h2, he]
    split
    · exact .inr ⟨rfl, rfl⟩
    · exact .inl rfl)
  rw [Bool.false_or] at this
  exact this
theorem told_stop (hv : 0 ≤ view) {k : Nat} (hk : topOf P ≤ k) : (told (lgs ch view P) ((k : Int) + 1)).2.2 = false := by
  have := toldQ_all (n := (k : Int) + 1) (S := Sst.zero) hv (lgs ch view P) false (-1, Sst.zero, false) ⟨.inl rfl, fun q => (by cases q), rfl⟩ (fun m hm => by
    obtain ⟨h1, p, hp, h2⟩ := says_lgs hm k
    have := top_le hp
    rw [if_neg (by omega)] at h2
    exact ⟨h1, .inl (by rw [h2]; rfl)⟩)
  have h3 := this.2.2
  unfold told
  rw [h3, Bool.false_or, List.any_eq_false]
  intro m hm
  obtain ⟨_, p, hp, h2⟩ := says_lgs hm k
  have := top_le hp
  rw [if_neg (by omega)] at h2
  rw [h2]
  decide
theorem lgs_holds {k : Nat} (hk : k < topOf P) {e : Est} (he : ch[k]? = some e) : ∃ m ∈ lgs ch view P, (m.says ((k : Int) + 1)) = holdIt e := by
  obtain ⟨p, hp, hkp⟩ := top_is hk
  obtain ⟨j, hj⟩ := List.getElem?_of_mem hp
  refine ⟨lgOf ch view j p, ?_, ?_⟩
  · unfold lgs
    refine List.mem_of_getElem? (i := j) ?_
    rw [List.getElem?_mapIdx, hj]
    rfl
  · rw [says_lg, List.getElem?_take_of_lt hkp, he]
theorem run_long (hc : Chained ch) (hv : 0 ≤ view) (ht : topOf P ≤ ch.length) (h8 : topOf P ≤ 8) (wh : Bool) : ∀ (f k : Nat), k + f = 8 → k ≤ topOf P → runC (lgs ch view P) wh f (markAt (0, 0, 0) ch k).1 (markAt (0, 0, 0) ch k).2.1 (markAt (0, 0, 0) ch k).2.2 (ch.take k) = some (ch.take (topOf P))
  | 0, k, hf, hk => by
    have : k = topOf P := by omega
    rw [← this]
    rfl
  | f + 1, k, hf, hk => by
    have hop := chained_op hc k (by omega)
    by_cases hkt : k < topOf P
    · obtain ⟨e, he⟩ : ∃ e, ch[k]? = some e := ⟨ch[k]'(by omega), List.getElem?_eq_getElem _⟩
      have hfo := fol_B (hc k e he)
      have htq := told_lgs (P := P) hv he
      obtain ⟨m, hm, hms⟩ := lgs_holds (view := view) hkt he
      have hany : (lgs ch view P).any (fun m => decide ((m.says ((k : Int) + 1)).k = 1)) = true := by
        rw [List.any_eq_true]
        exact ⟨m, hm, by rw [hms]; rfl⟩
      rw [hany] at htq
      obtain ⟨_, h2, h3⟩ := htq
      obtain ⟨e2, hh⟩ := held_find (l := lgs ch view P) (n := (k : Int) + 1) (s := stubV e) ⟨m, hm, by rw [hms]; rfl, by rw [hms]; rfl⟩
      have he2 : e2 = e := by
        obtain ⟨x, hx, hxk, hxs, hxe⟩ := held_some hh
        obtain ⟨_, p, _, h4⟩ := says_lgs hx k
        rw [he] at h4
        split at h4
        · rw [← hxe, h4]; rfl
        · rw [h4] at hxk; exact absurd hxk (by decide)
      subst he2
      have hsv : stubV e2 = ⟨e2.o, e2.v, e2.u, e2.p, e2.sum⟩ := if_pos hfo.1
      rw [hop] at hfo ⊢
      rw [runC_go (t := (told (lgs ch view P) ((k : Int) + 1)).1) (st := stubV e2) (e := e2) (by rw [← (h2 h3).1, ← h3]) (by rw [hsv]; exact hfo.2.1) (by rw [hsv]; exact hfo.2.2.1) (by rw [hsv]; exact hfo.2.2.2) hh, ← take_snoc he]
      have := run_long hc hv ht h8 wh f (k + 1) (by omega) (by omega)
      rw [markAt_succ he] at this
      exact this
    · have : k = topOf P := by omega
      rw [hop, runC_stop (.inl (told_stop hv (by omega))), this]
theorem top_take (ch : List Est) (P : List (Nat × Nat)) (hP : ∀ p ∈ P, p.2 ≤ ch.length) : topOf P ≤ ch.length := by
  by_cases h : topOf P ≤ ch.length
  · exact h
  · obtain ⟨p, hp, q⟩ := top_is (P := P) (k := ch.length) (by omega)
    have := hP p hp
    omega
theorem ck_zero : ∀ (l : List Mst), (∀ m ∈ l, m.co = 0 ∧ m.cm = 0) → l.foldl ckStep (0, 0, 0, 0) = (0, 0, 0, 0)
  | [], _ => rfl
  | m :: l, h => by
    have hm := h m (by simp)
    rw [List.foldl_cons, show ckStep (0, 0, 0, 0) m = (0, 0, 0, 0) by unfold ckStep; rw [hm.1, hm.2]; rfl]
    exact ck_zero l (fun x hx => h x (List.mem_cons_of_mem _ hx))
theorem lgs_clean : (lgs ch view P).any dirtyB = false := by
  rw [List.any_eq_false]
  intro m hm
  obtain ⟨j, hj⟩ := List.getElem?_of_mem hm
  obtain ⟨p, hp, rfl⟩ := lgs_at hj
  show ¬ (itemsOf (ch.take p.2) (8 - (ch.take p.2).length)).any badB = true
  rw [Bool.not_eq_true, List.any_eq_false]
  intro x hx
  unfold itemsOf at hx
  rcases List.mem_append.1 hx with hx | hx
  · obtain ⟨e, _, rfl⟩ := List.mem_map.1 hx
    show ¬ (decide ((1 : Int) = 2) || decide ((1 : Int) = 3)) = true
    decide
  · rw [(List.mem_replicate.1 hx).2]
    decide
theorem long_plain {C : Int} (hC : C = 3 ∨ C = 5) (hc : Chained ch) (h8 : ch.length ≤ 8) (hv : 0 ≤ view ∧ view ≤ 72057594037927935) (hP : (P.length : Int) ≤ C) (hPn : ∀ p ∈ P, p.2 ≤ ch.length) :
    (2 * (P.length : Int) ≤ C → (chooseV C (lgs ch view P)).r = false) ∧ (C < 2 * (P.length : Int) → (chooseV C (lgs ch view P)).r = true ∧ (chooseV C (lgs ch view P)).es = ch.take (topOf P)) := by
  have hcl : countsL C.toNat (lgs ch view P) = lgs ch view P := by
    rw [counts_lgs hc h8 hv (by omega)]
    exact List.take_of_length_le (by rw [lgs_len]; omega)
  have hlen := lgs_len ch view P
  have hcm : ∀ m ∈ lgs ch view P, m.co = 0 ∧ m.cv = 0 ∧ m.cs = 0 ∧ m.cm = 0 := fun m hm => by
    obtain ⟨j, hj⟩ := List.getElem?_of_mem hm
    obtain ⟨p, hp, rfl⟩ := lgs_at hj
    exact ⟨rfl, rfl, rfl, rfl⟩
  have hrun := fun wh => run_long (P := P) hc hv.1 (top_take ch P hPn) (Nat.le_trans (top_take ch P hPn) h8) wh 8 0 rfl (Nat.zero_le _)
  have hdirty := lgs_clean (ch := ch) (view := view) (P := P)
  unfold chooseV
  rw [if_pos hC, hcl]
  generalize lgs ch view P = l at *
  constructor
  · intro h2
    unfold chooseL
    rw [if_pos ⟨decide_eq_false (by omega), .inr (by unfold Quo.enough; omega)⟩]
    rfl
  · intro h2
    unfold chooseL
    rw [if_neg (fun q => by
      rcases q.2 with q | q
      · rw [hdirty] at q; cases q
      · unfold Quo.enough at q; omega)]
    match l, hlen, hcm, hrun with
    | [], hlen, _, _ => simp at hlen; omega
    | m0 :: l', hlen, hcm, hrun =>
      have h0 := hcm m0 (by simp)
      have hck : topCk (m0 :: l') m0 = (0, 0, 0, 0) := by
        unfold topCk
        rw [h0.1, h0.2.1, h0.2.2.1]
        exact ck_zero _ (fun m hm => ⟨(hcm m hm).1, (hcm m hm).2.2.2⟩)
      have := hrun (decide (((m0 :: l').length : Int) = C))
      rw [markAt_zero, List.take_zero] at this
      simp only [hck]
      rw [this]
      exact ⟨rfl, rfl⟩
end
end Go.Proofs.YtpbjjmenkoigjaaDoor
end

section
namespace Go.Proofs.YtpbjjmenkoigjaaDoor
open Go.RowKit
set_option linter.unusedVariables false
theorem countsL_none : ∀ n, countsL n [] = []
  | 0 => rfl
  | n + 1 => by rw [show countsL (n + 1) [] = countsL n [] ++ (lastOf (n + 1) []).toList from rfl, countsL_none n]; rfl
theorem chooseV_none (C : Int) : (chooseV C []).r = false := by
  unfold chooseV
  split
  · next hC =>
    rw [countsL_none]
    unfold chooseL
    split
    · rfl
    · rfl
  · rfl
set_option maxRecDepth 100000 in
set_option maxHeartbeats 20000000 in
theorem long_count (C : Int) (ad1 ad2 : Option Addr) (cap1 cap2 : Nat) (E0 : List Est) (H : List Int) (view : Int) (w : World) (hr : RowsAt 9 w ad1 (E0.map Est.row)) (hc1 : E0.length ≤ cap1) (hok : ∀ e ∈ E0, e.Ok) (hr2 : RowsAt 1 w ad2 (H.map (fun x => #[.int .i64 x]))) (hc2 : H.length ≤ cap2) (hl1 : E0.length ≤ 9223372036854775807) (hl2 : H.length ≤ 9223372036854775807) (hg : Gl w) (hC : ¬ (C = 3 ∨ C = 5)) : Calls Tryd.prog 7 #[.int .i64 C, .slice ad1 E0.length cap1, .slice ad2 H.length cap2, .int .i64 view] w fun e w' => e = .returned (.bool true) ∧ Below w.heap.size w w' := by
  have HAW := Lib.hid (awake18_any w hg)
  have HR := Lib.hid hr
  have HR2 := Lib.hid hr2
  have HOK := Lib.hid hok
  have HG := Lib.hid hg
  obtain ⟨N, hN⟩ : ∃ N, N = E0.length := ⟨_, rfl⟩
  obtain ⟨M, hM⟩ : ∃ M, M = H.length := ⟨_, rfl⟩
  have HN := Lib.hid hN
  have HM := Lib.hid hM
  rw [← hN] at hc1 hl1 ⊢
  rw [← hM] at hc2 hl2 ⊢
  have HCZ := Lib.hid (fun X W (hW : Below w.heap.size w W) => choose_any X none 0 [] W ⟨RowsAt.nil _ _ _, Nat.le_refl _, Nat.zero_le _, fun m hm => by cases hm⟩ (hg.later hW))
  have HF0 := Lib.hid chooseV_none
  simp only [List.length_nil] at HCZ
  clear hr hr2 hok hg hN hM
  go_enter Tryd.func7, Tryd.ntmps7
  go_wp2_with fail
  refine HAW.out.mono ?_
  rintro e w1 ⟨rfl, hb1⟩
  have HB1 := Lib.hid hb1
  clear hb1 HAW
  have q3 : (C == 3) = false := beq_eq_false_iff_ne.2 (fun h => hC (.inl h))
  have q5 : (C == 5) = false := beq_eq_false_iff_ne.2 (fun h => hC (.inr h))
  have p3 : ¬ C = 3 := fun h => hC (.inl h)
  have p5 : ¬ C = 5 := fun h => hC (.inr h)
  clear hC
  go_wp2_with fail
  refine (HCZ.out _ _ HB1.out).mono ?_
  rintro e w4 ⟨⟨ea, cp, rfl, _, _⟩, hb4⟩
  have HB4 := Lib.hid (HB1.out.trans (hb4.mono HB1.out.size))
  rw [HF0.out _]
  generalize chooseV _ [] = cc at *
  unfold crow
  have hfl : ∀ W, (Instr.field 30 (.agg #[.bool false, .int .i64 cc.co, .int .i64 cc.cv, .int .u64 cc.cs, .int .i64 cc.cm, .slice ea cc.es.length cp]) 0).run Tryd.prog W = .ok (.bool false) W := fun W => by kernel_rfl
  clear hb4
  go_wp2_with fail
  go_ret
  exact ⟨rfl, HB4.out⟩

set_option maxRecDepth 100000 in
set_option maxHeartbeats 20000000 in
theorem long_len3 (C : Int) (ad1 ad2 : Option Addr) (cap1 cap2 : Nat) (E0 : List Est) (H : List Int) (view : Int) (w : World) (hr : RowsAt 9 w ad1 (E0.map Est.row)) (hc1 : E0.length ≤ cap1) (hok : ∀ e ∈ E0, e.Ok) (hr2 : RowsAt 1 w ad2 (H.map (fun x => #[.int .i64 x]))) (hc2 : H.length ≤ cap2) (hl1 : E0.length ≤ 9223372036854775807) (hl2 : H.length ≤ 9223372036854775807) (hg : Gl w) (hC : C = 3) (h8 : 8 < E0.length) : Calls Tryd.prog 7 #[.int .i64 C, .slice ad1 E0.length cap1, .slice ad2 H.length cap2, .int .i64 view] w fun e w' => e = .returned (.bool true) ∧ Below w.heap.size w w' := by
  have HAW := Lib.hid (awake18_any w hg)
  have HR := Lib.hid hr
  have HR2 := Lib.hid hr2
  have HOK := Lib.hid hok
  have HG := Lib.hid hg
  obtain ⟨N, hN⟩ : ∃ N, N = E0.length := ⟨_, rfl⟩
  obtain ⟨M, hM⟩ : ∃ M, M = H.length := ⟨_, rfl⟩
  have HN := Lib.hid hN
  have HM := Lib.hid hM
  rw [← hN] at hc1 hl1 h8 ⊢
  rw [← hM] at hc2 hl2 ⊢
  have HCZ := Lib.hid (fun X W (hW : Below w.heap.size w W) => choose_any X none 0 [] W ⟨RowsAt.nil _ _ _, Nat.le_refl _, Nat.zero_le _, fun m hm => by cases hm⟩ (hg.later hW))
  have HF0 := Lib.hid chooseV_none
  simp only [List.length_nil] at HCZ
  clear hr hr2 hok hg hN hM
  go_enter Tryd.func7, Tryd.ntmps7
  go_wp2_with fail
  refine HAW.out.mono ?_
  rintro e w1 ⟨rfl, hb1⟩
  have HB1 := Lib.hid hb1
  clear hb1 HAW
  subst hC
  go_wp2_with fail
  refine (HCZ.out _ _ HB1.out).mono ?_
  rintro e w4 ⟨⟨ea, cp, rfl, _, _⟩, hb4⟩
  have HB4 := Lib.hid (HB1.out.trans (hb4.mono HB1.out.size))
  rw [HF0.out _]
  generalize chooseV _ [] = cc at *
  unfold crow
  have hfl : ∀ W, (Instr.field 30 (.agg #[.bool false, .int .i64 cc.co, .int .i64 cc.cv, .int .u64 cc.cs, .int .i64 cc.cm, .slice ea cc.es.length cp]) 0).run Tryd.prog W = .ok (.bool false) W := fun W => by kernel_rfl
  clear hb4
  go_wp2_with fail
  go_ret
  exact ⟨rfl, HB4.out⟩

set_option maxRecDepth 100000 in
set_option maxHeartbeats 20000000 in
theorem long_low3 (C : Int) (ad1 ad2 : Option Addr) (cap1 cap2 : Nat) (E0 : List Est) (H : List Int) (view : Int) (w : World) (hr : RowsAt 9 w ad1 (E0.map Est.row)) (hc1 : E0.length ≤ cap1) (hok : ∀ e ∈ E0, e.Ok) (hr2 : RowsAt 1 w ad2 (H.map (fun x => #[.int .i64 x]))) (hc2 : H.length ≤ cap2) (hl1 : E0.length ≤ 9223372036854775807) (hl2 : H.length ≤ 9223372036854775807) (hg : Gl w) (hC : C = 3) (h8 : E0.length ≤ 8) (hv : view < 0) : Calls Tryd.prog 7 #[.int .i64 C, .slice ad1 E0.length cap1, .slice ad2 H.length cap2, .int .i64 view] w fun e w' => e = .returned (.bool true) ∧ Below w.heap.size w w' := by
  have HAW := Lib.hid (awake18_any w hg)
  have HR := Lib.hid hr
  have HR2 := Lib.hid hr2
  have HOK := Lib.hid hok
  have HG := Lib.hid hg
  obtain ⟨N, hN⟩ : ∃ N, N = E0.length := ⟨_, rfl⟩
  obtain ⟨M, hM⟩ : ∃ M, M = H.length := ⟨_, rfl⟩
  have HN := Lib.hid hN
  have HM := Lib.hid hM
  rw [← hN] at hc1 hl1 h8 ⊢
  rw [← hM] at hc2 hl2 ⊢
  have HCZ := Lib.hid (fun X W (hW : Below w.heap.size w W) => choose_any X none 0 [] W ⟨RowsAt.nil _ _ _, Nat.le_refl _, Nat.zero_le _, fun m hm => by cases hm⟩ (hg.later hW))
  have HF0 := Lib.hid chooseV_none
  simp only [List.length_nil] at HCZ
  clear hr hr2 hok hg hN hM
  go_enter Tryd.func7, Tryd.ntmps7
  go_wp2_with fail
  refine HAW.out.mono ?_
  rintro e w1 ⟨rfl, hb1⟩
  have HB1 := Lib.hid hb1
  clear hb1 HAW
  subst hC
  go_wp2_with fail
  refine (HCZ.out _ _ HB1.out).mono ?_
  rintro e w4 ⟨⟨ea, cp, rfl, _, _⟩, hb4⟩
  have HB4 := Lib.hid (HB1.out.trans (hb4.mono HB1.out.size))
  rw [HF0.out _]
  generalize chooseV _ [] = cc at *
  unfold crow
  have hfl : ∀ W, (Instr.field 30 (.agg #[.bool false, .int .i64 cc.co, .int .i64 cc.cv, .int .u64 cc.cs, .int .i64 cc.cm, .slice ea cc.es.length cp]) 0).run Tryd.prog W = .ok (.bool false) W := fun W => by kernel_rfl
  clear hb4
  go_wp2_with fail
  go_ret
  exact ⟨rfl, HB4.out⟩

set_option maxRecDepth 100000 in
set_option maxHeartbeats 20000000 in
theorem long_high3 (C : Int) (ad1 ad2 : Option Addr) (cap1 cap2 : Nat) (E0 : List Est) (H : List Int) (view : Int) (w : World) (hr : RowsAt 9 w ad1 (E0.map Est.row)) (hc1 : E0.length ≤ cap1) (hok : ∀ e ∈ E0, e.Ok) (hr2 : RowsAt 1 w ad2 (H.map (fun x => #[.int .i64 x]))) (hc2 : H.length ≤ cap2) (hl1 : E0.length ≤ 9223372036854775807) (hl2 : H.length ≤ 9223372036854775807) (hg : Gl w) (hC : C = 3) (h8 : E0.length ≤ 8) (hv0 : 0 ≤ view) (hv : 72057594037927935 < view) : Calls Tryd.prog 7 #[.int .i64 C, .slice ad1 E0.length cap1, .slice ad2 H.length cap2, .int .i64 view] w fun e w' => e = .returned (.bool true) ∧ Below w.heap.size w w' := by
  have HAW := Lib.hid (awake18_any w hg)
  have HR := Lib.hid hr
  have HR2 := Lib.hid hr2
  have HOK := Lib.hid hok
  have HG := Lib.hid hg
  obtain ⟨N, hN⟩ : ∃ N, N = E0.length := ⟨_, rfl⟩
  obtain ⟨M, hM⟩ : ∃ M, M = H.length := ⟨_, rfl⟩
  have HN := Lib.hid hN
  have HM := Lib.hid hM
  rw [← hN] at hc1 hl1 h8 ⊢
  rw [← hM] at hc2 hl2 ⊢
  have HCZ := Lib.hid (fun X W (hW : Below w.heap.size w W) => choose_any X none 0 [] W ⟨RowsAt.nil _ _ _, Nat.le_refl _, Nat.zero_le _, fun m hm => by cases hm⟩ (hg.later hW))
  have HF0 := Lib.hid chooseV_none
  simp only [List.length_nil] at HCZ
  clear hr hr2 hok hg hN hM
  go_enter Tryd.func7, Tryd.ntmps7
  go_wp2_with fail
  refine HAW.out.mono ?_
  rintro e w1 ⟨rfl, hb1⟩
  have HB1 := Lib.hid hb1
  clear hb1 HAW
  subst hC
  go_wp2_with fail
  refine (HCZ.out _ _ HB1.out).mono ?_
  rintro e w4 ⟨⟨ea, cp, rfl, _, _⟩, hb4⟩
  have HB4 := Lib.hid (HB1.out.trans (hb4.mono HB1.out.size))
  rw [HF0.out _]
  generalize chooseV _ [] = cc at *
  unfold crow
  have hfl : ∀ W, (Instr.field 30 (.agg #[.bool false, .int .i64 cc.co, .int .i64 cc.cv, .int .u64 cc.cs, .int .i64 cc.cm, .slice ea cc.es.length cp]) 0).run Tryd.prog W = .ok (.bool false) W := fun W => by kernel_rfl
  clear hb4
  go_wp2_with fail
  go_ret
  exact ⟨rfl, HB4.out⟩

set_option maxRecDepth 100000 in
set_option maxHeartbeats 20000000 in
theorem long_len5 (C : Int) (ad1 ad2 : Option Addr) (cap1 cap2 : Nat) (E0 : List Est) (H : List Int) (view : Int) (w : World) (hr : RowsAt 9 w ad1 (E0.map Est.row)) (hc1 : E0.length ≤ cap1) (hok : ∀ e ∈ E0, e.Ok) (hr2 : RowsAt 1 w ad2 (H.map (fun x => #[.int .i64 x]))) (hc2 : H.length ≤ cap2) (hl1 : E0.length ≤ 9223372036854775807) (hl2 : H.length ≤ 9223372036854775807) (hg : Gl w) (hC : C = 5) (h8 : 8 < E0.length) : Calls Tryd.prog 7 #[.int .i64 C, .slice ad1 E0.length cap1, .slice ad2 H.length cap2, .int .i64 view] w fun e w' => e = .returned (.bool true) ∧ Below w.heap.size w w' := by
  have HAW := Lib.hid (awake18_any w hg)
  have HR := Lib.hid hr
  have HR2 := Lib.hid hr2
  have HOK := Lib.hid hok
  have HG := Lib.hid hg
  obtain ⟨N, hN⟩ : ∃ N, N = E0.length := ⟨_, rfl⟩
  obtain ⟨M, hM⟩ : ∃ M, M = H.length := ⟨_, rfl⟩
  have HN := Lib.hid hN
  have HM := Lib.hid hM
  rw [← hN] at hc1 hl1 h8 ⊢
  rw [← hM] at hc2 hl2 ⊢
  have HCZ := Lib.hid (fun X W (hW : Below w.heap.size w W) => choose_any X none 0 [] W ⟨RowsAt.nil _ _ _, Nat.le_refl _, Nat.zero_le _, fun m hm => by cases hm⟩ (hg.later hW))
  have HF0 := Lib.hid chooseV_none
  simp only [List.length_nil] at HCZ
  clear hr hr2 hok hg hN hM
  go_enter Tryd.func7, Tryd.ntmps7
  go_wp2_with fail
  refine HAW.out.mono ?_
  rintro e w1 ⟨rfl, hb1⟩
  have HB1 := Lib.hid hb1
  clear hb1 HAW
  subst hC
  go_wp2_with fail
  refine (HCZ.out _ _ HB1.out).mono ?_
  rintro e w4 ⟨⟨ea, cp, rfl, _, _⟩, hb4⟩
  have HB4 := Lib.hid (HB1.out.trans (hb4.mono HB1.out.size))
  rw [HF0.out _]
  generalize chooseV _ [] = cc at *
  unfold crow
  have hfl : ∀ W, (Instr.field 30 (.agg #[.bool false, .int .i64 cc.co, .int .i64 cc.cv, .int .u64 cc.cs, .int .i64 cc.cm, .slice ea cc.es.length cp]) 0).run Tryd.prog W = .ok (.bool false) W := fun W => by kernel_rfl
  clear hb4
  go_wp2_with fail
  go_ret
  exact ⟨rfl, HB4.out⟩

set_option maxRecDepth 100000 in
set_option maxHeartbeats 20000000 in
theorem long_low5 (C : Int) (ad1 ad2 : Option Addr) (cap1 cap2 : Nat) (E0 : List Est) (H : List Int) (view : Int) (w : World) (hr : RowsAt 9 w ad1 (E0.map Est.row)) (hc1 : E0.length ≤ cap1) (hok : ∀ e ∈ E0, e.Ok) (hr2 : RowsAt 1 w ad2 (H.map (fun x => #[.int .i64 x]))) (hc2 : H.length ≤ cap2) (hl1 : E0.length ≤ 9223372036854775807) (hl2 : H.length ≤ 9223372036854775807) (hg : Gl w) (hC : C = 5) (h8 : E0.length ≤ 8) (hv : view < 0) : Calls Tryd.prog 7 #[.int .i64 C, .slice ad1 E0.length cap1, .slice ad2 H.length cap2, .int .i64 view] w fun e w' => e = .returned (.bool true) ∧ Below w.heap.size w w' := by
  have HAW := Lib.hid (awake18_any w hg)
  have HR := Lib.hid hr
  have HR2 := Lib.hid hr2
  have HOK := Lib.hid hok
  have HG := Lib.hid hg
  obtain ⟨N, hN⟩ : ∃ N, N = E0.length := ⟨_, rfl⟩
  obtain ⟨M, hM⟩ : ∃ M, M = H.length := ⟨_, rfl⟩
  have HN := Lib.hid hN
  have HM := Lib.hid hM
  rw [← hN] at hc1 hl1 h8 ⊢
  rw [← hM] at hc2 hl2 ⊢
  have HCZ := Lib.hid (fun X W (hW : Below w.heap.size w W) => choose_any X none 0 [] W ⟨RowsAt.nil _ _ _, Nat.le_refl _, Nat.zero_le _, fun m hm => by cases hm⟩ (hg.later hW))
  have HF0 := Lib.hid chooseV_none
  simp only [List.length_nil] at HCZ
  clear hr hr2 hok hg hN hM
  go_enter Tryd.func7, Tryd.ntmps7
  go_wp2_with fail
  refine HAW.out.mono ?_
  rintro e w1 ⟨rfl, hb1⟩
  have HB1 := Lib.hid hb1
  clear hb1 HAW
  subst hC
  go_wp2_with fail
  refine (HCZ.out _ _ HB1.out).mono ?_
  rintro e w4 ⟨⟨ea, cp, rfl, _, _⟩, hb4⟩
  have HB4 := Lib.hid (HB1.out.trans (hb4.mono HB1.out.size))
  rw [HF0.out _]
  generalize chooseV _ [] = cc at *
  unfold crow
  have hfl : ∀ W, (Instr.field 30 (.agg #[.bool false, .int .i64 cc.co, .int .i64 cc.cv, .int .u64 cc.cs, .int .i64 cc.cm, .slice ea cc.es.length cp]) 0).run Tryd.prog W = .ok (.bool false) W := fun W => by kernel_rfl
  clear hb4
  go_wp2_with fail
  go_ret
  exact ⟨rfl, HB4.out⟩

set_option maxRecDepth 100000 in
set_option maxHeartbeats 20000000 in
theorem long_high5 (C : Int) (ad1 ad2 : Option Addr) (cap1 cap2 : Nat) (E0 : List Est) (H : List Int) (view : Int) (w : World) (hr : RowsAt 9 w ad1 (E0.map Est.row)) (hc1 : E0.length ≤ cap1) (hok : ∀ e ∈ E0, e.Ok) (hr2 : RowsAt 1 w ad2 (H.map (fun x => #[.int .i64 x]))) (hc2 : H.length ≤ cap2) (hl1 : E0.length ≤ 9223372036854775807) (hl2 : H.length ≤ 9223372036854775807) (hg : Gl w) (hC : C = 5) (h8 : E0.length ≤ 8) (hv0 : 0 ≤ view) (hv : 72057594037927935 < view) : Calls Tryd.prog 7 #[.int .i64 C, .slice ad1 E0.length cap1, .slice ad2 H.length cap2, .int .i64 view] w fun e w' => e = .returned (.bool true) ∧ Below w.heap.size w w' := by
  have HAW := Lib.hid (awake18_any w hg)
  have HR := Lib.hid hr
  have HR2 := Lib.hid hr2
  have HOK := Lib.hid hok
  have HG := Lib.hid hg
  obtain ⟨N, hN⟩ : ∃ N, N = E0.length := ⟨_, rfl⟩
  obtain ⟨M, hM⟩ : ∃ M, M = H.length := ⟨_, rfl⟩
  have HN := Lib.hid hN
  have HM := Lib.hid hM
  rw [← hN] at hc1 hl1 h8 ⊢
  rw [← hM] at hc2 hl2 ⊢
  have HCZ := Lib.hid (fun X W (hW : Below w.heap.size w W) => choose_any X none 0 [] W ⟨RowsAt.nil _ _ _, Nat.le_refl _, Nat.zero_le _, fun m hm => by cases hm⟩ (hg.later hW))
  have HF0 := Lib.hid chooseV_none
  simp only [List.length_nil] at HCZ
  clear hr hr2 hok hg hN hM
  go_enter Tryd.func7, Tryd.ntmps7
  go_wp2_with fail
  refine HAW.out.mono ?_
  rintro e w1 ⟨rfl, hb1⟩
  have HB1 := Lib.hid hb1
  clear hb1 HAW
  subst hC
  go_wp2_with fail
  refine (HCZ.out _ _ HB1.out).mono ?_
  rintro e w4 ⟨⟨ea, cp, rfl, _, _⟩, hb4⟩
  have HB4 := Lib.hid (HB1.out.trans (hb4.mono HB1.out.size))
  rw [HF0.out _]
  generalize chooseV _ [] = cc at *
  unfold crow
  have hfl : ∀ W, (Instr.field 30 (.agg #[.bool false, .int .i64 cc.co, .int .i64 cc.cv, .int .u64 cc.cs, .int .i64 cc.cm, .slice ea cc.es.length cp]) 0).run Tryd.prog W = .ok (.bool false) W := fun W => by kernel_rfl
  clear hb4
  go_wp2_with fail
  go_ret
  exact ⟨rfl, HB4.out⟩

end Go.Proofs.YtpbjjmenkoigjaaDoor
end

section
namespace Go.Proofs.YtpbjjmenkoigjaaDoor
open Go.RowKit
set_option linter.unusedVariables false
theorem su_load {e : Est} {b : Nat} {w : World} (h : Blk w b e.row) : (Instr.loadAt 35 (.pointer (some ⟨b, 0, none⟩))).run Tryd.prog w = .ok (.agg e.row) w := load_at 35 _ h.range Tryd.underlying35 rfl (by kernel_rfl)
def stepE (M : Int × Int × Int) (e : Est) : Est := ⟨max e.v M.2.1, M.1 + 1, M.2.1, M.2.2, e.c, e.s, e.r, e.k, e.b⟩
theorem step_fol {M : Int × Int × Int} {e : Est} (h : (stepE M e).B = true) : (stepE M e).fol M.1 M.2.1 M.2.2 = true := folB_yes _ _ _ _ _ _ _ _ _ _ _ _ h ⟨by show M.1 + 1 - 1 = M.1; omega, rfl, rfl⟩
theorem chained_snoc {E : List Est} {x : Est} (h : Chained E) (hx : x.fol (markAt (0, 0, 0) E E.length).1 (markAt (0, 0, 0) E E.length).2.1 (markAt (0, 0, 0) E E.length).2.2 = true) : Chained (E ++ [x]) := fun j e hj => by
  by_cases hjl : j < E.length
  · rw [List.getElem?_append_left hjl] at hj
    rw [markAt_prefix _ E [x] (by omega)]
    exact h j e hj
  · have hjl' : j < (E ++ [x]).length := (List.getElem?_eq_some_iff.1 hj).1
    have hje : j = E.length := by simp at hjl'; omega
    subst hje
    have : (E ++ [x])[E.length]? = some x := by simp
    rw [this] at hj
    injection hj with hj
    subst hj
    rw [markAt_prefix _ E [x] (Nat.le_refl _)]
    exact hx
theorem markAt_snoc (M : Int × Int × Int) (E : List Est) (x : Est) : markAt M (E ++ [x]) (E.length + 1) = (x.mo, x.mv, x.sum) := markAt_succ (by simp)
theorem chained_nil : Chained [] := fun j e h => by simp at h
/-- In the round that builds: the mark's block, the chain's own slice. -/
structure LoA (w W : World) (p9 s0 : Nat) (Mr : Array Value) (Y : Nat → Prop) (v : Value) (n : Nat) (cs : List Value) : Prop where
  below : Below w.heap.size w W
  mkb : Blk W p9 Mr
  own : OwnC Y W v n 9 cs
  sz : s0 ≤ W.heap.size
theorem LoA.later {w W W' : World} {p9 s0 : Nat} {Mr : Array Value} {Y : Nat → Prop} {v : Value} {n : Nat} {cs : List Value} (h : LoA w W p9 s0 Mr Y v n cs) (hb : Below W.heap.size W W') : LoA w W' p9 s0 Mr Y v n cs :=
  ⟨h.below.trans (hb.mono h.below.size), h.mkb.later hb, h.own.later hb, Nat.le_trans h.sz hb.size⟩
theorem LoA.turned {w W W' : World} {p9 s0 p12 : Nat} {Mr : Array Value} {Y : Nat → Prop} {v : Value} {n : Nat} {cs : List Value} (h : LoA w W p9 s0 Mr Y v n cs) (ht : Turned (fun q => q = p12) W W') (h1 : w.heap.size ≤ p12) (h2 : p9 ≠ p12) (h3 : ∀ q, Y q → q ≠ p12) : LoA w W' p9 s0 Mr Y v n cs :=
  ⟨h.below.trans (ht.below (fun q hq => by omega) h.below.size), h.mkb.turned ht h2, h.own.turned ht h3, Nat.le_trans h.sz ht.size⟩
theorem LoA.mark {w W W' : World} {p9 s0 : Nat} {Mr Mr' : Array Value} {Y : Nat → Prop} {v : Value} {n : Nat} {cs : List Value} (h : LoA w W p9 s0 Mr Y v n cs) (ht : Turned (fun q => q = p9) W W') (h1 : w.heap.size ≤ p9) (hB : Blk W' p9 Mr') (h3 : ∀ q, Y q → q ≠ p9) : LoA w W' p9 s0 Mr' Y v n cs :=
  ⟨h.below.trans (ht.below (fun q hq => by omega) h.below.size), hB, h.own.turned ht h3, Nat.le_trans h.sz ht.size⟩
theorem pokeT {w : World} {g i : Nat} {cs : Array Value} {v : Value} (t : TypeId) (hB : Blk w g cs) (hi : i < cs.size) (hz : (Tryd.prog.info? t).map (·.size) = some 1) (hv : (∃ k n, v = .int k n) ∨ (∃ p l c, v = .slice p l c)) :
    ∃ w', (Instr.storeAt t (.pointer (some ⟨g, i, none⟩)) v).run Tryd.prog w = .ok () w' ∧ Blk w' g (cs.setIfInBounds i v) ∧ Turned (fun q => q = g) w w' :=
  ⟨_, poke_one t hz hB hi hv, hB.set_ i v, Turned.setCell _ _ rfl⟩
theorem max_cast (a b : Nat) : max (a : Int) (b : Int) = ((max a b : Nat) : Int) := by omega
theorem cast_in {a b : Nat} (h1 : a < b + 1) (h2 : b ≤ 8) : -9223372036854775808 ≤ (a : Int) ∧ (a : Int) ≤ 9223372036854775807 := by omega
theorem cast_le {a b c : Nat} (h1 : a < b + 1) (h2 : b ≤ c) : (a : Int) ≤ (c : Int) := by omega
theorem mod_some (h : Int) (n : Nat) : ∃ t : Nat, t < n + 1 ∧ (IntKind.u64.wrap h).tmod ((n : Int) + 1) = (t : Int) := by
  have h1 : 0 ≤ IntKind.u64.wrap h := by simp [IntKind.wrap, IntKind.bits, IntKind.signed]; omega
  generalize IntKind.u64.wrap h = a at *
  have h2 := Int.tmod_lt_of_pos a (show (0 : Int) < (n : Int) + 1 by omega)
  have h3 := Int.tmod_nonneg ((n : Int) + 1) h1
  generalize a.tmod ((n : Int) + 1) = b at *
  exact ⟨b.toNat, by omega, by omega⟩
/-- The rows of a log's items. -/
def itemsR (E : List Est) (p : Nat × Nat) : List (Array Value) := (itemsOf (E.take p.2) (8 - (E.take p.2).length)).map Ist.row
theorem lg_in {W : World} {E : List Est} {view : Int} {i : Nat} {p : Nat × Nat} (h8 : E.length ≤ 8) (hok : ∀ e ∈ E, e.Ok) (hB : ∀ e ∈ E, e.B = true) (h : RowB 15 W p.1 (itemsR E p)) : (lgOf E view i p).In W :=
  logM_in h (by rw [items_len (by rw [List.length_take]; omega)]; exact Nat.le_refl _) (fun x hx => by
    unfold itemsOf at hx
    rcases List.mem_append.1 hx with hx | hx
    · obtain ⟨e, he, rfl⟩ := List.mem_map.1 hx
      exact hold_ok (hok e (List.mem_of_mem_take he)) (hB e (List.mem_of_mem_take he))
    · rw [(List.mem_replicate.1 hx).2]
      exact Ist.zero_ok)
theorem rowsAt_take {W : World} {ad : Option Addr} {E : List Est} (t : Nat) (h : RowsAt 9 W ad (E.map Est.row)) : RowsAt 9 W ad ((E.take t).map Est.row) := fun i x hx => by
  refine h i x ?_
  rw [List.getElem?_map] at hx ⊢
  by_cases hi : i < t
  · rwa [List.getElem?_take_of_lt hi] at hx
  · rw [List.getElem?_eq_none (by rw [List.length_take]; omega)] at hx
    cases hx
/-- In the loop that lays the logs: which blocks hold what. -/
structure LoB (wA W : World) (E : List Est) (view : Int) (P : List (Nat × Nat)) (v : Value) : Prop where
  below : Below wA.heap.size wA W
  ns : ∀ p ∈ P, p.2 ≤ E.length
  its : ∀ p ∈ P, RowB 15 W p.1 (itemsR E p)
  own : OwnC (fun q => wA.heap.size ≤ q ∧ ∀ p ∈ P, q ≠ p.1) W v P.length 33 (rcells ((lgs E view P).map Mst.row))
theorem LoB.ins {wA W : World} {E : List Est} {view : Int} {P : List (Nat × Nat)} {v : Value} (h : LoB wA W E view P v) (h8 : E.length ≤ 8) (hok : ∀ e ∈ E, e.Ok) (hB : ∀ e ∈ E, e.B = true) : ∀ m ∈ lgs E view P, m.In W := fun m hm => by
  obtain ⟨j, hj⟩ := List.getElem?_of_mem hm
  obtain ⟨p, hp, rfl⟩ := lgs_at hj
  exact lg_in h8 hok hB (h.its p (List.mem_of_getElem? hp))
/-- A log is laid behind the others. -/
theorem LoB.more {wA W W1 W2 : World} {E : List Est} {view : Int} {P : List (Nat × Nat)} {v v' : Value} {g t : Nat} (h : LoB wA W E view P v) (ht : t ≤ E.length) (hb : Below W.heap.size W W1) (hg : W.heap.size ≤ g) (hi : RowB 15 W1 g (itemsR E (g, t)))
    (hO : OwnC (fun q => ((wA.heap.size ≤ q ∧ ∀ p ∈ P, q ≠ p.1) ∧ q < W.heap.size) ∨ W1.heap.size ≤ q) W2 v' (P.length + 1) 33 (rcells ((lgs E view P).map Mst.row) ++ (lgOf E view P.length (g, t)).row.toList)) (hT : Turned (fun q => (wA.heap.size ≤ q ∧ ∀ p ∈ P, q ≠ p.1) ∧ q < W.heap.size) W1 W2) : LoB wA W2 E view (P ++ [(g, t)]) v' := by
  have hs := h.below.size
  have hs1 := hb.size
  refine ⟨(h.below.trans (hb.mono h.below.size)).trans (hT.below (fun q hq => hq.1.1) (Nat.le_trans hs hs1)), fun p hp => ?_, fun p hp => ?_, ?_⟩
  · rcases List.mem_append.1 hp with q | q
    · exact h.ns p q
    · rw [List.mem_singleton.1 q]; exact ht
  · rcases List.mem_append.1 hp with q | q
    · exact ((h.its p q).later hb).turned hT (fun k => k.1.2 p q rfl)
    · rw [List.mem_singleton.1 q]
      exact hi.turned hT (fun k => by have := k.2; omega)
  · have h2 : OwnC (fun q => wA.heap.size ≤ q ∧ ∀ p ∈ P ++ [(g, t)], q ≠ p.1) W2 v' (P.length + 1) 33 (rcells ((lgs E view P).map Mst.row) ++ (lgOf E view P.length (g, t)).row.toList) := hO.mono (fun q hq => by
      rcases hq with hq | hq
      · refine ⟨hq.1.1, fun p hp => ?_⟩
        rcases List.mem_append.1 hp with k | k
        · exact hq.1.2 p k
        · rw [List.mem_singleton.1 k]
          have := hq.2
          show q ≠ g
          omega
      · refine ⟨by omega, fun p hp => ?_⟩
        rcases List.mem_append.1 hp with k | k
        · have := (h.its p k).1
          omega
        · rw [List.mem_singleton.1 k]
          have := hi.1
          show q ≠ g
          omega)
    rw [lgs_snoc, List.map_append, List.length_append]
    rw [rcells_snoc] at h2
    exact h2
theorem LoB.logs {wA W : World} {E : List Est} {view : Int} {P : List (Nat × Nat)} {ad : Option Addr} {cap : Nat} (h : LoB wA W E view P (.slice ad P.length cap)) (hP : P.length ≤ 5) (h8 : E.length ≤ 8) (hok : ∀ e ∈ E, e.Ok) (hB : ∀ e ∈ E, e.B = true) : LogsAt W ad cap (lgs E view P) := by
  have hO := h.own
  have hl : P.length = ((lgs E view P).map Mst.row).length := by rw [List.length_map, lgs_len]
  rw [hl] at hO
  have hr := hO.rowsAt (fun y hy => by obtain ⟨m, _, rfl⟩ := List.mem_map.1 hy; rfl)
  exact ⟨hr.1, by rw [lgs_len, hl]; exact hr.2, by rw [lgs_len]; omega, h.ins h8 hok hB⟩
end Go.Proofs.YtpbjjmenkoigjaaDoor
end

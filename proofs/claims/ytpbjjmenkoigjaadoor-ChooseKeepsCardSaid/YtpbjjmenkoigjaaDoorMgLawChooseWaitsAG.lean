/- The logs that count, of the reference. Clean of the reference, of a log. The walk of ChooseWaits. -/
import Derived.Test.YtpbjjmenkoigjaaDoorMgLawChooseWaitsAF
import Derived.Test.YtpbjjmenkoigjaaDoorMgLawChooseTurnsAI
import Derived.Test.YtpbjjmenkoigjaaDoorMgLawChooseTurnsAL
import Derived.Test.YtpbjjmenkoigjaaDoorMgLawChooseTurnsAH
import Derived.Test.YtpbjjmenkoigjaaDoorMgLawChooseTurnsAM
import Derived.Test.YtpbjjmenkoigjaaDoorMgLawChooseTurnsAN
section
namespace Go.Proofs.YtpbjjmenkoigjaaDoor
open Go.RowKit
set_option linter.unusedVariables false
/-- Where the last log of one stands among the first of a list. -/
def AtLog (who : Int) (L : List Mst) (i : Nat) (a : Int) : Prop := (a = -1 ∧ lastOf who (L.take i) = none) ∨ ∃ (q : Nat) (x : Mst), a = (q : Int) ∧ L[q]? = some x ∧ lastOf who (L.take i) = some x
theorem lastOf_snoc (who : Int) (l : List Mst) (x : Mst) : lastOf who (l ++ [x]) = if isLog who x = true then some x else lastOf who l := by
  unfold lastOf
  rw [List.reverse_append]
  simp only [List.reverse_cons, List.reverse_nil, List.nil_append, List.singleton_append, List.find?_cons]
  cases isLog who x <;> rfl
theorem AtLog.no {who : Int} {L : List Mst} {i : Nat} {a : Int} {x : Mst} (h : AtLog who L i a) (hx : L[i]? = some x) (hn : isLog who x = false) : AtLog who L (i + 1) a := by
  unfold AtLog at *
  rw [take_snoc hx, lastOf_snoc, if_neg (by rw [hn]; decide)]
  exact h
theorem AtLog.yes {who : Int} {L : List Mst} {i : Nat} {x : Mst} (hx : L[i]? = some x) (hy : isLog who x = true) : AtLog who L (i + 1) (i : Int) :=
  .inr ⟨i, x, rfl, hx, by rw [take_snoc hx, lastOf_snoc, if_pos hy]⟩
/-- How many are asked. -/
def asked (c : Int) : Nat := if c ≤ 5 then c.toNat else 5
set_option maxRecDepth 100000 in
set_option maxHeartbeats 20000000 in
theorem logs_any (c : Int) (ad : Option Addr) (cap : Nat) (L : List Mst) (w : World) (hl : LogsAt w ad cap L) :
    Calls Tryd.prog 11 #[.int .i64 c, .slice ad L.length cap] w fun e w' => (∃ ad' cap', e = .returned (.slice ad' (countsL (asked c) L).length cap') ∧ RowsAt 33 w' ad' ((countsL (asked c) L).map Mst.row) ∧ (countsL (asked c) L).length ≤ cap') ∧ Below w.heap.size w w' := by
  have HL := Lib.hid hl
  have hsm := hl.small
  have hcap := hl.cap
  obtain ⟨N, hN⟩ : ∃ N, N = L.length := ⟨_, rfl⟩
  have HN := Lib.hid hN
  rw [← hN] at hsm hcap ⊢
  obtain ⟨C, hC⟩ : ∃ C, C = asked c := ⟨_, rfl⟩
  have HC : Hid (C = asked c) := Lib.hid hC
  have hC5 : C ≤ 5 := by rw [hC]; unfold asked; split <;> omega
  have hCc : ∀ j : Nat, j < C → (j : Int) + 1 ≤ c := by intro j hj; rw [hC] at hj; unfold asked at hj; split at hj <;> omega
  have hCn : ∀ j : Nat, ¬ j < C → j ≤ C → c < (j : Int) + 1 ∨ (5 : Int) < (j : Int) + 1 := by intro j hj hj2; rw [hC] at hj hj2; unfold asked at hj hj2; split at hj <;> split at hj2 <;> omega
  rw [← hC]
  clear hl hN hC
  have HO0 : Hid (OwnC (fun q => w.heap.size ≤ q) (w.alloc (.cells #[] 45)) (.slice (some ⟨w.heap.size, 0, none⟩) 0 0) 0 33 []) := Lib.hid (OwnC.empty _ _ _ (Nat.le_refl _) (by simp))
  have HB0 : Hid (Below w.heap.size w (w.alloc (.cells #[] 45))) := Lib.hid ((Below.refl _ _).alloc (Nat.le_refl _) _)
  go_enter Tryd.func11, Tryd.ntmps11
  go_wp2_with fail
  generalize w.alloc (.cells #[] 45) = W0 at *
  go_loopw [5, 6] (fun lv iv wr => ∃ (j : Nat) (ad1 : Option Addr) (cap1 : Nat), j ≤ C ∧ iv = .int .i64 ((j : Int) + 1) ∧ lv = .slice ad1 (countsL j L).length cap1 ∧ OwnC (fun q => w.heap.size ≤ q) wr (.slice ad1 (countsL j L).length cap1) (countsL j L).length 33 (rcells ((countsL j L).map Mst.row)) ∧ Below w.heap.size w wr) (fun _ iv _ => C + 1 - (intOf iv).toNat)
  case atStart => exact ⟨0, _, 0, by omega, rfl, rfl, HO0.out, HB0.out⟩
  case round =>
    clear HO0 HB0
    obtain ⟨j, ad1, cap1, hj, rfl, rfl, hO, hbw⟩ := hrel
    by_cases hlt : j < C
    · have hle : (j : Int) + 1 ≤ c := hCc j hlt
      have hle5 : (j : Int) + 1 ≤ 5 := by omega
      have HO := Lib.hid hO
      have HB := Lib.hid hbw
      have hlen := countsL_len L j
      have HCN : Hid (countsL (j + 1) L = countsL j L ++ (lastOf (j + 1) L).toList) := Lib.hid rfl
      generalize countsL j L = l' at *
      obtain ⟨K, hK⟩ : ∃ K, K = l'.length := ⟨_, rfl⟩
      have HK := Lib.hid hK
      have HCc := Lib.hid hCc
      have HCn := Lib.hid hCn
      rw [← hK] at HO hlen ⊢
      clear hO hbw hK hCc hCn
      go_wp2_with fail
      go_loopw [7, 8] (fun av iv wr => ∃ (q : Nat) (a : Int), q ≤ N ∧ iv = .int .i64 (q : Int) ∧ av = .int .i64 a ∧ AtLog (j + 1) L q a ∧ OwnC (fun q => w.heap.size ≤ q) wr (.slice ad1 K cap1) K 33 (rcells (l'.map Mst.row)) ∧ Below w.heap.size w wr) (fun _ iv _ => N - (intOf iv).toNat)
      case atStart => exact ⟨0, -1, by omega, rfl, rfl, .inl ⟨rfl, rfl⟩, HO.out, HB.out⟩
      case round =>
        clear HO HB
        obtain ⟨q, a, hq, rfl, rfl, hat, hO, hbw⟩ := hrel
        have HAT := Lib.hid hat
        have HO := Lib.hid hO
        have HB := Lib.hid hbw
        by_cases hqn : q < N
        · obtain ⟨x, hx⟩ : ∃ x, L[q]? = some x := ⟨L[q]'(by rw [← HN.out]; omega), List.getElem?_eq_getElem _⟩
          have hLw := HL.out.later hbw
          obtain ⟨b, off, had, hbl, hra⟩ := hLw.rows.range (i := q) (x := x.row) (by rw [List.getElem?_map, hx]; rfl)
          have HAD := Lib.hid had
          subst had
          have HX := Lib.hid hx
          have l1 := Lib.hid (load_at 45 _ hra Tryd.underlying45 rfl (by kernel_rfl))
          have c0 : wr.cell? ⟨b, off + q * 33, none⟩ = some (.int .i64 x.k) := hra 0 _ rfl
          have c1 : wr.cell? ⟨b, off + q * 33 + 1, none⟩ = some (.int .i64 x.f) := hra 1 _ rfl
          have HIN := Lib.hid (((HL.out.ins x (List.mem_of_getElem? hx)).below hbw (Nat.le_refl _)))
          clear hra hLw hO hbw hx hbl hat
          by_cases k7 : x.k = 7
          · rw [k7] at c0
            by_cases kf : x.f = (j : Int) + 1
            · rw [kf] at c1
              go_wp2_with (first | (guard_target =~ wpList _ _ _ (⟨_, Op.load _ (Operand.tmp 43), _, _, _, _⟩ :: _) _ _; refine wpList_load_eq 45 (Operand.tmp 43) rfl rfl l1.out rfl ?_) | (guard_target =~ wpList _ _ _ (⟨_, Op.load _ (Operand.tmp 43), _, _, _, _⟩ :: _) _ _; refine wpList_load_w 45 (Operand.tmp 43) (by kernel_rfl) rfl l1.out rfl ?_))
              refine (rright17_any x _ k7 HIN.out).mono ?_
              rintro e w2 ⟨rfl, hb2⟩
              have HO2 := Lib.hid (HO.out.later hb2)
              have HBW2 := Lib.hid (HB.out.trans (hb2.mono HB.out.size))
              clear hb2 c0 c1 l1
              cases hr : rightB x
              · have HAT2 : Hid (AtLog (j + 1) L (q + 1) a) := Lib.hid (HAT.out.no HX.out (isLog_no (fun h => by have := h.2.2; rw [hr] at this; cases this)))
                go_wp2_with fail
                go_roundw
                case rel => exact ⟨q + 1, a, by omega, by go_num, rfl, HAT2.out, HO2.out, HBW2.out⟩
                case measure => simp [intOf]; omega

              · have HAT2 : Hid (AtLog (j + 1) L (q + 1) (q : Int)) := Lib.hid (AtLog.yes HX.out (isLog_yes k7 kf hr))
                go_wp2_with fail
                go_roundw
                case rel => exact ⟨q + 1, (q : Int), by omega, by go_num, rfl, HAT2.out, HO2.out, HBW2.out⟩
                case measure => simp [intOf]; omega
            · have kfb : (x.f == (j : Int) + 1) = false := beq_eq_false_iff_ne.2 kf
              have HAT2 : Hid (AtLog (j + 1) L (q + 1) a) := Lib.hid (HAT.out.no HX.out (isLog_no (fun h => kf h.2.1)))
              go_wp2_with fail
              go_roundw
              case rel => exact ⟨q + 1, a, by omega, by go_num, rfl, HAT2.out, HO.out, HB.out⟩
              case measure => simp [intOf]; omega

          · have k7b : (x.k == 7) = false := beq_eq_false_iff_ne.2 k7
            have HAT2 : Hid (AtLog (j + 1) L (q + 1) a) := Lib.hid (HAT.out.no HX.out (isLog_no (fun h => k7 h.1)))
            go_wp2_with fail
            go_roundw
            case rel => exact ⟨q + 1, a, by omega, by go_num, rfl, HAT2.out, HO.out, HB.out⟩
            case measure => simp [intOf]; omega

        · obtain rfl : q = N := by omega
          have hat' : AtLog (j + 1) L L.length a := by rw [← HN.out]; exact HAT.out
          unfold AtLog at hat'
          rw [List.take_length] at hat'
          rcases hat' with ⟨rfl, hnone⟩ | ⟨p, x, rfl, hx, hsome⟩
          · have HNL := Lib.hid hnone
            clear hnone hO hbw hat HAT
            go_wp2_with fail
            go_roundw
            case rel => exact ⟨j + 1, ad1, cap1, by omega, by go_num, by rw [HCN.out, HNL.out, HK.out]; simp, by rw [HCN.out, HNL.out]; have := HO.out; rw [HK.out] at this; simpa using this, HB.out⟩
            case measure => simp [intOf]; omega
          · have HYL := Lib.hid hsome
            have hpn : p < q := by have := (List.getElem?_eq_some_iff.1 hx).1; rw [← HN.out] at this; exact this
            have hLw := HL.out.later hbw
            obtain ⟨b, off, had, hbl, hra⟩ := hLw.rows.range (i := p) (x := x.row) (by rw [List.getElem?_map, hx]; rfl)
            have HAD := Lib.hid had
            subst had
            have l1 := Lib.hid (load_at 45 _ hra Tryd.underlying45 rfl (by kernel_rfl))
            obtain ⟨x', cap', w3, hrun, hO3, hT3⟩ := run_msg x hO (by omega)
            have hrun := Lib.hid hrun
            have HO3 := Lib.hid (hO3.mono (Y' := fun q => w.heap.size ≤ q) (fun q hq => by rcases hq with h | h; exact h; have := hbw.size; omega))
            have HBW3 := Lib.hid (hbw.trans (hT3.below (fun q hq => hq) hbw.size))
            clear hra hLw hO hbw hx hbl hat HAT hsome hO3 hT3
            go_wp2_with (first | (guard_target =~ wpList _ _ _ (⟨_, Op.load _ (Operand.tmp 53), _, _, _, _⟩ :: _) _ _; refine wpList_load_eq 45 (Operand.tmp 53) rfl rfl l1.out rfl ?_) | (guard_target =~ wpList _ _ _ (⟨_, Op.buildSlice _ 1 _, _, _, _, _⟩ :: _) _ _; refine wpList_bslice_eq 22 (Operand.tmp 54) rfl rfl rfl (bslice_msg x _) ?_) | (guard_target =~ wpList _ _ _ (⟨_, Op.call _, _, _, _, _⟩ :: _) _ _; refine wpList_app_eq 22 (Operand.tmp 50) (Operand.tmp 55) rfl rfl rfl rfl rfl hrun.out ?_))
            go_roundw
            case rel => exact ⟨j + 1, x', cap', by omega, by go_num, by rw [HCN.out, HYL.out, HK.out]; simp, by rw [HCN.out, HYL.out]; have := HO3.out; rw [rcells_snoc, HK.out] at this; simpa using this, HBW3.out⟩
            case measure => simp [intOf]; omega
    · have hex := hCn j hlt hj
      obtain rfl : C = j := by omega
      have hr := hO
      rw [← List.length_map (f := Mst.row)] at hr
      have hrw := hr.rowsAt (fun y hy => by obtain ⟨m, _, rfl⟩ := List.mem_map.1 hy; rfl)
      rw [List.length_map] at hrw
      have HE := Lib.hid (And.intro hrw hbw)
      clear hr hrw hO hbw hCc hCn
      obtain ⟨l', hl'⟩ : ∃ l', l' = countsL C L := ⟨_, rfl⟩
      have HCL := Lib.hid hl'
      rw [← hl'] at HE ⊢
      clear hl'
      obtain ⟨K, hK⟩ : ∃ K, K = l'.length := ⟨_, rfl⟩
      have HK := Lib.hid hK
      rw [← hK] at HE ⊢
      clear hK
      rcases hex with hex | hex
      all_goals
        by_cases hcc : (C : Int) + 1 ≤ c
        all_goals first
          | (exfalso; omega)
          | (go_wp2_with fail
             go_ret
             exact ⟨⟨_, _, by rw [← HCL.out, ← HK.out]; rfl, by rw [← HCL.out]; exact HE.out.1.1, by rw [← HCL.out, ← HK.out]; exact HE.out.1.2⟩, HE.out.2⟩)
end Go.Proofs.YtpbjjmenkoigjaaDoor
end

section
namespace Go.Proofs.YtpbjjmenkoigjaaDoor
open Go.RowKit
set_option linter.unusedVariables false
def cleanB (m : Mst) : Bool := m.is.all (fun x => decide (x.k ≤ 1))
set_option maxRecDepth 100000 in
set_option maxHeartbeats 20000000 in
theorem clean_any (m : Mst) (w : World) (hin : m.In w) (h8 : m.is.length = 8) : Calls Tryd.prog 18 #[.agg m.row] w fun e w' => e = .returned (.bool (cleanB m)) ∧ Below w.heap.size w w' := by
  have H0 : Hid (Below w.heap.size w (w.alloc (.cells m.row 45)) ∧ Blk (w.alloc (.cells m.row 45)) w.heap.size m.row) := Lib.hid ⟨(Below.refl _ _).alloc (Nat.le_refl _) _, Blk.new _ _ _ _ rfl⟩
  have HIN := Lib.hid (hin.later H0.out.1)
  have H8 := Lib.hid h8
  have hic : 8 ≤ m.ic := by have := hin.ic; omega
  clear hin h8
  go_enter Tryd.func18, Tryd.ntmps18
  go_wp2_with fail
  generalize w.alloc (.cells m.row 45) = W0 at *
  go_loopw [3] (fun iv wr => ∃ j : Nat, j ≤ 8 ∧ iv = .int .i64 (j : Int) ∧ (m.is.take j).all (fun x => decide (x.k ≤ 1)) = true ∧ wr = W0) (fun iv _ => 8 - (intOf iv).toNat)
  case atStart => exact ⟨0, by omega, rfl, by simp, rfl⟩
  case round =>
    obtain ⟨j, hj, rfl, hall, rfl⟩ := hrel
    have HALL := Lib.hid hall
    clear hall
    by_cases hlt : j < 8
    · obtain ⟨x, hx⟩ : ∃ x, m.is[j]? = some x := ⟨m.is[j]'(by rw [H8.out]; exact hlt), List.getElem?_eq_getElem _⟩
      obtain ⟨b, off, had, hbl, hra⟩ := HIN.out.is.range (i := j) (x := x.row) (by rw [List.getElem?_map, hx]; rfl)
      have c31 : wr.cell? ⟨w.heap.size, 31, none⟩ = some (.slice (some ⟨b, off, none⟩) 8 m.ic) := by have := (H0.out.2.2 31 (.slice m.ia m.is.length m.ic) rfl).1; rwa [H8.out, had] at this
      have c0 : wr.cell? ⟨b, off + j * 15, none⟩ = some (.int .i64 x.k) := hra 0 _ rfl
      have HX := Lib.hid hx
      clear hra hx had
      by_cases hk : x.k ≤ 1
      · have hkd : (fun x : Ist => decide (x.k ≤ 1)) x = true := decide_eq_true hk
        have HKD := Lib.hid hkd
        clear hkd
        go_wp2_with fail
        go_roundw
        case rel => exact ⟨j + 1, by omega, by go_num, all_snoc HX.out HALL.out HKD.out, by first | trivial | rfl⟩
        case measure => simp [intOf]; omega
      · have HV : Hid (cleanB m = false) := Lib.hid (all_no HX.out (decide_eq_false hk))
        have hk1 : 1 < x.k := by omega
        clear hk
        go_wp2_with fail
        go_ret
        exact ⟨by rw [HV.out]; rfl, H0.out.1⟩
    · obtain rfl : j = 8 := by omega
      have HV : Hid (cleanB m = true) := Lib.hid (by have := HALL.out; rwa [List.take_of_length_le (by rw [H8.out]; exact Nat.le_refl _)] at this)
      go_wp2_with fail
      go_ret
      exact ⟨by rw [HV.out]; rfl, H0.out.1⟩
end Go.Proofs.YtpbjjmenkoigjaaDoor
end

section
namespace Go.Proofs.YtpbjjmenkoigjaaDoor
open Go.RowKit
set_option linter.unusedVariables false
theorem asked_le (c : Int) : asked c ≤ 5 := by unfold asked; split <;> omega
theorem asked_C {C : Int} (h : C = 3 ∨ C = 5) : asked C = C.toNat := by unfold asked; rw [if_pos (by omega)]
theorem item_kind {x : Ist} (h : itemB x = true) : x.k = 0 ∨ x.k = 1 ∨ x.k = 2 ∨ x.k = 3 := by
  unfold itemB at h
  split at h
  · omega
  · split at h
    · omega
    · split at h
      · omega
      · cases h
theorem right_parts {m : Mst} (hk : m.k = 7) (h : rightB m = true) : rightP m := (rightB_iff m hk).1 h
theorem clean_dirty {m : Mst} (hk : m.k = 7) (h : rightB m = true) (hc : cleanB m = false) : dirtyB m = true := by
  unfold cleanB at hc
  rw [List.all_eq_false] at hc
  obtain ⟨x, hx, hn⟩ := hc
  have hi := List.all_eq_true.1 (right_parts hk h).2.2.2.2.2.2.2.2 x hx
  have h1 : ¬ x.k ≤ 1 := fun q => hn (decide_eq_true q)
  unfold dirtyB badB
  rw [List.any_eq_true]
  refine ⟨x, hx, ?_⟩
  rcases item_kind hi with q | q | q | q
  · omega
  · omega
  · simp [q]
  · simp [q]
theorem waits_plain {C : Int} {L : List Mst} (h1 : ¬ ((countsL (asked C) L).length : Int) = C) (h2 : (countsL (asked C) L).all cleanB = false ∨ 2 * ((countsL (asked C) L).length : Int) ≤ C) : (chooseV C L).r = false := by
  unfold chooseV
  split
  · next hC =>
    rw [asked_C hC] at h1 h2
    unfold chooseL
    rw [if_pos]
    · rfl
    · refine ⟨decide_eq_false h1, ?_⟩
      rcases h2 with h2 | h2
      · left
        rw [List.all_eq_false] at h2
        obtain ⟨m, hm, hn⟩ := h2
        have hmm := countsL_mem hm
        rw [List.any_eq_true]
        exact ⟨m, hm, clean_dirty hmm.2.1 hmm.2.2 (by simpa using hn)⟩
      · right
        unfold Quo.enough
        omega
  · rfl
set_option maxRecDepth 100000 in
set_option maxHeartbeats 40000000 in
theorem waits_walk (C : Int) (ad : Option Addr) (cap : Nat) (L : List Mst) (w : World) (hr : RowsAt 33 w ad (L.map Mst.row)) (hcap : L.length ≤ cap) (hin : ∀ m ∈ L, m.In w) (hg : Gl w) :
    Calls Tryd.prog 6 #[.int .i64 C, .slice ad L.length cap] w fun e w' => e = .returned (.bool true) ∧ Below w.heap.size w w' := by
  have HAW := Lib.hid (awake18_any w hg)
  have HGR := Lib.hid (fun W (hW : Below w.heap.size w W) => great_any ad cap L W (hr.later hW) (fun m hm => (hin m hm).later hW))
  have HR := Lib.hid hr
  have HIN := Lib.hid hin
  have HG := Lib.hid hg
  obtain ⟨N, hN⟩ : ∃ N, N = L.length := ⟨_, rfl⟩
  have HN := Lib.hid hN
  rw [← hN] at hcap ⊢
  simp only [← hN] at HGR
  clear hr hin hg hN
  go_enter Tryd.func6, Tryd.ntmps6
  go_wp2_with fail
  refine HAW.out.mono ?_
  rintro e w1 ⟨rfl, hb1⟩
  have HB1 := Lib.hid hb1
  go_wp2_with fail
  refine (HGR.out _ hb1).mono ?_
  rintro e w1' ⟨⟨v, rfl, hv⟩, rfl⟩
  cases v
  · have h12 : L.length ≤ 12 := hv rfl
    have HLA := Lib.hid (fun W (hW : Below w.heap.size w W) => (⟨HR.out.later hW, by rw [← HN.out]; exact hcap, by omega, fun m hm => (HIN.out m hm).later hW⟩ : LogsAt W ad cap L))
    have HLG := Lib.hid (fun W hW => logs_any C ad cap L W (HLA.out W hW))
    have HCH := Lib.hid (fun W hW => choose_any C ad cap L W (HLA.out W hW) (HG.out.later hW))
    simp only [← HN.out] at HLG HCH
    clear hv hb1 HAW HGR h12
    go_wp2_with fail
    refine (HLG.out _ HB1.out).mono ?_
    rintro e w2 ⟨⟨ad2, cap2, rfl, hr2, hc2⟩, hb2⟩
    have HB2 := Lib.hid (HB1.out.trans (hb2.mono HB1.out.size))
    have hle := countsL_len L (asked C)
    have hle5 := asked_le C
    have HM := Lib.hid (fun m (hm : m ∈ countsL (asked C) L) => countsL_mem hm)
    have HWP := Lib.hid (fun h1 h2 => waits_plain (C := C) (L := L) h1 h2)
    generalize countsL (asked C) L = l at *
    generalize asked C = A9 at *
    obtain ⟨K, hK⟩ : ∃ K, K = l.length := ⟨_, rfl⟩
    have HK := Lib.hid hK
    rw [← hK] at hc2 hle HWP ⊢
    have hK5 : K ≤ 5 := by omega
    have HR2 := Lib.hid hr2
    have hz2 := HB2.out.size
    have HHZ : Hid (w2.heap.size ≤ w2.heap.size) := Lib.hid (Nat.le_refl _)
    clear hb2 hK hr2 hle hle5 HB1 HLG hz2
    go_wp2_with fail
    go_loopw [6, 7] (fun cv iv wr => ∃ j : Nat, j ≤ K ∧ iv = .int .i64 (j : Int) ∧ cv = .bool ((l.take j).all cleanB) ∧ Below w2.heap.size w2 wr) (fun _ iv _ => K - (intOf iv).toNat)
    case atStart => exact ⟨0, by omega, rfl, by simp, Below.refl _ _⟩
    case round =>
      obtain ⟨j, hj, rfl, rfl, hbw⟩ := hrel
      have HB := Lib.hid hbw
      by_cases hlt : j < K
      · obtain ⟨x, hx⟩ : ∃ x, l[j]? = some x := ⟨l[j]'(by rw [← HK.out]; exact hlt), List.getElem?_eq_getElem _⟩
        obtain ⟨b, off, had, hbl, hra⟩ := (HR2.out.later hbw).range (i := j) (x := x.row) (by rw [List.getElem?_map, hx]; rfl)
        subst had
        have HX := Lib.hid hx
        have l1 := Lib.hid (load_at 45 _ hra Tryd.underlying45 rfl (by kernel_rfl))
        have HMX := Lib.hid (HM.out x (List.mem_of_getElem? hx))
        have HSN : Hid ((l.take (j + 1)).all cleanB = ((l.take j).all cleanB && cleanB x)) := Lib.hid (by rw [take_snoc hx, List.all_append]; simp)
        have HCL := Lib.hid (clean_any x wr ((HIN.out x HMX.out.1).below (HB2.out.trans (hbw.mono HB2.out.size)) (Nat.le_refl _)) (right_parts HMX.out.2.1 HMX.out.2.2).2.2.2.2.2.2.2.1)
        generalize (l.take j).all cleanB = acc at *
        clear hra hbl hx hbw
        cases acc
        · go_wp2_with fail
          go_roundw
          case rel => exact ⟨j + 1, by omega, by go_num, by rw [HSN.out]; rfl, HB.out⟩
          case measure => simp [intOf]; omega
        · go_wp2_with (first | (guard_target =~ wpList _ _ _ (⟨_, Op.load _ (Operand.tmp 25), _, _, _, _⟩ :: _) _ _; refine wpList_load_w 45 (Operand.tmp 25) (by kernel_rfl) rfl l1.out rfl ?_) | (guard_target =~ wpList _ _ _ (⟨_, Op.load _ (Operand.tmp 25), _, _, _, _⟩ :: _) _ _; refine wpList_load_eq 45 (Operand.tmp 25) rfl rfl l1.out rfl ?_))
          refine HCL.out.mono ?_
          rintro e w3 ⟨rfl, hb3⟩
          have HB3 := Lib.hid (HB.out.trans (hb3.mono HB.out.size))
          clear hb3
          go_wp2_with fail
          go_roundw
          case rel => exact ⟨j + 1, by omega, by go_num, by rw [HSN.out]; rfl, HB3.out⟩
          case measure => simp [intOf]; omega
      · obtain rfl : j = K := by omega
        have HCC : Hid (l.take j = l) := Lib.hid (by rw [HK.out, List.take_length])
        rw [HCC.out]
        have HBW := Lib.hid (HB2.out.trans (hbw.mono HB2.out.size))
        generalize hv : l.all cleanB = v at *
        have HV := Lib.hid hv
        clear hbw hv
        by_cases hKC : (j : Int) = C
        · go_wp2_with fail
          go_ret
          exact ⟨rfl, HBW.out⟩
        · have hKCb : ((j : Int) == C) = false := beq_eq_false_iff_ne.2 hKC
          cases v
          · have HF := Lib.hid (HWP.out hKC (.inl rfl))
            go_wp2_with fail
            refine (HCH.out _ HBW.out).mono ?_
            rintro e w4 ⟨⟨ea, cp, rfl, _, _⟩, hb4⟩
            have HB4 := Lib.hid (HBW.out.trans (hb4.mono HBW.out.size))
            rw [HF.out]
            unfold crow
            generalize chooseV C L = cc at *
            have hfl : ∀ W, (Instr.field 30 (.agg #[.bool false, .int .i64 cc.co, .int .i64 cc.cv, .int .u64 cc.cs, .int .i64 cc.cm, .slice ea cc.es.length cp]) 0).run Tryd.prog W = .ok (.bool false) W := fun W => by kernel_rfl
            clear hb4
            go_wp2_with fail
            go_ret
            exact ⟨rfl, HB4.out⟩
          · by_cases h2 : C < 2 * (j : Int)
            · go_wp2_with fail
              go_ret
              exact ⟨rfl, HBW.out⟩
            · have HF := Lib.hid (HWP.out hKC (.inr (by omega)))
              have h2' : 2 * (j : Int) ≤ C := by omega
              go_wp2_with fail
              refine (HCH.out _ HBW.out).mono ?_
              rintro e w4 ⟨⟨ea, cp, rfl, _, _⟩, hb4⟩
              have HB4 := Lib.hid (HBW.out.trans (hb4.mono HBW.out.size))
              rw [HF.out]
              unfold crow
              generalize chooseV C L = cc at *
              have hfl : ∀ W, (Instr.field 30 (.agg #[.bool false, .int .i64 cc.co, .int .i64 cc.cv, .int .u64 cc.cs, .int .i64 cc.cm, .slice ea cc.es.length cp]) 0).run Tryd.prog W = .ok (.bool false) W := fun W => by kernel_rfl
              clear hb4
              go_wp2_with fail
              go_ret
              exact ⟨rfl, HB4.out⟩
  · go_wp2_with fail
    go_ret
    exact ⟨rfl, HB1.out⟩
end Go.Proofs.YtpbjjmenkoigjaaDoor
end

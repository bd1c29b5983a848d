/- The walk of Choose. -/
import Derived.Test.YtpbjjmenkoigjaaDoorMgLawChooseTurnsAI
namespace Go.Proofs.YtpbjjmenkoigjaaDoor
open Go.RowKit
set_option linter.unusedVariables false
set_option maxRecDepth 100000 in
set_option maxHeartbeats 40000000 in
theorem choose_part (C : Int) (ad : Option Addr) (cap : Nat) (L : List Mst) (w : World) (hl : LogsAt w ad cap L) (hg : Gl w) (hC : C = 3 ∨ C = 5) (hwh : ¬ ((countsL C.toNat L).length : Int) = C) :
    Calls Tryd.prog 10 #[.int .i64 C, .slice ad L.length cap] w fun e w' => CPost w (chooseV C L) e w' := by
  have H0 : Hid (Below w.heap.size w (w.alloc (.cells (crow false 0 0 0 0 none 0 0) 30)) ∧ Blk (w.alloc (.cells (crow false 0 0 0 0 none 0 0) 30)) w.heap.size (crow false 0 0 0 0 none 0 0)) := Lib.hid ⟨(Below.refl _ _).alloc (Nat.le_refl _) _, Blk.new _ _ _ _ rfl⟩
  obtain ⟨n, rfl⟩ : ∃ n : Nat, C = n := ⟨C.toNat, by omega⟩
  have HVV : Hid (chooseV n L = chooseL n (countsL n L)) := Lib.hid (if_pos hC)
  have HC := Lib.hid hC
  have HCNT := Lib.hid (fun W (hW : Below w.heap.size w W) => counts_any n (by omega) ad cap L W ⟨hl.rows.later hW, hl.cap, hl.small, fun m hm => (hl.ins m hm).later hW⟩ (hg.later hW))
  have HINS : Hid (∀ m ∈ countsL n L, ∀ {W : World}, Below w.heap.size w W → m.In W) := Lib.hid (fun m hm W hW => (hl.ins m (countsL_mem hm).1).later hW)
  have HCO : Hid (∀ m ∈ countsL n L, 0 ≤ m.co ∧ m.co ≤ 72057594037927935) := Lib.hid (fun m hm => rightB_co (countsL_mem hm).2.2)
  have hlen := countsL_len L n
  have hn5 : n ≤ 5 := by omega
  have hen : 1 ≤ Quo.enough n := by unfold Quo.enough; split <;> first | omega | (split <;> omega)
  clear hC hl hg
  replace hwh : ¬ (countsL n L).length = n := by have := hwh; simp at this; omega
  obtain ⟨l, hl⟩ : ∃ l, l = countsL n L := ⟨_, rfl⟩
  rw [← hl] at hwh
  rw [← hl] at HVV HINS hlen HCO
  simp only [← hl] at HCNT
  clear hl
  obtain ⟨K, hK⟩ : ∃ K, K = l.length := ⟨_, rfl⟩
  replace hwh : ¬ K = n := by rw [hK]; exact hwh
  rw [← hK] at hlen
  simp only [← hK] at HCNT
  have HK := Lib.hid hK
  clear hK
  rw [HVV.out]
  clear HVV
  generalize L.length = N at *
  go_enter Tryd.func10, Tryd.ntmps10
  go_wp2_with fail
  refine (may_yes _ _ HC.out).mono ?_
  rintro e w9 ⟨rfl, rfl⟩
  go_wp2_with fail
  generalize hW0 : w.alloc (.cells #[.bool false, .int .i64 0, .int .i64 0, .int .u64 0, .int .i64 0, .slice none 0 0] 30) = W0
  rw [show (w.alloc (.cells (crow false 0 0 0 0 none 0 0) 30)) = W0 from hW0] at H0
  clear hW0
  refine (HCNT.out _ H0.out.1).mono ?_
  rintro e w1 ⟨⟨ad1, cap1, rfl, hr1, hc1⟩, hb1⟩
  have H1 : Hid (Below w.heap.size w w1 ∧ Blk w1 w.heap.size (crow false 0 0 0 0 none 0 0)) := Lib.hid ⟨H0.out.1.trans (hb1.mono H0.out.1.size), H0.out.2.later hb1⟩
  have HLA : Hid (LogsAt w1 ad1 cap1 l) := Lib.hid ⟨hr1, by rw [← HK.out]; exact hc1, by rw [← HK.out]; omega, fun m hm => HINS.out m hm H1.out.1⟩
  clear hr1 hc1 hb1 H0 HCNT
  have HCN := Lib.hid (contains_msgs ad1 cap1 l w1 HLA.out.rows (by have := HLA.out.small; omega) HLA.out.ins)
  rw [← HK.out] at HCN
  have HEN := Lib.hid (fun W => enough_any (n : Int) W)
  have HWH := Lib.hid (show ¬ ((K : Int) = (n : Int)) by omega)
  have hwb : ((K : Int) == (n : Int)) = false := beq_eq_false_iff_ne.2 HWH.out
  obtain ⟨en, hen'⟩ : ∃ en, en = Quo.enough (n : Int) := ⟨_, rfl⟩
  rw [← hen'] at hen
  simp only [← hen'] at HEN
  have HENE := Lib.hid hen'
  clear hen' hwh
  cases hd : l.any dirtyB
  · rw [hd] at HCN
    by_cases hlt : (K : Int) < en
    · have HZ : Hid (chooseL n l = Cst.zero) := Lib.hid (chooseL_stop ⟨decide_eq_false (by rw [← HK.out]; exact HWH.out), .inr (by rw [← HK.out, ← HENE.out]; exact hlt)⟩)
      have HD := Lib.hid hd
      clear hd
      go_wp2_with fail
      refine HCN.out.mono ?_
      rintro e w2 ⟨rfl, hb2⟩
      have H2 : Hid (Below w.heap.size w w2 ∧ Blk w2 w.heap.size (crow false 0 0 0 0 none 0 0)) := Lib.hid ⟨H1.out.1.trans (hb2.mono H1.out.1.size), H1.out.2.later hb2⟩
      clear hb2 H1 HLA HCN
      go_wp2_with fail
      refine (HEN.out _).mono ?_
      rintro e w9 ⟨rfl, rfl⟩
      obtain ⟨W9, st9, hB9, hT9⟩ := refillT (cs := crow false 0 0 0 0 none 0 0) 30 H2.out.2 rfl (by kernel_rfl) (crow_one _ _ _ _ _ _ _ _)
      have st9 := Lib.hid st9
      have HB9 := Lib.hid hB9
      have HBE9 : Hid (Below w.heap.size w W9) := Lib.hid (H2.out.1.trans (hT9.below (fun q hq => by omega) H2.out.1.size))
      clear hB9 hT9
      go_wp2_with (first | (guard_target =~ wpList _ _ _ (⟨_, Op.store _ (Operand.tmp 4) (Operand.tmp 40), _, _, _, _⟩ :: _) _ _; refine wpList_store_eq 30 (Operand.tmp 4) (Operand.tmp 40) rfl rfl st9.out rfl rfl ?_))
      exact bodyPost_ret (results_choose rfl HB9.out) rfl (cpost_zero HZ.out HBE9.out)

    · have HGO : Hid (¬ (decide ((l.length : Int) = (n : Int)) = false ∧ (l.any dirtyB = true ∨ (l.length : Int) < Quo.enough (n : Int)))) := Lib.hid (fun h => by
        rcases h.2 with q | q
        · rw [hd] at q; cases q
        · rw [← HK.out, ← HENE.out] at q; exact hlt q)
      have hK0 : 1 ≤ K := by omega
      have HD := Lib.hid hd
      clear hd
      go_wp2_with fail
      refine HCN.out.mono ?_
      rintro e w2 ⟨rfl, hb2⟩
      have H2 : Hid (Below w.heap.size w w2 ∧ Blk w2 w.heap.size (crow false 0 0 0 0 none 0 0) ∧ w1.heap.size ≤ w2.heap.size) := Lib.hid ⟨H1.out.1.trans (hb2.mono H1.out.1.size), H1.out.2.later hb2, hb2.size⟩
      have HLA2 := Lib.hid (HLA.out.later hb2)
      clear hb2 H1 HLA HCN
      go_wp2_with fail
      refine (HEN.out _).mono ?_
      rintro e w9 ⟨rfl, rfl⟩
      clear HEN
      have hK1 : 0 < l.length := by rw [← HK.out]; omega
      obtain ⟨m0, hm0⟩ : ∃ m0, l[0]? = some m0 := ⟨l[0], List.getElem?_eq_getElem hK1⟩
      have HCL := Lib.hid (chooseL_go hm0 HGO.out)
      rw [decide_eq_false (show ¬ ((l.length : Int) = (n : Int)) by rw [← HK.out]; exact HWH.out)] at HCL
      have hL2 := HLA2.out
      obtain ⟨b, off, rfl, hbl, hra⟩ := hL2.rows.range (i := 0) (x := m0.row) (by rw [List.getElem?_map, hm0]; rfl)
      rw [Nat.zero_mul, Nat.add_zero] at hra
      have lck : (Instr.loadAt 27 (.pointer (some ⟨b, off + 12, none⟩))).run Tryd.prog w2 = .ok (.agg #[.int .i64 m0.co, .int .i64 m0.cv, .int .u64 m0.cs]) w2 := m_ck_load hra
      obtain ⟨W3, st8, hW3, hB3, hz3⟩ := fresh w2 (crow false 0 0 0 0 none 0 0) (crow true m0.co m0.cv m0.cs 0 none 0 0) 30 rfl (by kernel_rfl) (crow_one _ _ _ _ _ _ _ _)
      have lck := Lib.hid lck
      have st8 := Lib.hid st8
      have HTOP : Hid (∀ j, j ≤ l.length → 0 ≤ ((l.take j).foldl ckStep (m0.co, m0.cv, m0.cs, 0)).1 ∧ ((l.take j).foldl ckStep (m0.co, m0.cv, m0.cs, 0)).1 ≤ 72057594037927935) := Lib.hid (fun j hj => topCk_ok _ (fun m hm => HCO.out m (List.mem_of_mem_take hm)) _ (HCO.out m0 (List.mem_of_getElem? hm0)))
      have H3 : Hid (CI w2 W3 (crow true m0.co m0.cv m0.cs 0 none 0 0)) := Lib.hid ⟨hW3, hB3⟩
      clear hra hW3 hB3 hz3 hm0 hL2 hbl hK1
      go_wp2_with (first | (guard_target =~ wpList _ _ _ (⟨_, Op.load _ (Operand.tmp 43), _, _, _, _⟩ :: _) _ _; refine wpList_load_eq 27 (Operand.tmp 43) rfl rfl lck.out rfl ?_) | (guard_target =~ wpList _ _ _ (⟨_, Op.store _ (Operand.tmp 8) (Operand.tmp 45), _, _, _, _⟩ :: _) _ _; refine wpList_store_eq 30 (Operand.tmp 8) (Operand.tmp 45) rfl rfl st8.out rfl rfl ?_))
      go_loopw [48] (fun iv wr => ∃ j : Nat, j ≤ K ∧ iv = .int .i64 (j : Int) ∧ CI w2 wr (crow true ((l.take j).foldl ckStep (m0.co, m0.cv, m0.cs, 0)).1 ((l.take j).foldl ckStep (m0.co, m0.cv, m0.cs, 0)).2.1 ((l.take j).foldl ckStep (m0.co, m0.cv, m0.cs, 0)).2.2.1 ((l.take j).foldl ckStep (m0.co, m0.cv, m0.cs, 0)).2.2.2 none 0 0)) (fun iv _ => K - (intOf iv).toNat)
      case atStart => exact ⟨0, by omega, rfl, H3.out⟩
      case round =>
        clear H3 lck st8
        obtain ⟨j, hj, rfl, hci⟩ := hrel
        have HCI := Lib.hid hci
        by_cases hlt : j < K
        · obtain ⟨x, hx⟩ : ∃ x, l[j]? = some x := ⟨l[j]'(by rw [← HK.out]; exact hlt), List.getElem?_eq_getElem _⟩
          have HSN : Hid ((l.take (j + 1)).foldl ckStep (m0.co, m0.cv, m0.cs, 0) = ckStep ((l.take j).foldl ckStep (m0.co, m0.cv, m0.cs, 0)) x) := Lib.hid (by rw [take_snoc hx, topCk_snoc])
          generalize (l.take j).foldl ckStep (m0.co, m0.cv, m0.cs, 0) = t at *
          obtain ⟨t1, t2, t3, t4⟩ := t
          simp only at hci HCI
          obtain ⟨b', off', hd, hbl, hra⟩ := (HLA2.out.later hci.1).rows.range (i := j) (x := x.row) (by rw [List.getElem?_map, hx]; rfl)
          injection hd with hd
          injection hd with hd1 hd2 _
          subst hd1 hd2
          have l1 := load_at 45 _ hra Tryd.underlying45 rfl (by kernel_rfl)
          obtain ⟨W1, st1, hW1, hB1, hz1⟩ := fresh wr #[.int .i64 0, .int .i64 0, .int .i64 0, .int .i64 0, .int .i64 0, .int .i64 0, .int .i64 0, .int .i64 0, .int .i64 0, .int .i64 0, .int .i64 0, .int .i64 0, .int .i64 0, .int .i64 0, .int .u64 0, .int .u64 0, .int .u64 0, .int .u64 0, .int .u64 0, .int .u64 0, .int .u64 0, .int .i64 0, .int .i64 0, .int .i64 0, .int .u64 0, .int .i64 0, .int .i64 0, .int .i64 0, .int .i64 0, .string ⟨#[]⟩, .slice none 0 0, .slice none 0 0, .string ⟨#[]⟩] x.row 45 rfl (by kernel_rfl) (Mst.row_one x)
          have hC1 : CI w2 W1 (crow true t1 t2 t3 t4 none 0 0) := ⟨hci.1.trans (hW1.mono hci.1.size), hci.2.later hW1⟩
          have hgl : w2.heap.size < wr.heap.size := hci.2.1
          have c12 : W1.cell? ⟨wr.heap.size, 12, none⟩ = some (.int .i64 x.co) := (hB1.2 12 _ rfl).1
          have c5 : W1.cell? ⟨wr.heap.size, 5, none⟩ = some (.int .i64 x.cm) := (hB1.2 5 _ rfl).1
          have g1 : W1.cell? ⟨w2.heap.size, 1, none⟩ = some (.int .i64 t1) := (hC1.2.2 1 _ rfl).1
          have g4 : W1.cell? ⟨w2.heap.size, 4, none⟩ = some (.int .i64 t4) := (hC1.2.2 4 _ rfl).1
          have l1 := Lib.hid l1
          have st1 := Lib.hid st1
          by_cases hgt : t1 < x.co
          · have HSN : Hid ((l.take (j + 1)).foldl ckStep (m0.co, m0.cv, m0.cs, 0) = (x.co, x.cv, x.cs, max t4 (max x.cm x.co))) := Lib.hid (HSN.out.trans (if_pos hgt))
            have lx : (Instr.loadAt 27 (.pointer (some ⟨wr.heap.size, 12, none⟩))).run Tryd.prog W1 = .ok (.agg (mrow x.co x.cv x.cs)) W1 := m_ck_load hB1.range
            obtain ⟨W2, st2, hB2, hT2⟩ := ck_store hC1.2 x.co x.cv x.cs
            obtain ⟨W4, st4, hB4, hT4⟩ := cm_store hB2 (max t4 (max x.cm x.co))
            have c12' : W2.cell? ⟨wr.heap.size, 12, none⟩ = some (.int .i64 x.co) := (hT2.cell (p := ⟨wr.heap.size, 12, none⟩) hB1.1 (by intro h; have h : wr.heap.size = w2.heap.size := h; omega)).trans c12
            have c5' : W2.cell? ⟨wr.heap.size, 5, none⟩ = some (.int .i64 x.cm) := (hT2.cell (p := ⟨wr.heap.size, 5, none⟩) hB1.1 (by intro h; have h : wr.heap.size = w2.heap.size := h; omega)).trans c5
            have g4' : W2.cell? ⟨w2.heap.size, 4, none⟩ = some (.int .i64 t4) := (hB2.2 4 _ rfl).1
            have HC4 : Hid (CI w2 W4 (crow true x.co x.cv x.cs (max t4 (max x.cm x.co)) none 0 0)) := Lib.hid ⟨hC1.1.trans ((hT2.below (fun q hq => by omega) hC1.1.size).trans (hT4.below (fun q hq => by omega) (Nat.le_trans hC1.1.size hT2.size))), hB4⟩
            have lx := Lib.hid lx
            have st2 := Lib.hid st2
            have st4 := Lib.hid st4
            clear hra hW1 hB1 hz1 hC1 hci HCI hx hbl hB2 hT2 hB4 hT4 hgl
            go_wp2_with (first | (guard_target =~ wpList _ _ _ (⟨_, Op.load _ (Operand.tmp 50), _, _, _, _⟩ :: _) _ _; refine wpList_load_eq 45 (Operand.tmp 50) rfl rfl l1.out rfl ?_) | (guard_target =~ wpList _ _ _ (⟨_, Op.store _ (Operand.tmp 10) (Operand.tmp 51), _, _, _, _⟩ :: _) _ _; refine wpList_store_eq 45 (Operand.tmp 10) (Operand.tmp 51) rfl rfl st1.out rfl rfl ?_) | (guard_target =~ wpList _ _ _ (⟨_, Op.load _ (Operand.tmp 59), _, _, _, _⟩ :: _) _ _; refine wpList_load_eq 27 (Operand.tmp 59) rfl rfl lx.out rfl ?_) | (guard_target =~ wpList _ _ _ (⟨_, Op.store _ (Operand.tmp 61) (Operand.tmp 60), _, _, _, _⟩ :: _) _ _; refine wpList_store_eq 27 (Operand.tmp 61) (Operand.tmp 60) rfl rfl st2.out rfl rfl ?_) | (guard_target =~ wpList _ _ _ (⟨_, Op.call { callee := Callee.builtin Builtin.max, args := _, argTypes := _ }, _, _, _, _⟩ :: _) _ _; refine wpList_max3 _ (Operand.tmp 63) (Operand.tmp 65) (Operand.tmp 68) rfl rfl rfl rfl rfl ?_) | (guard_target =~ wpList _ _ _ (⟨_, Op.store _ (Operand.tmp 70) (Operand.tmp 69), _, _, _, _⟩ :: _) _ _; refine wpList_store_eq 3 (Operand.tmp 70) (Operand.tmp 69) rfl rfl st4.out rfl rfl ?_))
            go_roundw
            case rel => exact ⟨j + 1, by omega, by go_num, by rw [HSN.out]; exact HC4.out⟩
            case measure => simp [intOf]; omega
          · have HSN : Hid ((l.take (j + 1)).foldl ckStep (m0.co, m0.cv, m0.cs, 0) = (t1, t2, t3, max t4 (max x.cm x.co))) := Lib.hid (HSN.out.trans (if_neg hgt))
            obtain ⟨W4, st4, hB4, hT4⟩ := cm_store hC1.2 (max t4 (max x.cm x.co))
            have HC4 : Hid (CI w2 W4 (crow true t1 t2 t3 (max t4 (max x.cm x.co)) none 0 0)) := Lib.hid ⟨hC1.1.trans (hT4.below (fun q hq => by omega) hC1.1.size), hB4⟩
            have st4 := Lib.hid st4
            clear hra hW1 hB1 hz1 hC1 hci HCI hx hbl hB4 hT4 hgl
            go_wp2_with (first | (guard_target =~ wpList _ _ _ (⟨_, Op.load _ (Operand.tmp 50), _, _, _, _⟩ :: _) _ _; refine wpList_load_eq 45 (Operand.tmp 50) rfl rfl l1.out rfl ?_) | (guard_target =~ wpList _ _ _ (⟨_, Op.store _ (Operand.tmp 10) (Operand.tmp 51), _, _, _, _⟩ :: _) _ _; refine wpList_store_eq 45 (Operand.tmp 10) (Operand.tmp 51) rfl rfl st1.out rfl rfl ?_) | (guard_target =~ wpList _ _ _ (⟨_, Op.call { callee := Callee.builtin Builtin.max, args := _, argTypes := _ }, _, _, _, _⟩ :: _) _ _; refine wpList_max3 _ (Operand.tmp 63) (Operand.tmp 65) (Operand.tmp 68) rfl rfl rfl rfl rfl ?_) | (guard_target =~ wpList _ _ _ (⟨_, Op.store _ (Operand.tmp 70) (Operand.tmp 69), _, _, _, _⟩ :: _) _ _; refine wpList_store_eq 3 (Operand.tmp 70) (Operand.tmp 69) rfl rfl st4.out rfl rfl ?_))
            go_roundw
            case rel => exact ⟨j + 1, by omega, by go_num, by rw [HSN.out]; exact HC4.out⟩
            case measure => simp [intOf]; omega
        · obtain rfl : K = j := by omega
          have HT1 := HTOP.out l.length (Nat.le_refl _)
          have hci := HCI.out
          rw [HK.out, List.take_length] at hci
          rw [List.take_length] at HT1
          unfold topCk at HCL
          clear HCI HTOP
          generalize l.foldl ckStep (m0.co, m0.cv, m0.cs, 0) = t at *
          obtain ⟨t1, t2, t3, t4⟩ := t
          simp only at hci HCL HT1
          have lm := Lib.hid (ck_load hci.2)
          obtain ⟨W5, st5, hW5, hB5, hz5⟩ := fresh wr (mrow 0 0 0) (mrow t1 t2 t3) 27 rfl (by kernel_rfl) (mrow_one _ _ _)
          have st5 := Lib.hid st5
          have hgl : w2.heap.size < wr.heap.size := hci.2.1
          have H5 : Hid (CI w2 W5 (crow true t1 t2 t3 t4 none 0 0) ∧ Blk W5 wr.heap.size (mrow t1 t2 t3)) := Lib.hid ⟨⟨hci.1.trans (hW5.mono hci.1.size), hci.2.later hW5⟩, hB5⟩
          have HT1 := Lib.hid HT1
          clear hci hW5 hB5 hz5
          go_wp2_with (first | (guard_target =~ wpList _ _ _ (⟨_, Op.load _ (Operand.tmp 72), _, _, _, _⟩ :: _) _ _; refine wpList_load_eq 27 (Operand.tmp 72) rfl rfl lm.out rfl ?_) | (guard_target =~ wpList _ _ _ (⟨_, Op.store _ (Operand.tmp 11) (Operand.tmp 73), _, _, _, _⟩ :: _) _ _; refine wpList_store_eq 27 (Operand.tmp 11) (Operand.tmp 73) rfl rfl st5.out rfl rfl ?_))
          try simp only [Act.put, List.setIfInBounds_toArray, List.set_cons_zero, List.set_cons_succ]
          generalize wr.heap.size = gm at *
          have HGM := Lib.hid hgl
          clear lm st5 hgl
          go_loopw [] (fun wr => ∃ (f : Nat) (o v s : Int) (E : List Est) (ea : Option Addr) (cap3 : Nat), E.length + f = 8 ∧ runC l false 8 t1 t2 t3 [] = runC l false f o v s E ∧ CI w2 wr (crow true t1 t2 t3 t4 ea E.length cap3) ∧ Blk wr gm (mrow o v s) ∧ OwnC (fun q => gm < q) wr (.slice ea E.length cap3) E.length 9 (rcells (E.map Est.row)) ∧ (0 ≤ o ∧ o ≤ 72057594037927935)) (fun wr => 8 - lenAt wr w2.heap.size)
          case atStart => exact ⟨8, t1, t2, t3, [], none, 0, rfl, rfl, H5.out.1, H5.out.2, OwnC.nil _ _ _, HT1.out⟩
          case round =>
            clear H5 HT1
            obtain ⟨f, o, v, s, E, ea, cap3, hf, hrun, hci, hgm, hO, ho⟩ := hrel
            obtain ⟨n, hn⟩ : ∃ n, n = E.length := ⟨_, rfl⟩
            rw [← hn] at hf hci hO
            have HNE := Lib.hid hn
            have HRUN := Lib.hid hrun
            have HCI := Lib.hid hci
            have HGB := Lib.hid hgm
            have HO := Lib.hid hO
            have gc5 : wr.cell? ⟨w2.heap.size, 5, none⟩ = some (.slice ea n cap3) := (hci.2.2 5 _ rfl).1
            clear hn
            by_cases hn8 : n < 8
            · have hn8i : (n : Int) < 8 := by omega
              obtain ⟨f, rfl⟩ : ∃ f', f = f' + 1 := ⟨f - 1, by omega⟩
              have m0c : wr.cell? ⟨gm, 0, none⟩ = some (.int .i64 o) := (hgm.2 0 _ rfl).1
              have HTOLD := Lib.hid (told_any (some ⟨b, off, none⟩) cap1 l (o + 1) wr (HLA2.out.later hci.1) (by omega) HCO.out)
              rw [← HK.out] at HTOLD
              have HRC : Hid (runC l false (f + 1) o v s E = if badStub (told l (o + 1)) o v s then some E else match held l (o + 1) (told l (o + 1)).2.1 with
                | none => if false = true then some E else none
                | some e => runC l false f e.mo e.mv e.sum (E ++ [e])) := Lib.hid rfl
              generalize told l (o + 1) = T at *
              obtain ⟨top, stb, fd⟩ := T
              simp only at HTOLD HRC
              clear hci hgm hO hrun
              go_wp2_with fail
              refine HTOLD.out.mono ?_
              rintro e w8 ⟨rfl, hb8⟩
              have HS8 := Lib.hid (LS.later ⟨HCI.out, HGB.out, HO.out.capped⟩ hb8)
              obtain ⟨so, sv, su, sp, ss⟩ := stb
              obtain ⟨W10, st12, hW10, hB12, hz10⟩ := fresh w8 #[.int .i64 0, .int .i64 0, .int .i64 0, .int .u64 0, .int .u64 0] (⟨so, sv, su, sp, ss⟩ : Sst).row 38 rfl (by kernel_rfl) (Sst.row_one _)
              have hS10 := HS8.out.later hW10
              have HSZ : Hid (wr.heap.size ≤ w8.heap.size ∧ w8.heap.size < W10.heap.size ∧ gm < wr.heap.size) := Lib.hid ⟨hb8.size, hz10, HGB.out.1⟩
              have s0 : W10.cell? ⟨w8.heap.size, 0, none⟩ = some (.int .i64 so) := (hB12.2 0 _ rfl).1
              have s2 : W10.cell? ⟨w8.heap.size, 2, none⟩ = some (.int .i64 su) := (hB12.2 2 _ rfl).1
              have s3 : W10.cell? ⟨w8.heap.size, 3, none⟩ = some (.int .u64 sp) := (hB12.2 3 _ rfl).1
              have mc0 : W10.cell? ⟨gm, 0, none⟩ = some (.int .i64 o) := (hS10.2.1.2 0 _ rfl).1
              have mc1 : W10.cell? ⟨gm, 1, none⟩ = some (.int .i64 v) := (hS10.2.1.2 1 _ rfl).1
              have mc2 : W10.cell? ⟨gm, 2, none⟩ = some (.int .u64 s) := (hS10.2.1.2 2 _ rfl).1
              have l12 := Lib.hid (load_at 38 _ hB12.range Tryd.underlying38 rfl (by kernel_rfl))
              have st12 := Lib.hid st12
              have HS10 := Lib.hid hS10
              have HHELD := Lib.hid (held_any (some ⟨b, off, none⟩) cap1 l (o + 1) ⟨so, sv, su, sp, ss⟩ W10 (HLA2.out.later hS10.1.1) (by omega) HCO.out)
              rw [← HK.out] at HHELD
              clear hb8 hS10 hW10 hB12 hz10 HTOLD m0c gc5
              cases fd
              · have hci := HS10.out.1
                have lF := Lib.hid (c_load hci.2)
                obtain ⟨W9, st9, hB9, hT9⟩ := refillT (cs := crow true t1 t2 t3 t4 ea n cap3) 30 (H2.out.2.1.later hci.1) rfl (by kernel_rfl) (crow_one _ _ _ _ _ _ _ _)
                have st9 := Lib.hid st9
                have HB9 := Lib.hid hB9
                have HBE9 : Hid (Below w.heap.size w W9) := Lib.hid ((H2.out.1.trans (hci.1.mono H2.out.1.size)).trans (hT9.below (fun q hq => by omega) (Nat.le_trans H2.out.1.size hci.1.size)))
                have HO9 := Lib.hid ((HS10.out.2.2.mono (Y' := fun q => gm < q) (fun q hq => hq.1)).turned hT9 (fun q hq h => by have := HGM.out; have := H2.out.2.1.1; omega))
                have HRN := Lib.hid (show runC l false (f + 1) o v s E = some E by rw [HRC.out]; exact if_pos (.inl rfl))
                clear hB9 hT9 hci
                go_wp2_with (first | (guard_target =~ wpList _ _ _ (⟨_, Op.store _ (Operand.tmp 12) (Operand.tmp 84), _, _, _, _⟩ :: _) _ _; refine wpList_store_eq 38 (Operand.tmp 12) (Operand.tmp 84) rfl rfl st12.out rfl rfl ?_) | (guard_target =~ wpList _ _ _ (⟨_, Op.load _ (Operand.tmp 8), _, _, _, _⟩ :: _) _ _; refine wpList_load_eq 30 (Operand.tmp 8) rfl rfl lF.out rfl ?_) | (guard_target =~ wpList _ _ _ (⟨_, Op.store _ (Operand.tmp 4) (Operand.tmp 132), _, _, _, _⟩ :: _) _ _; refine wpList_store_eq 30 (Operand.tmp 4) (Operand.tmp 132) rfl rfl st9.out rfl rfl ?_))
                exact bodyPost_ret (results_choose rfl HB9.out) rfl (cpost_of (by rw [HCL.out, HRUN.out, HRN.out]; rfl) HNE.out HO9.out HBE9.out)
              · by_cases q0 : so = o + 1
                · subst q0
                  by_cases q2 : su = v
                  · subst q2
                    by_cases q3 : sp = s
                    · subst q3
                      have HRD : Hid (runC l false (f + 1) o su sp E = match held l (o + 1) ⟨o + 1, sv, su, sp, ss⟩ with
                        | none => if false = true then some E else none
                        | some e => runC l false f e.mo e.mv e.sum (E ++ [e])) := Lib.hid (HRC.out.trans (if_neg (by unfold badStub; simp)))
                      have HEOK : Hid (∀ e, held l (o + 1) ⟨o + 1, sv, su, sp, ss⟩ = some e → e.Ok) := Lib.hid (fun e he => held_ok he HLA2.out.ins)
                      generalize held l (o + 1) ⟨o + 1, sv, su, sp, ss⟩ = hv at *
                      go_wp2_with (first | (guard_target =~ wpList _ _ _ (⟨_, Op.store _ (Operand.tmp 12) (Operand.tmp 84), _, _, _, _⟩ :: _) _ _; refine wpList_store_eq 38 (Operand.tmp 12) (Operand.tmp 84) rfl rfl st12.out rfl rfl ?_) | (guard_target =~ wpList _ _ _ (⟨_, Op.load _ (Operand.tmp 12), _, _, _, _⟩ :: _) _ _; refine wpList_load_eq 38 (Operand.tmp 12) rfl rfl l12.out rfl ?_))
                      refine HHELD.out.mono ?_
                      rintro e w11 ⟨rfl, hb11⟩
                      have HS11 := Lib.hid (HS10.out.later hb11)
                      have HSZ11 := Lib.hid hb11.size
                      clear hb11 HHELD s0 s2 s3 mc0 mc1 mc2 HS10 HS8 l12 st12
                      cases hv with
                      | none =>
                        unfold heldV
                        obtain ⟨W12, st14, hW12, hB14, hz12⟩ := fresh w11 #[.int .i64 0, .int .i64 0, .int .i64 0, .int .u64 0, .int .i64 0, .int .i64 0, .int .i64 0, .int .i64 0, .string ⟨#[]⟩] Est.zero.row 35 rfl (by kernel_rfl) (Est.row_one _)
                        have st14 := Lib.hid st14
                        have HS12 := Lib.hid (HS11.out.later hW12)
                        clear hW12 hB14 hz12
                        obtain ⟨W9, st9, hB9, hT9⟩ := refillT (cs := crow false 0 0 0 0 none 0 0) 30 (H2.out.2.1.later HS12.out.1.1) rfl (by kernel_rfl) (crow_one _ _ _ _ _ _ _ _)
                        have st9 := Lib.hid st9
                        have HB9 := Lib.hid hB9
                        have HBE9 : Hid (Below w.heap.size w W9) := Lib.hid ((H2.out.1.trans (HS12.out.1.1.mono H2.out.1.size)).trans (hT9.below (fun q hq => by omega) (H2.out.1.trans (HS12.out.1.1.mono H2.out.1.size)).size))
                        clear hB9 hT9
                        go_wp2_with (first | (guard_target =~ wpList _ _ _ (⟨_, Op.store _ (Operand.tmp 14) (Operand.tmp 117), _, _, _, _⟩ :: _) _ _; refine wpList_store_eq 35 (Operand.tmp 14) (Operand.tmp 117) rfl rfl st14.out rfl rfl ?_) | (guard_target =~ wpList _ _ _ (⟨_, Op.store _ (Operand.tmp 4) (Operand.tmp 123), _, _, _, _⟩ :: _) _ _; refine wpList_store_eq 30 (Operand.tmp 4) (Operand.tmp 123) rfl rfl st9.out rfl rfl ?_))
                        exact bodyPost_ret (results_choose rfl HB9.out) rfl (cpost_zero (by rw [HCL.out, HRUN.out, HRD.out]; rfl) HBE9.out)

                      | some e =>
                        unfold heldV
                        obtain ⟨W12, st14, hW12, hB14, hz12⟩ := fresh w11 #[.int .i64 0, .int .i64 0, .int .i64 0, .int .u64 0, .int .i64 0, .int .i64 0, .int .i64 0, .int .i64 0, .string ⟨#[]⟩] e.row 35 rfl (by kernel_rfl) (Est.row_one _)
                        have hS12 := HS11.out.later hW12
                        have hg14 : wr.heap.size ≤ w11.heap.size := by have := HSZ.out; have := HSZ11.out; omega
                        have l14 := Lib.hid (load_at 35 _ hB14.range Tryd.underlying35 rfl (by kernel_rfl))
                        have gc5 : W12.cell? ⟨w2.heap.size, 5, none⟩ = some (.slice ea n cap3) := (hS12.1.2.2 5 _ rfl).1
                        obtain ⟨x', cap', w13, happ, hO13, hT13⟩ := run_ent e hS12.2.2 (by omega)
                        have hgmx := HGM.out
                        have hgmw := HSZ.out.2.2
                        have hC13 : CI w2 w13 (crow true t1 t2 t3 t4 ea n cap3) := ⟨hS12.1.1.trans (hT13.below (fun q hq => by omega) hS12.1.1.size), hS12.1.2.turned hT13 (by omega)⟩
                        have hG13 : Blk w13 gm (mrow o su sp) := hS12.2.1.turned hT13 (by omega)
                        have hB13 : Blk w13 w11.heap.size e.row := hB14.turned hT13 (by omega)
                        have hz12' := hz12
                        have hO13 : OwnC (fun q => gm < q) w13 (.slice x' (n + 1) cap') (n + 1) 9 (rcells (E.map Est.row) ++ e.row.toList) := hO13.mono (fun q hq => by rcases hq with q1 | q1; exact q1.1; show gm < q; omega)
                        obtain ⟨W14, st129, hB15, hT14⟩ := es_store hC13.2 x' (n + 1) cap'
                        have hC14 : CI w2 W14 (crow true t1 t2 t3 t4 x' (n + 1) cap') := ⟨hC13.1.trans (hT14.below (fun q hq => by omega) hC13.1.size), hB15⟩
                        have hG14 : Blk W14 gm (mrow o su sp) := hG13.turned hT14 (by omega)
                        have hO14 := hO13.turned hT14 (fun q hq h => by omega)
                        have l130 := Lib.hid (load_at 35 _ (hB13.turned hT14 (by omega)).range Tryd.underlying35 rfl (by kernel_rfl))
                        have HS14 := Lib.hid (And.intro hC14 (And.intro hG14 hO14))
                        have st14 := Lib.hid st14
                        have happ := Lib.hid happ
                        have st129 := Lib.hid st129
                        have HMK := Lib.hid (markof_any e.v e.o e.u e.c e.s e.r e.k e.p e.b (HEOK.out e rfl).2 W14)
                        clear hW12 hB14 hz12 hz12' hS12 hO13 hT13 hC13 hG13 hB13 hB15 hT14 hC14 hG14 hO14 hgmx hgmw
                        go_wp2_with (first | (guard_target =~ wpList _ _ _ (⟨_, Op.store _ (Operand.tmp 14) (Operand.tmp 117), _, _, _, _⟩ :: _) _ _; refine wpList_store_eq 35 (Operand.tmp 14) (Operand.tmp 117) rfl rfl st14.out rfl rfl ?_) | (guard_target =~ wpList _ _ _ (⟨_, Op.load _ (Operand.tmp 14), _, _, _, _⟩ :: _) _ _; refine wpList_load_eq 35 (Operand.tmp 14) rfl rfl l14.out rfl ?_) | (guard_target =~ wpList _ _ _ (⟨_, Op.buildSlice _ _ _, _, _, _, _⟩ :: _) _ _; refine wpList_bslice_eq 28 (Operand.tmp 126) rfl rfl rfl (bslice_ent e _) ?_) | (guard_target =~ wpList _ _ _ (⟨_, Op.call _, _, _, _, _⟩ :: _) _ _; refine wpList_app_eq 28 (Operand.tmp 125) (Operand.tmp 127) rfl rfl rfl rfl rfl happ.out ?_) | (guard_target =~ wpList _ _ _ (⟨_, Op.store _ (Operand.tmp 129) (Operand.tmp 128), _, _, _, _⟩ :: _) _ _; refine wpList_store_eq 28 (Operand.tmp 129) (Operand.tmp 128) rfl rfl st129.out rfl rfl ?_) | (guard_target =~ wpList _ _ _ (⟨_, Op.load _ (Operand.tmp 14), _, _, _, _⟩ :: _) _ _; refine wpList_load_eq 35 (Operand.tmp 14) rfl rfl l130.out rfl ?_))
                        refine HMK.out.mono ?_
                        rintro e9 w15 ⟨rfl, hb15⟩
                        have hC15 : CI w2 w15 (crow true t1 t2 t3 t4 x' (n + 1) cap') := ⟨HS14.out.1.1.trans (hb15.mono HS14.out.1.1.size), HS14.out.1.2.later hb15⟩
                        have hO15 := HS14.out.2.2.later hb15
                        obtain ⟨W16, st131, hB16, hT16⟩ := refillT (cs := mrow e.mo e.mv e.sum) 27 (HS14.out.2.1.later hb15) rfl (by kernel_rfl) (mrow_one _ _ _)
                        have hgmx := HGM.out
                        have HC16 : Hid (CI w2 W16 (crow true t1 t2 t3 t4 x' (n + 1) cap')) := Lib.hid ⟨hC15.1.trans (hT16.below (fun q hq => by omega) hC15.1.size), hC15.2.turned hT16 (by omega)⟩
                        have HO16 := Lib.hid (hO15.turned hT16 (fun q hq h => by omega))
                        have HB16 := Lib.hid hB16
                        have st131 := Lib.hid st131
                        clear hb15 hC15 hO15 hB16 hT16 hgmx gc5
                        go_wp2_with (first | (guard_target =~ wpList _ _ _ (⟨_, Op.store _ (Operand.tmp 11) (Operand.tmp 131), _, _, _, _⟩ :: _) _ _; refine wpList_store_eq 27 (Operand.tmp 11) (Operand.tmp 131) rfl rfl st131.out rfl rfl ?_))
                        try simp only [Act.put, List.setIfInBounds_toArray, List.set_cons_zero, List.set_cons_succ]
                        go_roundw
                        case rel => exact ⟨f, e.mo, e.mv, e.sum, E ++ [e], x', cap', by simp [← HNE.out]; omega, HRUN.out.trans HRD.out, by rw [show (E ++ [e]).length = n + 1 by simp [HNE.out]]; exact HC16.out, HB16.out, by rw [show (E ++ [e]).length = n + 1 by simp [HNE.out]]; have := HO16.out; rw [rcells_snoc] at this; simpa using this, mo_ok e⟩
                        case measure =>
                          rw [lenAt_of HC16.out.2, lenAt_of HCI.out.2]
                          omega
                    · have q3n : (sp != s) = true := by simpa using q3
                      have q3b : (sp == s) = false := beq_eq_false_iff_ne.2 q3
                      have hci := HS10.out.1
                      have lF := Lib.hid (c_load hci.2)
                      obtain ⟨W9, st9, hB9, hT9⟩ := refillT (cs := crow true t1 t2 t3 t4 ea n cap3) 30 (H2.out.2.1.later hci.1) rfl (by kernel_rfl) (crow_one _ _ _ _ _ _ _ _)
                      have st9 := Lib.hid st9
                      have HB9 := Lib.hid hB9
                      have HBE9 : Hid (Below w.heap.size w W9) := Lib.hid ((H2.out.1.trans (hci.1.mono H2.out.1.size)).trans (hT9.below (fun q hq => by omega) (Nat.le_trans H2.out.1.size hci.1.size)))
                      have HO9 := Lib.hid ((HS10.out.2.2.mono (Y' := fun q => gm < q) (fun q hq => hq.1)).turned hT9 (fun q hq h => by have := HGM.out; have := H2.out.2.1.1; omega))
                      have HRN := Lib.hid (show runC l false (f + 1) o su s E = some E by rw [HRC.out]; exact if_pos (.inr (.inr (.inr q3))))
                      clear hB9 hT9 hci
                      go_wp2_with (first | (guard_target =~ wpList _ _ _ (⟨_, Op.store _ (Operand.tmp 12) (Operand.tmp 84), _, _, _, _⟩ :: _) _ _; refine wpList_store_eq 38 (Operand.tmp 12) (Operand.tmp 84) rfl rfl st12.out rfl rfl ?_) | (guard_target =~ wpList _ _ _ (⟨_, Op.load _ (Operand.tmp 8), _, _, _, _⟩ :: _) _ _; refine wpList_load_eq 30 (Operand.tmp 8) rfl rfl lF.out rfl ?_) | (guard_target =~ wpList _ _ _ (⟨_, Op.store _ (Operand.tmp 4) (Operand.tmp 132), _, _, _, _⟩ :: _) _ _; refine wpList_store_eq 30 (Operand.tmp 4) (Operand.tmp 132) rfl rfl st9.out rfl rfl ?_))
                      exact bodyPost_ret (results_choose rfl HB9.out) rfl (cpost_of (by rw [HCL.out, HRUN.out, HRN.out]; rfl) HNE.out HO9.out HBE9.out)
                  · have q2n : (su != v) = true := by simpa using q2
                    have q2b : (su == v) = false := beq_eq_false_iff_ne.2 q2
                    have hci := HS10.out.1
                    have lF := Lib.hid (c_load hci.2)
                    obtain ⟨W9, st9, hB9, hT9⟩ := refillT (cs := crow true t1 t2 t3 t4 ea n cap3) 30 (H2.out.2.1.later hci.1) rfl (by kernel_rfl) (crow_one _ _ _ _ _ _ _ _)
                    have st9 := Lib.hid st9
                    have HB9 := Lib.hid hB9
                    have HBE9 : Hid (Below w.heap.size w W9) := Lib.hid ((H2.out.1.trans (hci.1.mono H2.out.1.size)).trans (hT9.below (fun q hq => by omega) (Nat.le_trans H2.out.1.size hci.1.size)))
                    have HO9 := Lib.hid ((HS10.out.2.2.mono (Y' := fun q => gm < q) (fun q hq => hq.1)).turned hT9 (fun q hq h => by have := HGM.out; have := H2.out.2.1.1; omega))
                    have HRN := Lib.hid (show runC l false (f + 1) o v s E = some E by rw [HRC.out]; exact if_pos (.inr (.inr (.inl q2))))
                    clear hB9 hT9 hci
                    go_wp2_with (first | (guard_target =~ wpList _ _ _ (⟨_, Op.store _ (Operand.tmp 12) (Operand.tmp 84), _, _, _, _⟩ :: _) _ _; refine wpList_store_eq 38 (Operand.tmp 12) (Operand.tmp 84) rfl rfl st12.out rfl rfl ?_) | (guard_target =~ wpList _ _ _ (⟨_, Op.load _ (Operand.tmp 8), _, _, _, _⟩ :: _) _ _; refine wpList_load_eq 30 (Operand.tmp 8) rfl rfl lF.out rfl ?_) | (guard_target =~ wpList _ _ _ (⟨_, Op.store _ (Operand.tmp 4) (Operand.tmp 132), _, _, _, _⟩ :: _) _ _; refine wpList_store_eq 30 (Operand.tmp 4) (Operand.tmp 132) rfl rfl st9.out rfl rfl ?_))
                    exact bodyPost_ret (results_choose rfl HB9.out) rfl (cpost_of (by rw [HCL.out, HRUN.out, HRN.out]; rfl) HNE.out HO9.out HBE9.out)
                · have q0n : (so != o + 1) = true := by simpa using q0
                  have q0b : (so == o + 1) = false := beq_eq_false_iff_ne.2 q0
                  have hci := HS10.out.1
                  have lF := Lib.hid (c_load hci.2)
                  obtain ⟨W9, st9, hB9, hT9⟩ := refillT (cs := crow true t1 t2 t3 t4 ea n cap3) 30 (H2.out.2.1.later hci.1) rfl (by kernel_rfl) (crow_one _ _ _ _ _ _ _ _)
                  have st9 := Lib.hid st9
                  have HB9 := Lib.hid hB9
                  have HBE9 : Hid (Below w.heap.size w W9) := Lib.hid ((H2.out.1.trans (hci.1.mono H2.out.1.size)).trans (hT9.below (fun q hq => by omega) (Nat.le_trans H2.out.1.size hci.1.size)))
                  have HO9 := Lib.hid ((HS10.out.2.2.mono (Y' := fun q => gm < q) (fun q hq => hq.1)).turned hT9 (fun q hq h => by have := HGM.out; have := H2.out.2.1.1; omega))
                  have HRN := Lib.hid (show runC l false (f + 1) o v s E = some E by rw [HRC.out]; exact if_pos (.inr (.inl q0)))
                  clear hB9 hT9 hci
                  go_wp2_with (first | (guard_target =~ wpList _ _ _ (⟨_, Op.store _ (Operand.tmp 12) (Operand.tmp 84), _, _, _, _⟩ :: _) _ _; refine wpList_store_eq 38 (Operand.tmp 12) (Operand.tmp 84) rfl rfl st12.out rfl rfl ?_) | (guard_target =~ wpList _ _ _ (⟨_, Op.load _ (Operand.tmp 8), _, _, _, _⟩ :: _) _ _; refine wpList_load_eq 30 (Operand.tmp 8) rfl rfl lF.out rfl ?_) | (guard_target =~ wpList _ _ _ (⟨_, Op.store _ (Operand.tmp 4) (Operand.tmp 132), _, _, _, _⟩ :: _) _ _; refine wpList_store_eq 30 (Operand.tmp 4) (Operand.tmp 132) rfl rfl st9.out rfl rfl ?_))
                  exact bodyPost_ret (results_choose rfl HB9.out) rfl (cpost_of (by rw [HCL.out, HRUN.out, HRN.out]; rfl) HNE.out HO9.out HBE9.out)
            · have hn8i : ¬ (n : Int) < 8 := by omega
              obtain rfl : f = 0 := by omega
              clear hrun hci hgm hO
              have hci := HCI.out
              have lF := Lib.hid (c_load hci.2)
              obtain ⟨W9, st9, hB9, hT9⟩ := refillT (cs := crow true t1 t2 t3 t4 ea n cap3) 30 (H2.out.2.1.later hci.1) rfl (by kernel_rfl) (crow_one _ _ _ _ _ _ _ _)
              have st9 := Lib.hid st9
              have HB9 := Lib.hid hB9
              have HBE9 : Hid (Below w.heap.size w W9) := Lib.hid ((H2.out.1.trans (hci.1.mono H2.out.1.size)).trans (hT9.below (fun q hq => by omega) (Nat.le_trans H2.out.1.size hci.1.size)))
              have HO9 := Lib.hid ((HO.out.mono (Y' := fun q => gm < q) (fun q hq => hq)).turned hT9 (fun q hq h => by have := HGM.out; have := H2.out.2.1.1; omega))
              have HRN := Lib.hid (show runC l false 0 o v s E = some E from rfl)
              clear hB9 hT9 hci
              go_wp2_with (first | (guard_target =~ wpList _ _ _ (⟨_, Op.load _ (Operand.tmp 8), _, _, _, _⟩ :: _) _ _; refine wpList_load_eq 30 (Operand.tmp 8) rfl rfl lF.out rfl ?_) | (guard_target =~ wpList _ _ _ (⟨_, Op.store _ (Operand.tmp 4) (Operand.tmp 132), _, _, _, _⟩ :: _) _ _; refine wpList_store_eq 30 (Operand.tmp 4) (Operand.tmp 132) rfl rfl st9.out rfl rfl ?_))
              exact bodyPost_ret (results_choose rfl HB9.out) rfl (cpost_of (by rw [HCL.out, HRUN.out, HRN.out]; rfl) HNE.out HO9.out HBE9.out)

  · rw [hd] at HCN
    have HZ : Hid (chooseL n l = Cst.zero) := Lib.hid (chooseL_stop ⟨decide_eq_false (by rw [← HK.out]; exact HWH.out), .inl hd⟩)
    have HD := Lib.hid hd
    clear hd
    go_wp2_with fail
    refine HCN.out.mono ?_
    rintro e w2 ⟨rfl, hb2⟩
    have H2 : Hid (Below w.heap.size w w2 ∧ Blk w2 w.heap.size (crow false 0 0 0 0 none 0 0)) := Lib.hid ⟨H1.out.1.trans (hb2.mono H1.out.1.size), H1.out.2.later hb2⟩
    clear hb2 H1 HLA HCN
    obtain ⟨W9, st9, hB9, hT9⟩ := refillT (cs := crow false 0 0 0 0 none 0 0) 30 H2.out.2 rfl (by kernel_rfl) (crow_one _ _ _ _ _ _ _ _)
    have st9 := Lib.hid st9
    have HB9 := Lib.hid hB9
    have HBE9 : Hid (Below w.heap.size w W9) := Lib.hid (H2.out.1.trans (hT9.below (fun q hq => by omega) H2.out.1.size))
    clear hB9 hT9
    go_wp2_with (first | (guard_target =~ wpList _ _ _ (⟨_, Op.store _ (Operand.tmp 4) (Operand.tmp 40), _, _, _, _⟩ :: _) _ _; refine wpList_store_eq 30 (Operand.tmp 4) (Operand.tmp 40) rfl rfl st9.out rfl rfl ?_))
    exact bodyPost_ret (results_choose rfl HB9.out) rfl (cpost_zero HZ.out HBE9.out)

end Go.Proofs.YtpbjjmenkoigjaaDoor

/- The walk of ChooseLong at 3 replicas. -/
import Derived.Test.YtpbjjmenkoigjaaDoorMgLawChooseLongLAA
namespace Go.Proofs.YtpbjjmenkoigjaaDoor
open Go.RowKit
set_option linter.unusedVariables false
set_option maxRecDepth 100000 in
set_option maxHeartbeats 40000000 in
theorem long_main3 (ad1 ad2 : Option Addr) (cap1 cap2 : Nat) (E0 : List Est) (H : List Int) (view : Int) (w : World) (hr : RowsAt 9 w ad1 (E0.map Est.row)) (hc1 : E0.length ≤ cap1) (hok : ∀ e ∈ E0, e.Ok) (hr2 : RowsAt 1 w ad2 (H.map (fun x => #[.int .i64 x]))) (hc2 : H.length ≤ cap2) (hl1 : E0.length ≤ 9223372036854775807) (hl2 : H.length ≤ 9223372036854775807) (hg : Gl w) (h8 : E0.length ≤ 8) (hv : 0 ≤ view ∧ view ≤ 72057594037927935) : Calls Tryd.prog 7 #[.int .i64 3, .slice ad1 E0.length cap1, .slice ad2 H.length cap2, .int .i64 view] w fun e w' => e = .returned (.bool true) ∧ Below w.heap.size w w' := by
  have HAW := Lib.hid (awake18_any w hg)
  have HR := Lib.hid hr
  have HR2 := Lib.hid hr2
  have HV := Lib.hid hv
  obtain ⟨hv0, hv1⟩ := hv
  have HOK := Lib.hid hok
  have HG := Lib.hid hg
  obtain ⟨N, hN⟩ : ∃ N, N = E0.length := ⟨_, rfl⟩
  obtain ⟨M, hM⟩ : ∃ M, M = H.length := ⟨_, rfl⟩
  have HN := Lib.hid hN
  have HM := Lib.hid hM
  rw [← hN] at hc1 hl1 h8 ⊢
  rw [← hM] at hc2 hl2 ⊢
  clear hr hr2 hok hg hN hM
  go_enter Tryd.func7, Tryd.ntmps7
  go_wp2_with fail
  refine HAW.out.mono ?_
  rintro e w1 ⟨rfl, hb1⟩
  have HB1 := Lib.hid hb1
  clear hb1 HAW
  obtain ⟨w5, st5, hW5, hB5, hz5⟩ := fresh w1 #[.int .i64 0, .int .i64 0, .int .u64 0] (mrow 0 0 0) 27 rfl (by kernel_rfl) (mrow_one _ _ _)
  have HB5 := Lib.hid (And.intro (HB1.out.trans (hW5.mono HB1.out.size)) hB5)
  have st5 := Lib.hid st5
  have HP9 : Hid (w.heap.size ≤ w1.heap.size) := Lib.hid HB1.out.size
  clear hW5 hB5 hz5
  go_wp2_with (first | (guard_target =~ wpList _ _ _ (⟨_, Op.store _ (Operand.tmp 9) (Operand.tmp 46), _, _, _, _⟩ :: _) _ _; refine wpList_store_eq 27 (Operand.tmp 9) (Operand.tmp 46) rfl rfl st5.out rfl rfl ?_))
  clear st5
  generalize w1.heap.size = p9 at *
  have HS6 : Hid (Below w.heap.size w (w5.alloc (.cells #[] 35)) ∧ Blk (w5.alloc (.cells #[] 35)) p9 (mrow 0 0 0) ∧ OwnC (fun q => w.heap.size ≤ q ∧ q ≠ p9) (w5.alloc (.cells #[] 35)) (.slice (some ⟨w5.heap.size, 0, none⟩) 0 0) 0 9 []) := Lib.hid ⟨HB5.out.1.alloc HB5.out.1.size _, HB5.out.2.alloc _, OwnC.empty _ _ _ ⟨HB5.out.1.size, by have := HB5.out.2.1; omega⟩ (by simp)⟩
  clear HB5
  generalize w5.heap.size = p10 at *
  generalize w5.alloc (.cells #[] 35) = w6 at *
  go_loopw [10, 11] (fun lv iv wr => ∃ (E : List Est) (ad : Option Addr) (cap : Nat), E.length ≤ N ∧ iv = .int .i64 (E.length : Int) ∧ lv = .slice ad E.length cap ∧ Chained E ∧ (∀ e ∈ E, e.Ok) ∧ (0 ≤ (markAt (0, 0, 0) E E.length).2.2 ∧ (markAt (0, 0, 0) E E.length).2.2 ≤ 18446744073709551615) ∧
    Below w.heap.size w wr ∧ Blk wr p9 (mrow (markAt (0, 0, 0) E E.length).1 (markAt (0, 0, 0) E E.length).2.1 (markAt (0, 0, 0) E E.length).2.2) ∧ OwnC (fun q => w.heap.size ≤ q ∧ q ≠ p9) wr (.slice ad E.length cap) E.length 9 (rcells (E.map Est.row))) (fun _ iv _ => N - (intOf iv).toNat)
  case atStart => exact ⟨[], some ⟨p10, 0, none⟩, 0, Nat.zero_le _, rfl, rfl, chained_nil, (fun e he => by cases he), ⟨by decide, by decide⟩, HS6.out.1, HS6.out.2.1, HS6.out.2.2⟩
  case round =>
    clear HS6
    obtain ⟨E, ad, cap, hj, rfl, rfl, hch, heok, hms, hbw, hB, hO⟩ := hrel
    have HCH := Lib.hid hch
    have HEOK := Lib.hid heok
    by_cases hlt : E.length < N
    · have hop := chained_op hch E.length (Nat.le_refl _)
      obtain ⟨j, hjE⟩ : ∃ j, j = E.length := ⟨_, rfl⟩
      have HJ := Lib.hid hjE
      obtain ⟨e, he⟩ : ∃ e, E0[j]? = some e := ⟨E0[j]'(by rw [hjE, ← HN.out]; exact hlt), List.getElem?_eq_getElem _⟩
      have heo : e.Ok := HOK.out e (List.mem_of_getElem? he)
      have HMK9 : Hid (∀ x, x.fol (markAt (0, 0, 0) E E.length).1 (markAt (0, 0, 0) E E.length).2.1 (markAt (0, 0, 0) E E.length).2.2 = true → Chained (E ++ [x])) := Lib.hid (fun x hx => chained_snoc hch hx)
      have HSF := Lib.hid (fun h => step_fol (M := markAt (0, 0, 0) E E.length) (e := e) h)
      have HSN := Lib.hid (fun x => markAt_snoc (0, 0, 0) E x)
      obtain ⟨x, hx⟩ : ∃ x, x = stepE (markAt (0, 0, 0) E E.length) e := ⟨_, rfl⟩
      rw [← hx] at HSF
      have hxv : x = ⟨max e.v (markAt (0, 0, 0) E E.length).2.1, (markAt (0, 0, 0) E E.length).1 + 1, (markAt (0, 0, 0) E E.length).2.1, (markAt (0, 0, 0) E E.length).2.2, e.c, e.s, e.r, e.k, e.b⟩ := hx
      clear hx
      generalize (markAt (0, 0, 0) E E.length).1 = mo at *
      generalize (markAt (0, 0, 0) E E.length).2.1 = mv at *
      generalize (markAt (0, 0, 0) E E.length).2.2 = ms at *
      rw [← hjE] at hlt hj hop hO HSN ⊢
      have hxok : x.Ok := by rw [hxv]; exact ⟨⟨by show _ ≤ mo + 1; omega, by show mo + 1 ≤ _; omega⟩, hms⟩
      obtain ⟨y, hy⟩ : ∃ y : Est, y = ⟨e.v, mo + 1, mv, ms, e.c, e.s, e.r, e.k, e.b⟩ := ⟨_, rfl⟩
      have HX : Hid (x.row = y.row.setIfInBounds 0 (.int .i64 (max y.v y.u))) := Lib.hid (by rw [hxv, hy]; rfl)
      have HNX : Hid (∀ W, Calls Tryd.prog 19 #[.agg (mrow mo mv ms), .agg e.row] W fun z w' => z = .returned (.agg y.row) ∧ Below W.heap.size W w') := Lib.hid (fun W => by
        have := next_any mo mv ms e.v e.o e.u e.p e.c e.s e.r e.k e.b W
        rw [nextOp_in mo e.o ⟨by omega, by omega⟩] at this
        rw [hy]
        exact this)
      have HRT := Lib.hid (fun W => entright_any x.v x.o x.u x.p x.c x.s x.r x.k x.b W)
      have HMK := Lib.hid (fun W => markof_any x.v x.o x.u x.c x.s x.r x.k x.p x.b hxok.2 W)
      have HXOK := Lib.hid hxok
      obtain ⟨b, off, had, hbl, hra⟩ := HR.out.range (i := j) (x := e.row) (by rw [List.getElem?_map, he]; rfl)
      subst had
      have HLE : Hid (∀ W, Below w.heap.size w W → (Instr.loadAt 35 (.pointer (some ⟨b, off + j * 9, none⟩))).run Tryd.prog W = .ok (.agg e.row) W) := Lib.hid (fun W hW => load_at 35 _ (rangeAt.later hra hbl hW) Tryd.underlying35 rfl (by kernel_rfl))
      have hc := hO.capped
      have hs0 : ∃ s0, s0 = wr.heap.size := ⟨_, rfl⟩
      obtain ⟨s0, hs0⟩ := hs0
      rw [← hs0] at hc
      have HSR : Hid (LoA w wr p9 s0 (mrow mo mv ms) (fun q => (w.heap.size ≤ q ∧ q ≠ p9) ∧ q < s0) (.slice ad j cap) j (rcells (E.map Est.row))) := Lib.hid ⟨hbw, hB, hc, by omega⟩
      have hlti : (j : Int) < (N : Int) := by omega
      clear hra hbl he heo hxv hy hms hxok hc hO hB hbw hjE hch heok hs0 hop
      go_wp2_with fail
      refine wp_region_noPanic ?_
      refine wp_region_held_drew (S := fun W => LoA w W p9 s0 (mrow mo mv ms) (fun q => (w.heap.size ≤ q ∧ q ≠ p9) ∧ q < s0) (.slice ad j cap) j (rcells (E.map Est.row))) (by kernel_rfl) (show LoA w wr.drew p9 s0 (mrow mo mv ms) (fun q => (w.heap.size ≤ q ∧ q ≠ p9) ∧ q < s0) (.slice ad j cap) j (rcells (E.map Est.row)) from HSR.out.later (Below.refl _ _).drew) (fun hS => ?_)
      generalize wr.drew = cw at *
      refine wpAnyH_take (i := 0) (oi := { dst := some 54, op := _, type := _, pos := _, after := _, guard := _ }) (v := .agg (mrow mo mv ms)) rfl (by kernel_rfl) (by kernel_rfl) (by kernel_rfl) (fun _ _ _ h => h) (Or.inl ⟨by rfl, ?_⟩) hS ?_
      · intro W hSw
        skip
        exact exec_load 27 (Operand.tmp 9) rfl rfl (mk_load hSw.mkb)
      try simp only [Act.put, List.setIfInBounds_toArray, List.set_cons_zero, List.set_cons_succ]
      refine wpAnyH_take (i := 1) (oi := { dst := some 55, op := _, type := _, pos := _, after := _, guard := _ }) (v := ?_) rfl (by kernel_rfl) (by kernel_rfl) (by kernel_rfl) (fun _ _ _ h => h) (Or.inl ⟨by rfl, ?_⟩) hS ?_
      rotate_left
      · intro W hSw
        skip
        go_simp
        first | done | rfl
      try simp only [Act.put, List.setIfInBounds_toArray, List.set_cons_zero, List.set_cons_succ]
      refine wpAnyH_take (i := 2) (oi := { dst := some 56, op := _, type := _, pos := _, after := _, guard := _ }) (v := ?_) rfl (by kernel_rfl) (by kernel_rfl) (by kernel_rfl) (fun _ _ _ h => h) (Or.inl ⟨by rfl, ?_⟩) hS ?_
      rotate_left
      · intro W hSw
        skip
        go_simp
        first | done | rfl
      try simp only [Act.put, List.setIfInBounds_toArray, List.set_cons_zero, List.set_cons_succ]
      refine wpAnyH_take (i := 3) (oi := { dst := some 57, op := _, type := _, pos := _, after := _, guard := _ }) (v := ?_) rfl (by kernel_rfl) (by kernel_rfl) (by kernel_rfl) (fun _ _ _ h => h) (Or.inl ⟨by rfl, ?_⟩) hS ?_
      rotate_left
      · intro W hSw
        skip
        go_simp
        first | done | rfl
      try simp only [Act.put, List.setIfInBounds_toArray, List.set_cons_zero, List.set_cons_succ]
      refine wpAnyH_take (i := 4) (oi := { dst := some 58, op := _, type := _, pos := _, after := _, guard := _ }) (v := .agg e.row) rfl (by kernel_rfl) (by kernel_rfl) (by kernel_rfl) (fun _ _ _ h => h) (Or.inl ⟨by rfl, ?_⟩) hS ?_
      · intro W hSw
        skip
        exact exec_load 35 (Operand.tmp 57) rfl rfl (HLE.out W hSw.below)
      try simp only [Act.put, List.setIfInBounds_toArray, List.set_cons_zero, List.set_cons_succ]
      refine wpAnyH_ready (rs := [5, 6]) (by kernel_rfl) (by simp) ?_
      refine AllReadyH.cons (o := { dst := some 59, op := _, type := _, pos := _, after := _, guard := _ }) rfl (fun K hK => ?_) ?_
      · go_simp
        refine (HNX.out _).mono ?_
        rintro ev cw ⟨rfl, hb⟩
        replace hS := hS.later hb
        clear hb
        refine hK.out _ _ hS (fun _ => ?_)
        clear hK K
        try simp only [Act.put, List.setIfInBounds_toArray, List.set_cons_zero, List.set_cons_succ]
        refine wpAnyH_ready (rs := [6]) (by kernel_rfl) (by simp) ?_
        refine AllReadyH.cons (o := { dst := some 12, op := _, type := _, pos := _, after := _, guard := _ }) rfl (fun K hK => ?_) AllReadyH.nil
        have hb : Below cw.heap.size cw (cw.alloc (.cells #[.int .i64 0, .int .i64 0, .int .i64 0, .int .u64 0, .int .i64 0, .int .i64 0, .int .i64 0, .int .i64 0, .string ⟨#[]⟩] 35)) := (Below.refl cw.heap.size cw).alloc (Nat.le_refl _) _
        have hA : Blk (cw.alloc (.cells #[.int .i64 0, .int .i64 0, .int .i64 0, .int .u64 0, .int .i64 0, .int .i64 0, .int .i64 0, .int .i64 0, .string ⟨#[]⟩] 35)) cw.heap.size #[.int .i64 0, .int .i64 0, .int .i64 0, .int .u64 0, .int .i64 0, .int .i64 0, .int .i64 0, .int .i64 0, .string ⟨#[]⟩] := Blk.new _ _ _ _ rfl
        have hp := And.intro hS.mkb.1 (And.intro hS.sz hS.below.size)
        replace hS := hS.later hb
        go_simp
        generalize cw.heap.size = p12 at hA hp ⊢
        generalize cw.alloc (.cells #[.int .i64 0, .int .i64 0, .int .i64 0, .int .u64 0, .int .i64 0, .int .i64 0, .int .i64 0, .int .i64 0, .string ⟨#[]⟩] 35) = cw at *
        clear hb
        refine hK.out _ _ hS (fun _ => ?_)
        clear hK K
        try simp only [Act.put, List.setIfInBounds_toArray, List.set_cons_zero, List.set_cons_succ]
        refine wpAnyH_ready (rs := [7]) (by kernel_rfl) (by simp) ?_
        refine AllReadyH.cons (o := { dst := none, op := _, type := _, pos := _, after := _, guard := _ }) rfl (fun K hK => ?_) AllReadyH.nil
        obtain ⟨cw, st6, hB12, hT12⟩ := refillT (cs := y.row) 35 hA rfl (by kernel_rfl) (Est.row_one _)
        have hpz := hp.2.1
        have hpz2 := hp.2.2
        replace hS := hS.turned hT12 hpz2 (Nat.ne_of_lt hp.1) (fun q hq => by have := hq.2; omega)
        refine wp_store_eq 35 (Operand.tmp 12) (Operand.tmp 59) rfl st6 rfl rfl ?_
        clear hT12 hA
        refine hK.out _ _ hS (fun _ => ?_)
        clear hK K
        try simp only [Act.put]
        refine wpAnyH_done (by kernel_rfl) ?_ _
        refine NoPanic.normal ?_
        have d0 : cw.cell? ⟨p12, 0, none⟩ = some (.int .i64 y.v) := (hB12.2 0 _ rfl).1
        have d2 : cw.cell? ⟨p12, 2, none⟩ = some (.int .i64 y.u) := (hB12.2 2 _ rfl).1
        obtain ⟨w5, st5, hB5, hT5⟩ := pokeT (i := 0) (v := .int .i64 (max y.v y.u)) 3 hB12 (show 0 < 9 by decide) (by kernel_rfl) (.inl ⟨_, _, rfl⟩)
        have HS5 := Lib.hid (hS.turned hT5 hpz2 (Nat.ne_of_lt hp.1) (fun q hq => by have := hq.2; omega))
        have HB5 : Hid (Blk w5 p12 x.row) := Lib.hid (by rw [HX.out]; exact hB5)
        have st5 := Lib.hid st5
        have l66 := Lib.hid (su_load HB5.out)
        clear hS hB12 hB5 hT5
        go_wp2_with (first | (guard_target =~ wpList _ _ _ (⟨_, Op.store _ (Operand.tmp 65) (Operand.tmp 64), _, _, _, _⟩ :: _) _ _; refine wpList_store_eq 3 (Operand.tmp 65) (Operand.tmp 64) rfl rfl st5.out rfl rfl ?_) | (guard_target =~ wpList _ _ _ (⟨_, Op.load _ (Operand.tmp 12), _, _, _, _⟩ :: _) _ _; refine wpList_load_eq 35 (Operand.tmp 12) rfl rfl l66.out rfl ?_) | (guard_target =~ wpList _ _ _ (⟨_, Op.load _ (Operand.tmp 12), _, _, _, _⟩ :: _) _ _; refine wpList_load_w 35 (Operand.tmp 12) (by kernel_rfl) rfl l66.out rfl ?_))
        refine (HRT.out _).mono ?_
        rintro ev w7 ⟨rfl, hb7⟩
        have HS7 := Lib.hid (HS5.out.later hb7)
        have HB7 := Lib.hid (HB5.out.later hb7)
        have l69 := Lib.hid (su_load HB7.out)
        clear hb7 HS5 HB5 st5 l66 d0 d2
        rw [show entB x.v x.o x.u x.c x.s x.r x.k x.b = x.B from rfl]
        cases hXB : x.B
        · go_wp2_with fail
          go_ret
          exact ⟨rfl, HS7.out.below⟩
        · have HXF := Lib.hid (HSF.out hXB)
          have HP12 := Lib.hid hp
          clear hXB hp hpz hpz2
          go_wp2_with (first | (guard_target =~ wpList _ _ _ (⟨_, Op.load _ (Operand.tmp 12), _, _, _, _⟩ :: _) _ _; refine wpList_load_eq 35 (Operand.tmp 12) rfl rfl l69.out rfl ?_) | (guard_target =~ wpList _ _ _ (⟨_, Op.load _ (Operand.tmp 12), _, _, _, _⟩ :: _) _ _; refine wpList_load_w 35 (Operand.tmp 12) (by kernel_rfl) rfl l69.out rfl ?_))
          refine (HMK.out _).mono ?_
          rintro ev w8 ⟨rfl, hb8⟩
          have hS8 := HS7.out.later hb8
          obtain ⟨w9, st9, hB9, hT9⟩ := refillT (cs := mrow x.mo x.mv x.sum) 27 hS8.mkb rfl (by kernel_rfl) (mrow_one _ _ _)
          have hS9 := hS8.mark hT9 HP9.out hB9 (fun q hq => hq.1.2)
          have hB9x : Blk w9 p12 x.row := (HB7.out.later hb8).turned hT9 (Nat.ne_of_gt HP12.out.1)
          have l72 := Lib.hid (su_load hB9x)
          obtain ⟨x', cap', w10, happ, hO10, hT10⟩ := run_ent x hS9.own (by omega)
          have hg9 := hB9.1
          have hw9 := hS9.below.size
          have HO10 : Hid (OwnC (fun q => w.heap.size ≤ q ∧ q ≠ p9) w10 (.slice x' (j + 1) cap') (j + 1) 9 (rcells (E.map Est.row) ++ x.row.toList)) := Lib.hid (hO10.mono (fun q hq => by rcases hq with h | h; exact h.1; exact ⟨by omega, by omega⟩))
          have HB10 : Hid (Blk w10 p9 (mrow x.mo x.mv x.sum)) := Lib.hid (hB9.turned hT10 (fun h => h.1.2 rfl))
          have HBW10 : Hid (Below w.heap.size w w10) := Lib.hid (hS9.below.trans (hT10.below (fun q hq => hq.1.1) hS9.below.size))
          have st9 := Lib.hid st9
          have happ := Lib.hid happ
          clear hb8 hS8 hB9 hT9 hS9 hB9x hO10 hT10 hg9 hw9 HS7 HB7
          go_wp2_with (first | (guard_target =~ wpList _ _ _ (⟨_, Op.store _ (Operand.tmp 9) (Operand.tmp 70), _, _, _, _⟩ :: _) _ _; refine wpList_store_eq 27 (Operand.tmp 9) (Operand.tmp 70) rfl rfl st9.out rfl rfl ?_) | (guard_target =~ wpList _ _ _ (⟨_, Op.load _ (Operand.tmp 12), _, _, _, _⟩ :: _) _ _; refine wpList_load_eq 35 (Operand.tmp 12) rfl rfl l72.out rfl ?_) | (guard_target =~ wpList _ _ _ (⟨_, Op.load _ (Operand.tmp 12), _, _, _, _⟩ :: _) _ _; refine wpList_load_w 35 (Operand.tmp 12) (by kernel_rfl) rfl l72.out rfl ?_) | (guard_target =~ wpList _ _ _ (⟨_, Op.buildSlice _ 1 _, _, _, _, _⟩ :: _) _ _; refine wpList_bslice_eq 28 (Operand.tmp 72) rfl rfl rfl (bslice_ent x _) ?_) | (guard_target =~ wpList _ _ _ (⟨_, Op.call { callee := Callee.builtin Builtin.append, args := _, argTypes := _ }, _, _, _, _⟩ :: _) _ _; refine wpList_app_eq 28 (Operand.tmp 71) (Operand.tmp 73) rfl rfl rfl rfl rfl happ.out ?_))
          go_roundw
          case rel =>
            have hlen : (E ++ [x]).length = j + 1 := by rw [List.length_append, ← HJ.out]; rfl
            refine ⟨E ++ [x], x', cap', ?_⟩
            rw [hlen, HSN.out x]
            exact ⟨by omega, by go_num, rfl, HMK9.out x HXF.out, fun z hz => by rcases List.mem_append.1 hz with q | q; exact HEOK.out z q; rw [List.mem_singleton.1 q]; exact HXOK.out, sum_ok x HXOK.out.2, HBW10.out, HB10.out, by have := HO10.out; rw [rcells_snoc] at this; rw [List.map_append]; exact this⟩
          case measure => simp [intOf]; omega
      refine AllReadyH.cons (o := { dst := some 12, op := _, type := _, pos := _, after := _, guard := _ }) rfl (fun K hK => ?_) ?_
      · have hb : Below cw.heap.size cw (cw.alloc (.cells #[.int .i64 0, .int .i64 0, .int .i64 0, .int .u64 0, .int .i64 0, .int .i64 0, .int .i64 0, .int .i64 0, .string ⟨#[]⟩] 35)) := (Below.refl cw.heap.size cw).alloc (Nat.le_refl _) _
        have hA : Blk (cw.alloc (.cells #[.int .i64 0, .int .i64 0, .int .i64 0, .int .u64 0, .int .i64 0, .int .i64 0, .int .i64 0, .int .i64 0, .string ⟨#[]⟩] 35)) cw.heap.size #[.int .i64 0, .int .i64 0, .int .i64 0, .int .u64 0, .int .i64 0, .int .i64 0, .int .i64 0, .int .i64 0, .string ⟨#[]⟩] := Blk.new _ _ _ _ rfl
        have hp := And.intro hS.mkb.1 (And.intro hS.sz hS.below.size)
        replace hS := hS.later hb
        go_simp
        generalize cw.heap.size = p12 at hA hp ⊢
        generalize cw.alloc (.cells #[.int .i64 0, .int .i64 0, .int .i64 0, .int .u64 0, .int .i64 0, .int .i64 0, .int .i64 0, .int .i64 0, .string ⟨#[]⟩] 35) = cw at *
        clear hb
        refine hK.out _ _ hS (fun _ => ?_)
        clear hK K
        try simp only [Act.put, List.setIfInBounds_toArray, List.set_cons_zero, List.set_cons_succ]
        refine wpAnyH_ready (rs := [5]) (by kernel_rfl) (by simp) ?_
        refine AllReadyH.cons (o := { dst := some 59, op := _, type := _, pos := _, after := _, guard := _ }) rfl (fun K hK => ?_) AllReadyH.nil
        go_simp
        refine (HNX.out _).mono ?_
        rintro ev cw ⟨rfl, hb⟩
        replace hA := hA.later hb
        replace hS := hS.later hb
        clear hb
        refine hK.out _ _ hS (fun _ => ?_)
        clear hK K
        try simp only [Act.put, List.setIfInBounds_toArray, List.set_cons_zero, List.set_cons_succ]
        refine wpAnyH_ready (rs := [7]) (by kernel_rfl) (by simp) ?_
        refine AllReadyH.cons (o := { dst := none, op := _, type := _, pos := _, after := _, guard := _ }) rfl (fun K hK => ?_) AllReadyH.nil
        obtain ⟨cw, st6, hB12, hT12⟩ := refillT (cs := y.row) 35 hA rfl (by kernel_rfl) (Est.row_one _)
        have hpz := hp.2.1
        have hpz2 := hp.2.2
        replace hS := hS.turned hT12 hpz2 (Nat.ne_of_lt hp.1) (fun q hq => by have := hq.2; omega)
        refine wp_store_eq 35 (Operand.tmp 12) (Operand.tmp 59) rfl st6 rfl rfl ?_
        clear hT12 hA
        refine hK.out _ _ hS (fun _ => ?_)
        clear hK K
        try simp only [Act.put]
        refine wpAnyH_done (by kernel_rfl) ?_ _
        refine NoPanic.normal ?_
        have d0 : cw.cell? ⟨p12, 0, none⟩ = some (.int .i64 y.v) := (hB12.2 0 _ rfl).1
        have d2 : cw.cell? ⟨p12, 2, none⟩ = some (.int .i64 y.u) := (hB12.2 2 _ rfl).1
        obtain ⟨w5, st5, hB5, hT5⟩ := pokeT (i := 0) (v := .int .i64 (max y.v y.u)) 3 hB12 (show 0 < 9 by decide) (by kernel_rfl) (.inl ⟨_, _, rfl⟩)
        have HS5 := Lib.hid (hS.turned hT5 hpz2 (Nat.ne_of_lt hp.1) (fun q hq => by have := hq.2; omega))
        have HB5 : Hid (Blk w5 p12 x.row) := Lib.hid (by rw [HX.out]; exact hB5)
        have st5 := Lib.hid st5
        have l66 := Lib.hid (su_load HB5.out)
        clear hS hB12 hB5 hT5
        go_wp2_with (first | (guard_target =~ wpList _ _ _ (⟨_, Op.store _ (Operand.tmp 65) (Operand.tmp 64), _, _, _, _⟩ :: _) _ _; refine wpList_store_eq 3 (Operand.tmp 65) (Operand.tmp 64) rfl rfl st5.out rfl rfl ?_) | (guard_target =~ wpList _ _ _ (⟨_, Op.load _ (Operand.tmp 12), _, _, _, _⟩ :: _) _ _; refine wpList_load_eq 35 (Operand.tmp 12) rfl rfl l66.out rfl ?_) | (guard_target =~ wpList _ _ _ (⟨_, Op.load _ (Operand.tmp 12), _, _, _, _⟩ :: _) _ _; refine wpList_load_w 35 (Operand.tmp 12) (by kernel_rfl) rfl l66.out rfl ?_))
        refine (HRT.out _).mono ?_
        rintro ev w7 ⟨rfl, hb7⟩
        have HS7 := Lib.hid (HS5.out.later hb7)
        have HB7 := Lib.hid (HB5.out.later hb7)
        have l69 := Lib.hid (su_load HB7.out)
        clear hb7 HS5 HB5 st5 l66 d0 d2
        rw [show entB x.v x.o x.u x.c x.s x.r x.k x.b = x.B from rfl]
        cases hXB : x.B
        · go_wp2_with fail
          go_ret
          exact ⟨rfl, HS7.out.below⟩
        · have HXF := Lib.hid (HSF.out hXB)
          have HP12 := Lib.hid hp
          clear hXB hp hpz hpz2
          go_wp2_with (first | (guard_target =~ wpList _ _ _ (⟨_, Op.load _ (Operand.tmp 12), _, _, _, _⟩ :: _) _ _; refine wpList_load_eq 35 (Operand.tmp 12) rfl rfl l69.out rfl ?_) | (guard_target =~ wpList _ _ _ (⟨_, Op.load _ (Operand.tmp 12), _, _, _, _⟩ :: _) _ _; refine wpList_load_w 35 (Operand.tmp 12) (by kernel_rfl) rfl l69.out rfl ?_))
          refine (HMK.out _).mono ?_
          rintro ev w8 ⟨rfl, hb8⟩
          have hS8 := HS7.out.later hb8
          obtain ⟨w9, st9, hB9, hT9⟩ := refillT (cs := mrow x.mo x.mv x.sum) 27 hS8.mkb rfl (by kernel_rfl) (mrow_one _ _ _)
          have hS9 := hS8.mark hT9 HP9.out hB9 (fun q hq => hq.1.2)
          have hB9x : Blk w9 p12 x.row := (HB7.out.later hb8).turned hT9 (Nat.ne_of_gt HP12.out.1)
          have l72 := Lib.hid (su_load hB9x)
          obtain ⟨x', cap', w10, happ, hO10, hT10⟩ := run_ent x hS9.own (by omega)
          have hg9 := hB9.1
          have hw9 := hS9.below.size
          have HO10 : Hid (OwnC (fun q => w.heap.size ≤ q ∧ q ≠ p9) w10 (.slice x' (j + 1) cap') (j + 1) 9 (rcells (E.map Est.row) ++ x.row.toList)) := Lib.hid (hO10.mono (fun q hq => by rcases hq with h | h; exact h.1; exact ⟨by omega, by omega⟩))
          have HB10 : Hid (Blk w10 p9 (mrow x.mo x.mv x.sum)) := Lib.hid (hB9.turned hT10 (fun h => h.1.2 rfl))
          have HBW10 : Hid (Below w.heap.size w w10) := Lib.hid (hS9.below.trans (hT10.below (fun q hq => hq.1.1) hS9.below.size))
          have st9 := Lib.hid st9
          have happ := Lib.hid happ
          clear hb8 hS8 hB9 hT9 hS9 hB9x hO10 hT10 hg9 hw9 HS7 HB7
          go_wp2_with (first | (guard_target =~ wpList _ _ _ (⟨_, Op.store _ (Operand.tmp 9) (Operand.tmp 70), _, _, _, _⟩ :: _) _ _; refine wpList_store_eq 27 (Operand.tmp 9) (Operand.tmp 70) rfl rfl st9.out rfl rfl ?_) | (guard_target =~ wpList _ _ _ (⟨_, Op.load _ (Operand.tmp 12), _, _, _, _⟩ :: _) _ _; refine wpList_load_eq 35 (Operand.tmp 12) rfl rfl l72.out rfl ?_) | (guard_target =~ wpList _ _ _ (⟨_, Op.load _ (Operand.tmp 12), _, _, _, _⟩ :: _) _ _; refine wpList_load_w 35 (Operand.tmp 12) (by kernel_rfl) rfl l72.out rfl ?_) | (guard_target =~ wpList _ _ _ (⟨_, Op.buildSlice _ 1 _, _, _, _, _⟩ :: _) _ _; refine wpList_bslice_eq 28 (Operand.tmp 72) rfl rfl rfl (bslice_ent x _) ?_) | (guard_target =~ wpList _ _ _ (⟨_, Op.call { callee := Callee.builtin Builtin.append, args := _, argTypes := _ }, _, _, _, _⟩ :: _) _ _; refine wpList_app_eq 28 (Operand.tmp 71) (Operand.tmp 73) rfl rfl rfl rfl rfl happ.out ?_))
          go_roundw
          case rel =>
            have hlen : (E ++ [x]).length = j + 1 := by rw [List.length_append, ← HJ.out]; rfl
            refine ⟨E ++ [x], x', cap', ?_⟩
            rw [hlen, HSN.out x]
            exact ⟨by omega, by go_num, rfl, HMK9.out x HXF.out, fun z hz => by rcases List.mem_append.1 hz with q | q; exact HEOK.out z q; rw [List.mem_singleton.1 q]; exact HXOK.out, sum_ok x HXOK.out.2, HBW10.out, HB10.out, by have := HO10.out; rw [rcells_snoc] at this; rw [List.map_append]; exact this⟩
          case measure => simp [intOf]; omega
      exact AllReadyH.nil

    · have hjN : E.length = N := by omega
      have hO2 := hO
      have hlE : E.length = (E.map Est.row).length := by rw [List.length_map]
      rw [hlE] at hO2
      have hrw := hO2.rowsAt (fun y hy => by obtain ⟨m, _, rfl⟩ := List.mem_map.1 hy; rfl)
      rw [← hlE] at hrw
      have HRE := Lib.hid hrw.1
      have hcE := hrw.2
      have HEB := Lib.hid (chained_B hch)
      have HBW := Lib.hid hbw
      have h8E : E.length ≤ 8 := by omega
      have H8E := Lib.hid h8E
      clear hO hO2 hlE hrw hB hms hch heok
      obtain ⟨n, hn⟩ : ∃ n, n = E.length := ⟨_, rfl⟩
      have HNE := Lib.hid hn
      rw [← hn] at hlt hj hcE hjN h8E ⊢
      clear hn
      subst hjN
      have HLG : Hid (∀ (i t : Nat), t ≤ n → ∀ W, Below wr.heap.size wr W → Calls Tryd.prog 21 #[.int .i64 ((i : Int) + 1), .int .i64 view, .slice ad t cap] W fun e w' => (∃ g lm, e = .returned (.agg (Mst.row lm)) ∧ lm = lgOf E view i (g, t) ∧ RowB 15 w' g (itemsR E (g, t)) ∧ W.heap.size ≤ g) ∧ Below W.heap.size W w') := Lib.hid (fun i t ht W hW => by
        have hlt : (E.take t).length = t := by rw [List.length_take]; have := HNE.out; omega
        have := log_any ((i : Int) + 1) view ad cap (E.take t) W (rowsAt_take t (HRE.out.later hW)) (by omega) (by omega) (fun e he => HEOK.out e (List.mem_of_mem_take he))
        rw [hlt] at this
        refine this.mono ?_
        rintro e w' ⟨⟨g, h1, h2, h3⟩, h4⟩
        refine ⟨⟨g, _, h1, ?_, ?_, h3⟩, h4⟩
        · unfold lgOf; simp only [hlt]
        · unfold itemsR; simp only [hlt]; exact h2)
      generalize wr = wA at *
      have H0 : Hid (LoB wA (wA.alloc (.cells #[] 45)) E view [] (.slice (some ⟨wA.heap.size, 0, none⟩) 0 0)) := Lib.hid ⟨(Below.refl _ _).alloc (Nat.le_refl _) _, fun p hp => (by cases hp), fun p hp => (by cases hp), OwnC.empty _ _ _ ⟨Nat.le_refl _, fun p hp => (by cases hp)⟩ (by simp)⟩
      go_wp2_with fail
      generalize wA.alloc (.cells #[] 45) = wB at *
      generalize hpA : wA.heap.size = pA at H0 ⊢
      go_loopw [13, 14, 15] (fun lv tv iv wr => ∃ (P : List (Nat × Nat)) (ad' : Option Addr) (cap' : Nat), P.length ≤ 3 ∧ P.length ≤ M ∧ iv = .int .i64 (P.length : Int) ∧ tv = .int .i64 (topOf P : Int) ∧ lv = .slice ad' P.length cap' ∧ LoB wA wr E view P (.slice ad' P.length cap')) (fun _ _ iv _ => 3 - (intOf iv).toNat)
      case atStart => exact ⟨[], some ⟨pA, 0, none⟩, 0, Nat.zero_le _, Nat.zero_le _, rfl, rfl, rfl, H0.out⟩
      case round =>
        clear H0
        obtain ⟨P, ad', cap', hPC, hPM, rfl, rfl, rfl, hLB⟩ := hrel
        have HLB := Lib.hid hLB
        have htop := Lib.hid (top_take E P hLB.ns)
        obtain ⟨i, hi⟩ : ∃ i, i = P.length := ⟨_, rfl⟩
        have HI := Lib.hid hi
        by_cases hgo : P.length < 3 ∧ P.length < M
        · obtain ⟨h3, hM2⟩ := hgo
          obtain ⟨h, hh⟩ : ∃ h, H[i]? = some h := ⟨H[i]'(by rw [hi, ← HM.out]; exact hM2), List.getElem?_eq_getElem _⟩
          obtain ⟨b2, off2, had2, hbl2, hra2⟩ := HR2.out.range (i := i) (x := #[.int .i64 h]) (by rw [List.getElem?_map, hh]; rfl)
          subst had2
          have hbw2 : Below w.heap.size w wr := HBW.out.trans (hLB.below.mono HBW.out.size)
          have hcell : wr.cell? ⟨b2, off2 + i, none⟩ = some (.int .i64 h) := by have := rangeAt.later hra2 hbl2 hbw2 0 _ rfl; simpa using this
          obtain ⟨t, htn, ht⟩ := mod_some h n
          have hwt : wrap64 (t : Int) = (t : Int) := wrap64_id _ (cast_in htn h8E)
          have hcap := hLB.own.capped
          rw [← hi] at h3 hM2 hcap ⊢
          have HCAP := Lib.hid hcap
          have htc : (t : Int) ≤ (cap : Int) := cast_le htn hcE
          have ht0 : (0 : Int) ≤ (t : Int) := Int.natCast_nonneg t
          have htN : t ≤ n := Nat.le_of_lt_succ htn
          have HBWR := Lib.hid hLB.below
          clear hra2 hbl2 hh hbw2 hLB hi hcap
          go_wp2_with fail
          refine (HLG.out i t htN _ HBWR.out).mono ?_
          rintro ev w7 ⟨⟨g, lm, rfl, hlm, hit, hg⟩, hb7⟩
          obtain ⟨x', cap2', w8, happ, hO8, hT8⟩ := run_msg lm (HCAP.out.later hb7) (by clear ht hwt hl1 hl2; omega)
          have HMORE := Lib.hid (HLB.out.more (t := t) (by rw [← HNE.out]; exact htN) hb7 hg hit (by rw [← HI.out, ← hlm]; exact hO8) hT8)
          have happ := Lib.hid happ
          clear hO8 hT8 hb7 hit hg ht HCAP HLG hl1 hl2 hlm
          rw [hwt]
          clear hwt htc ht0 htN htn hcell
          go_wp2_with (first | (guard_target =~ wpList _ _ _ (⟨_, Op.buildSlice _ 1 _, _, _, _, _⟩ :: _) _ _; refine wpList_bslice_eq 22 (Operand.tmp 105) rfl rfl rfl (bslice_msg lm _) ?_) | (guard_target =~ wpList _ _ _ (⟨_, Op.call { callee := Callee.builtin Builtin.append, args := _, argTypes := _ }, _, _, _, _⟩ :: _) _ _; refine wpList_app_eq 22 (Operand.tmp 98) (Operand.tmp 106) rfl rfl rfl rfl rfl happ.out ?_))
          go_roundw
          case rel =>
            have hlen : (P ++ [(g, t)]).length = i + 1 := by rw [List.length_append, ← HI.out]; rfl
            refine ⟨P ++ [(g, t)], x', cap2', ?_⟩
            have hm := HMORE.out
            rw [hlen, topOf_snoc]
            exact ⟨by omega, by omega, by go_num, by rw [max_cast], rfl, hm⟩
          case measure => simp [intOf]; omega
        · have HBW2 := Lib.hid (HBW.out.trans (hLB.below.mono HBW.out.size))
          have HBWR := Lib.hid hLB.below
          have hi5 : i ≤ 3 := by rw [hi]; exact hPC
          have hiM : i ≤ M := by rw [hi]; exact hPM
          have hgo2 : ¬ i < 3 ∨ ¬ i < M := by rw [hi]; exact Decidable.not_and_iff_or_not.1 hgo
          have HLP := Lib.hid (long_plain (C := 3) (ch := E) (view := view) (P := P) (by decide) HCH.out H8E.out HV.out (by rw [← hi]; omega) HLB.out.ns)
          have HCHO := Lib.hid (choose_any 3 ad' cap' (lgs E view P) wr (HLB.out.logs (by rw [← hi]; omega) H8E.out HEOK.out HEB.out) (HG.out.later HBW2.out))
          simp only [lgs_len, ← HI.out] at HCHO HLP
          have HTOP := Lib.hid (show topOf P ≤ n by rw [HNE.out]; exact htop.out)
          rw [← hi] at hPC hPM ⊢
          generalize chooseV 3 (lgs E view P) = cc at *
          clear hLB hi hgo HLG hl1 hl2 htop
          rcases hgo2 with hg2 | hg2
          · have hcc : ¬ ((i : Int) < 3) := by omega
            go_wp2_with fail
            refine HCHO.out.mono ?_
            rintro ev w9 ⟨⟨ea, cpc, rfl, hre, hce⟩, hb9⟩
            obtain ⟨T, hT⟩ : ∃ T, T = cc.es.length := ⟨_, rfl⟩
            rw [← hT] at hce ⊢
            obtain ⟨w10, st10, hW10, hB10, hz10⟩ := fresh w9 #[.bool false, .int .i64 0, .int .i64 0, .int .u64 0, .int .i64 0, .slice none 0 0] (crow cc.r cc.co cc.cv cc.cs cc.cm ea T cpc) 30 rfl (by kernel_rfl) (crow_one _ _ _ _ _ _ _ _)
            have hb10 : Below wr.heap.size wr w10 := hb9.trans (hW10.mono hb9.size)
            have HB10 := Lib.hid (HBW2.out.trans (hb10.mono HBW2.out.size))
            have HA10 := Lib.hid (HBWR.out.trans (hb10.mono HBWR.out.size))
            have HRS := Lib.hid (hre.later hW10)
            have HCR := Lib.hid hB10
            have HTT := Lib.hid hT
            have st10 := Lib.hid st10
            clear hre hb9 hW10 hz10 hb10 hB10 HCHO hT
            by_cases h2 : 2 * (i : Int) ≤ 3
            · first
                | (exfalso; omega)
                | (have hr := HLP.out.1 h2
                   have x0 : w10.cell? ⟨w9.heap.size, 0, none⟩ = some (.bool false) := by have := (HCR.out.2 0 (.bool cc.r) rfl).1; rwa [hr] at this
                   clear hr
                   go_wp2_with (first | (guard_target =~ wpList _ _ _ (⟨_, Op.store _ (Operand.tmp 17) (Operand.tmp 113), _, _, _, _⟩ :: _) _ _; refine wpList_store_eq 30 (Operand.tmp 17) (Operand.tmp 113) rfl rfl st10.out rfl rfl ?_))
                   go_ret
                   exact ⟨rfl, HB10.out⟩)
            · obtain ⟨hr, hes⟩ := HLP.out.2 (by omega)
              have hTt : T = topOf P := by rw [HTT.out, hes, List.length_take, ← HNE.out]; have := HTOP.out; omega
              have HES := Lib.hid hes
              have x0 : w10.cell? ⟨w9.heap.size, 0, none⟩ = some (.bool true) := by have := (HCR.out.2 0 (.bool cc.r) rfl).1; rwa [hr] at this
              have x5 : w10.cell? ⟨w9.heap.size, 5, none⟩ = some (.slice ea T cpc) := (HCR.out.2 5 _ rfl).1
              subst hTt
              generalize topOf P = T at *
              have h2n : ¬ (2 * (i : Int) ≤ 3) := h2
              clear hes hr
              go_wp2_with (first | (guard_target =~ wpList _ _ _ (⟨_, Op.store _ (Operand.tmp 17) (Operand.tmp 113), _, _, _, _⟩ :: _) _ _; refine wpList_store_eq 30 (Operand.tmp 17) (Operand.tmp 113) rfl rfl st10.out rfl rfl ?_))
              clear x0 x5 st10
              generalize w9.heap.size = p17 at *
              have HC5 : Hid (∀ W, Below w10.heap.size w10 W → W.cell? ⟨p17, 5, none⟩ = some (.slice ea T cpc)) := Lib.hid (fun W hW => ((HCR.out.later hW).2 5 _ rfl).1)
              go_loopw [18] (fun iv wr => ∃ k : Nat, k ≤ T ∧ iv = .int .i64 (k : Int) ∧ Below w10.heap.size w10 wr) (fun iv _ => T - (intOf iv).toNat)
              case atStart => exact ⟨0, by omega, rfl, Below.refl _ _⟩
              case round =>
                obtain ⟨k, hk, rfl, hbk⟩ := hrel
                have HBK := Lib.hid hbk
                clear hbk
                by_cases hlt3 : k < T
                · have hlt3i : (k : Int) < (T : Int) := by omega
                  have hTn : T ≤ n := HTOP.out
                  have hkn : k < n := by omega
                  obtain ⟨x, hx⟩ : ∃ x, E[k]? = some x := ⟨E[k]'(by rw [← HNE.out]; exact hkn), List.getElem?_eq_getElem _⟩
                  have hx2 : cc.es[k]? = some x := by rw [HES.out, List.getElem?_take_of_lt hlt3]; exact hx
                  obtain ⟨b1, off1, had1, hbl1, hra1⟩ := HRS.out.range (i := k) (x := x.row) (by rw [List.getElem?_map, hx2]; rfl)
                  obtain ⟨b3, off3, had3, hbl3, hra3⟩ := (HRE.out.later HA10.out).range (i := k) (x := x.row) (by rw [List.getElem?_map, hx]; rfl)
                  subst had1
                  subst had3
                  have HL1 : Hid (∀ W, Below w10.heap.size w10 W → (Instr.loadAt 35 (.pointer (some ⟨b1, off1 + k * 9, none⟩))).run Tryd.prog W = .ok (.agg x.row) W) := Lib.hid (fun W hW => load_at 35 _ (rangeAt.later hra1 hbl1 hW) Tryd.underlying35 rfl (by kernel_rfl))
                  have HL2 : Hid (∀ W, Below w10.heap.size w10 W → (Instr.loadAt 35 (.pointer (some ⟨b3, off3 + k * 9, none⟩))).run Tryd.prog W = .ok (.agg x.row) W) := Lib.hid (fun W hW => load_at 35 _ (rangeAt.later hra3 hbl3 hW) Tryd.underlying35 rfl (by kernel_rfl))
                  have hkni : (k : Int) < (n : Int) := by omega
                  clear hra1 hbl1 hra3 hbl3 hx hx2
                  go_wp2_with fail
                  refine wp_region_noPanic ?_
                  refine wp_region_held_drew (S := fun W => Below w10.heap.size w10 W) (by kernel_rfl) (show Below w10.heap.size w10 wr.drew from HBK.out.drew) (fun hHeld => ?_)
                  generalize wr.drew = w12 at *
                  refine wpAnyH_take (i := 0) (oi := { dst := some 137, op := _, type := _, pos := _, after := _, guard := _ }) (v := ?_) rfl (by kernel_rfl) (by kernel_rfl) (by kernel_rfl) (fun _ _ _ h => h) (Or.inl ⟨by rfl, ?_⟩) hHeld ?_
                  rotate_left
                  · intro W hSw
                    have d5 : W.cell? ⟨p17, 5, none⟩ = some (.slice (some ⟨b1, off1, none⟩) T cpc) := HC5.out W hSw
                    go_simp
                    first | done | rfl
                  try simp only [Act.put, List.setIfInBounds_toArray, List.set_cons_zero, List.set_cons_succ]
                  refine wpAnyH_take (i := 2) (oi := { dst := some 139, op := _, type := _, pos := _, after := _, guard := _ }) (v := ?_) rfl (by kernel_rfl) (by kernel_rfl) (by kernel_rfl) (fun _ _ _ h => h) (Or.inl ⟨by rfl, ?_⟩) hHeld ?_
                  rotate_left
                  · intro W hSw
                    have d5 : W.cell? ⟨p17, 5, none⟩ = some (.slice (some ⟨b1, off1, none⟩) T cpc) := HC5.out W hSw
                    go_simp
                    first | done | rfl
                  try simp only [Act.put, List.setIfInBounds_toArray, List.set_cons_zero, List.set_cons_succ]
                  refine wpAnyH_take (i := 5) (oi := { dst := some 142, op := _, type := _, pos := _, after := _, guard := _ }) (v := ?_) rfl (by kernel_rfl) (by kernel_rfl) (by kernel_rfl) (fun _ _ _ h => h) (Or.inl ⟨by rfl, ?_⟩) hHeld ?_
                  rotate_left
                  · intro W hSw
                    have d5 : W.cell? ⟨p17, 5, none⟩ = some (.slice (some ⟨b1, off1, none⟩) T cpc) := HC5.out W hSw
                    go_simp
                    first | done | rfl
                  try simp only [Act.put, List.setIfInBounds_toArray, List.set_cons_zero, List.set_cons_succ]
                  refine wpAnyH_take (i := 6) (oi := { dst := some 143, op := _, type := _, pos := _, after := _, guard := _ }) (v := ?_) rfl (by kernel_rfl) (by kernel_rfl) (by kernel_rfl) (fun _ _ _ h => h) (Or.inl ⟨by rfl, ?_⟩) hHeld ?_
                  rotate_left
                  · intro W hSw
                    have d5 : W.cell? ⟨p17, 5, none⟩ = some (.slice (some ⟨b1, off1, none⟩) T cpc) := HC5.out W hSw
                    go_simp
                    first | done | rfl
                  try simp only [Act.put, List.setIfInBounds_toArray, List.set_cons_zero, List.set_cons_succ]
                  refine wpAnyH_take (i := 1) (oi := { dst := some 138, op := _, type := _, pos := _, after := _, guard := _ }) (v := ?_) rfl (by kernel_rfl) (by kernel_rfl) (by kernel_rfl) (fun _ _ _ h => h) (Or.inl ⟨by rfl, ?_⟩) hHeld ?_
                  rotate_left
                  · intro W hSw
                    have d5 : W.cell? ⟨p17, 5, none⟩ = some (.slice (some ⟨b1, off1, none⟩) T cpc) := HC5.out W hSw
                    go_simp
                    first | done | rfl
                  try simp only [Act.put, List.setIfInBounds_toArray, List.set_cons_zero, List.set_cons_succ]
                  refine wpAnyH_take (i := 7) (oi := { dst := some 144, op := _, type := _, pos := _, after := _, guard := _ }) (v := ?_) rfl (by kernel_rfl) (by kernel_rfl) (by kernel_rfl) (fun _ _ _ h => h) (Or.inl ⟨by rfl, ?_⟩) hHeld ?_
                  rotate_left
                  · intro W hSw
                    have d5 : W.cell? ⟨p17, 5, none⟩ = some (.slice (some ⟨b1, off1, none⟩) T cpc) := HC5.out W hSw
                    go_simp
                    first | done | rfl
                  try simp only [Act.put, List.setIfInBounds_toArray, List.set_cons_zero, List.set_cons_succ]
                  refine wpAnyH_take (i := 3) (oi := { dst := some 140, op := _, type := _, pos := _, after := _, guard := _ }) (v := ?_) rfl (by kernel_rfl) (by kernel_rfl) (by kernel_rfl) (fun _ _ _ h => h) (Or.inl ⟨by rfl, ?_⟩) hHeld ?_
                  rotate_left
                  · intro W hSw
                    have d5 : W.cell? ⟨p17, 5, none⟩ = some (.slice (some ⟨b1, off1, none⟩) T cpc) := HC5.out W hSw
                    go_simp
                    first | done | rfl
                  try simp only [Act.put, List.setIfInBounds_toArray, List.set_cons_zero, List.set_cons_succ]
                  refine wpAnyH_take (i := 8) (oi := { dst := some 145, op := _, type := _, pos := _, after := _, guard := _ }) (v := .agg x.row) rfl (by kernel_rfl) (by kernel_rfl) (by kernel_rfl) (fun _ _ _ h => h) (Or.inl ⟨by rfl, ?_⟩) hHeld ?_
                  · intro W hSw
                    have d5 : W.cell? ⟨p17, 5, none⟩ = some (.slice (some ⟨b1, off1, none⟩) T cpc) := HC5.out W hSw
                    exact exec_load 35 (Operand.tmp 144) rfl rfl (HL2.out W hSw)
                  try simp only [Act.put, List.setIfInBounds_toArray, List.set_cons_zero, List.set_cons_succ]
                  refine wpAnyH_take (i := 4) (oi := { dst := some 141, op := _, type := _, pos := _, after := _, guard := _ }) (v := .agg x.row) rfl (by kernel_rfl) (by kernel_rfl) (by kernel_rfl) (fun _ _ _ h => h) (Or.inl ⟨by rfl, ?_⟩) hHeld ?_
                  · intro W hSw
                    have d5 : W.cell? ⟨p17, 5, none⟩ = some (.slice (some ⟨b1, off1, none⟩) T cpc) := HC5.out W hSw
                    exact exec_load 35 (Operand.tmp 140) rfl rfl (HL1.out W hSw)
                  try simp only [Act.put, List.setIfInBounds_toArray, List.set_cons_zero, List.set_cons_succ]
                  refine wpAnyH_take (i := 9) (oi := { dst := some 146, op := _, type := _, pos := _, after := _, guard := _ }) (v := .bool false) rfl (by kernel_rfl) (by kernel_rfl) (by kernel_rfl) (fun _ _ _ h => h) (Or.inl ⟨by rfl, ?_⟩) hHeld ?_
                  · intro W hSw
                    have d5 : W.cell? ⟨p17, 5, none⟩ = some (.slice (some ⟨b1, off1, none⟩) T cpc) := HC5.out W hSw
                    exact exec_neq 35 _ (Operand.tmp 141) (Operand.tmp 145) rfl rfl rfl (ne_est x)
                  try simp only [Act.put, List.setIfInBounds_toArray, List.set_cons_zero, List.set_cons_succ]
                  refine wpAnyH_done (by kernel_rfl) ?_ _
                  refine NoPanic.normal ?_
                  go_wp2_with fail
                  go_roundw
                  case rel => exact ⟨k + 1, by omega, by go_num, hHeld⟩
                  case measure => simp [intOf]; omega

                · obtain rfl : k = T := by omega
                  go_wp2_with fail
                  go_ret
                  exact ⟨rfl, HB10.out.trans (HBK.out.mono HB10.out.size)⟩

          · by_cases hcc : (i : Int) < 3
            · have hmm : ¬ ((i : Int) < (M : Int)) := by omega
              go_wp2_with fail
              refine HCHO.out.mono ?_
              rintro ev w9 ⟨⟨ea, cpc, rfl, hre, hce⟩, hb9⟩
              obtain ⟨T, hT⟩ : ∃ T, T = cc.es.length := ⟨_, rfl⟩
              rw [← hT] at hce ⊢
              obtain ⟨w10, st10, hW10, hB10, hz10⟩ := fresh w9 #[.bool false, .int .i64 0, .int .i64 0, .int .u64 0, .int .i64 0, .slice none 0 0] (crow cc.r cc.co cc.cv cc.cs cc.cm ea T cpc) 30 rfl (by kernel_rfl) (crow_one _ _ _ _ _ _ _ _)
              have hb10 : Below wr.heap.size wr w10 := hb9.trans (hW10.mono hb9.size)
              have HB10 := Lib.hid (HBW2.out.trans (hb10.mono HBW2.out.size))
              have HA10 := Lib.hid (HBWR.out.trans (hb10.mono HBWR.out.size))
              have HRS := Lib.hid (hre.later hW10)
              have HCR := Lib.hid hB10
              have HTT := Lib.hid hT
              have st10 := Lib.hid st10
              clear hre hb9 hW10 hz10 hb10 hB10 HCHO hT
              by_cases h2 : 2 * (i : Int) ≤ 3
              · first
                  | (exfalso; omega)
                  | (have hr := HLP.out.1 h2
                     have x0 : w10.cell? ⟨w9.heap.size, 0, none⟩ = some (.bool false) := by have := (HCR.out.2 0 (.bool cc.r) rfl).1; rwa [hr] at this
                     clear hr
                     go_wp2_with (first | (guard_target =~ wpList _ _ _ (⟨_, Op.store _ (Operand.tmp 17) (Operand.tmp 113), _, _, _, _⟩ :: _) _ _; refine wpList_store_eq 30 (Operand.tmp 17) (Operand.tmp 113) rfl rfl st10.out rfl rfl ?_))
                     go_ret
                     exact ⟨rfl, HB10.out⟩)
              · obtain ⟨hr, hes⟩ := HLP.out.2 (by omega)
                have hTt : T = topOf P := by rw [HTT.out, hes, List.length_take, ← HNE.out]; have := HTOP.out; omega
                have HES := Lib.hid hes
                have x0 : w10.cell? ⟨w9.heap.size, 0, none⟩ = some (.bool true) := by have := (HCR.out.2 0 (.bool cc.r) rfl).1; rwa [hr] at this
                have x5 : w10.cell? ⟨w9.heap.size, 5, none⟩ = some (.slice ea T cpc) := (HCR.out.2 5 _ rfl).1
                subst hTt
                generalize topOf P = T at *
                have h2n : ¬ (2 * (i : Int) ≤ 3) := h2
                clear hes hr
                go_wp2_with (first | (guard_target =~ wpList _ _ _ (⟨_, Op.store _ (Operand.tmp 17) (Operand.tmp 113), _, _, _, _⟩ :: _) _ _; refine wpList_store_eq 30 (Operand.tmp 17) (Operand.tmp 113) rfl rfl st10.out rfl rfl ?_))
                clear x0 x5 st10
                generalize w9.heap.size = p17 at *
                have HC5 : Hid (∀ W, Below w10.heap.size w10 W → W.cell? ⟨p17, 5, none⟩ = some (.slice ea T cpc)) := Lib.hid (fun W hW => ((HCR.out.later hW).2 5 _ rfl).1)
                go_loopw [18] (fun iv wr => ∃ k : Nat, k ≤ T ∧ iv = .int .i64 (k : Int) ∧ Below w10.heap.size w10 wr) (fun iv _ => T - (intOf iv).toNat)
                case atStart => exact ⟨0, by omega, rfl, Below.refl _ _⟩
                case round =>
                  obtain ⟨k, hk, rfl, hbk⟩ := hrel
                  have HBK := Lib.hid hbk
                  clear hbk
                  by_cases hlt3 : k < T
                  · have hlt3i : (k : Int) < (T : Int) := by omega
                    have hTn : T ≤ n := HTOP.out
                    have hkn : k < n := by omega
                    obtain ⟨x, hx⟩ : ∃ x, E[k]? = some x := ⟨E[k]'(by rw [← HNE.out]; exact hkn), List.getElem?_eq_getElem _⟩
                    have hx2 : cc.es[k]? = some x := by rw [HES.out, List.getElem?_take_of_lt hlt3]; exact hx
                    obtain ⟨b1, off1, had1, hbl1, hra1⟩ := HRS.out.range (i := k) (x := x.row) (by rw [List.getElem?_map, hx2]; rfl)
                    obtain ⟨b3, off3, had3, hbl3, hra3⟩ := (HRE.out.later HA10.out).range (i := k) (x := x.row) (by rw [List.getElem?_map, hx]; rfl)
                    subst had1
                    subst had3
                    have HL1 : Hid (∀ W, Below w10.heap.size w10 W → (Instr.loadAt 35 (.pointer (some ⟨b1, off1 + k * 9, none⟩))).run Tryd.prog W = .ok (.agg x.row) W) := Lib.hid (fun W hW => load_at 35 _ (rangeAt.later hra1 hbl1 hW) Tryd.underlying35 rfl (by kernel_rfl))
                    have HL2 : Hid (∀ W, Below w10.heap.size w10 W → (Instr.loadAt 35 (.pointer (some ⟨b3, off3 + k * 9, none⟩))).run Tryd.prog W = .ok (.agg x.row) W) := Lib.hid (fun W hW => load_at 35 _ (rangeAt.later hra3 hbl3 hW) Tryd.underlying35 rfl (by kernel_rfl))
                    have hkni : (k : Int) < (n : Int) := by omega
                    clear hra1 hbl1 hra3 hbl3 hx hx2
                    go_wp2_with fail
                    refine wp_region_noPanic ?_
                    refine wp_region_held_drew (S := fun W => Below w10.heap.size w10 W) (by kernel_rfl) (show Below w10.heap.size w10 wr.drew from HBK.out.drew) (fun hHeld => ?_)
                    generalize wr.drew = w12 at *
                    refine wpAnyH_take (i := 0) (oi := { dst := some 137, op := _, type := _, pos := _, after := _, guard := _ }) (v := ?_) rfl (by kernel_rfl) (by kernel_rfl) (by kernel_rfl) (fun _ _ _ h => h) (Or.inl ⟨by rfl, ?_⟩) hHeld ?_
                    rotate_left
                    · intro W hSw
                      have d5 : W.cell? ⟨p17, 5, none⟩ = some (.slice (some ⟨b1, off1, none⟩) T cpc) := HC5.out W hSw
                      go_simp
                      first | done | rfl
                    try simp only [Act.put, List.setIfInBounds_toArray, List.set_cons_zero, List.set_cons_succ]
                    refine wpAnyH_take (i := 2) (oi := { dst := some 139, op := _, type := _, pos := _, after := _, guard := _ }) (v := ?_) rfl (by kernel_rfl) (by kernel_rfl) (by kernel_rfl) (fun _ _ _ h => h) (Or.inl ⟨by rfl, ?_⟩) hHeld ?_
                    rotate_left
                    · intro W hSw
                      have d5 : W.cell? ⟨p17, 5, none⟩ = some (.slice (some ⟨b1, off1, none⟩) T cpc) := HC5.out W hSw
                      go_simp
                      first | done | rfl
                    try simp only [Act.put, List.setIfInBounds_toArray, List.set_cons_zero, List.set_cons_succ]
                    refine wpAnyH_take (i := 5) (oi := { dst := some 142, op := _, type := _, pos := _, after := _, guard := _ }) (v := ?_) rfl (by kernel_rfl) (by kernel_rfl) (by kernel_rfl) (fun _ _ _ h => h) (Or.inl ⟨by rfl, ?_⟩) hHeld ?_
                    rotate_left
                    · intro W hSw
                      have d5 : W.cell? ⟨p17, 5, none⟩ = some (.slice (some ⟨b1, off1, none⟩) T cpc) := HC5.out W hSw
                      go_simp
                      first | done | rfl
                    try simp only [Act.put, List.setIfInBounds_toArray, List.set_cons_zero, List.set_cons_succ]
                    refine wpAnyH_take (i := 6) (oi := { dst := some 143, op := _, type := _, pos := _, after := _, guard := _ }) (v := ?_) rfl (by kernel_rfl) (by kernel_rfl) (by kernel_rfl) (fun _ _ _ h => h) (Or.inl ⟨by rfl, ?_⟩) hHeld ?_
                    rotate_left
                    · intro W hSw
                      have d5 : W.cell? ⟨p17, 5, none⟩ = some (.slice (some ⟨b1, off1, none⟩) T cpc) := HC5.out W hSw
                      go_simp
                      first | done | rfl
                    try simp only [Act.put, List.setIfInBounds_toArray, List.set_cons_zero, List.set_cons_succ]
                    refine wpAnyH_take (i := 1) (oi := { dst := some 138, op := _, type := _, pos := _, after := _, guard := _ }) (v := ?_) rfl (by kernel_rfl) (by kernel_rfl) (by kernel_rfl) (fun _ _ _ h => h) (Or.inl ⟨by rfl, ?_⟩) hHeld ?_
                    rotate_left
                    · intro W hSw
                      have d5 : W.cell? ⟨p17, 5, none⟩ = some (.slice (some ⟨b1, off1, none⟩) T cpc) := HC5.out W hSw
                      go_simp
                      first | done | rfl
                    try simp only [Act.put, List.setIfInBounds_toArray, List.set_cons_zero, List.set_cons_succ]
                    refine wpAnyH_take (i := 7) (oi := { dst := some 144, op := _, type := _, pos := _, after := _, guard := _ }) (v := ?_) rfl (by kernel_rfl) (by kernel_rfl) (by kernel_rfl) (fun _ _ _ h => h) (Or.inl ⟨by rfl, ?_⟩) hHeld ?_
                    rotate_left
                    · intro W hSw
                      have d5 : W.cell? ⟨p17, 5, none⟩ = some (.slice (some ⟨b1, off1, none⟩) T cpc) := HC5.out W hSw
                      go_simp
                      first | done | rfl
                    try simp only [Act.put, List.setIfInBounds_toArray, List.set_cons_zero, List.set_cons_succ]
                    refine wpAnyH_take (i := 3) (oi := { dst := some 140, op := _, type := _, pos := _, after := _, guard := _ }) (v := ?_) rfl (by kernel_rfl) (by kernel_rfl) (by kernel_rfl) (fun _ _ _ h => h) (Or.inl ⟨by rfl, ?_⟩) hHeld ?_
                    rotate_left
                    · intro W hSw
                      have d5 : W.cell? ⟨p17, 5, none⟩ = some (.slice (some ⟨b1, off1, none⟩) T cpc) := HC5.out W hSw
                      go_simp
                      first | done | rfl
                    try simp only [Act.put, List.setIfInBounds_toArray, List.set_cons_zero, List.set_cons_succ]
                    refine wpAnyH_take (i := 8) (oi := { dst := some 145, op := _, type := _, pos := _, after := _, guard := _ }) (v := .agg x.row) rfl (by kernel_rfl) (by kernel_rfl) (by kernel_rfl) (fun _ _ _ h => h) (Or.inl ⟨by rfl, ?_⟩) hHeld ?_
                    · intro W hSw
                      have d5 : W.cell? ⟨p17, 5, none⟩ = some (.slice (some ⟨b1, off1, none⟩) T cpc) := HC5.out W hSw
                      exact exec_load 35 (Operand.tmp 144) rfl rfl (HL2.out W hSw)
                    try simp only [Act.put, List.setIfInBounds_toArray, List.set_cons_zero, List.set_cons_succ]
                    refine wpAnyH_take (i := 4) (oi := { dst := some 141, op := _, type := _, pos := _, after := _, guard := _ }) (v := .agg x.row) rfl (by kernel_rfl) (by kernel_rfl) (by kernel_rfl) (fun _ _ _ h => h) (Or.inl ⟨by rfl, ?_⟩) hHeld ?_
                    · intro W hSw
                      have d5 : W.cell? ⟨p17, 5, none⟩ = some (.slice (some ⟨b1, off1, none⟩) T cpc) := HC5.out W hSw
                      exact exec_load 35 (Operand.tmp 140) rfl rfl (HL1.out W hSw)
                    try simp only [Act.put, List.setIfInBounds_toArray, List.set_cons_zero, List.set_cons_succ]
                    refine wpAnyH_take (i := 9) (oi := { dst := some 146, op := _, type := _, pos := _, after := _, guard := _ }) (v := .bool false) rfl (by kernel_rfl) (by kernel_rfl) (by kernel_rfl) (fun _ _ _ h => h) (Or.inl ⟨by rfl, ?_⟩) hHeld ?_
                    · intro W hSw
                      have d5 : W.cell? ⟨p17, 5, none⟩ = some (.slice (some ⟨b1, off1, none⟩) T cpc) := HC5.out W hSw
                      exact exec_neq 35 _ (Operand.tmp 141) (Operand.tmp 145) rfl rfl rfl (ne_est x)
                    try simp only [Act.put, List.setIfInBounds_toArray, List.set_cons_zero, List.set_cons_succ]
                    refine wpAnyH_done (by kernel_rfl) ?_ _
                    refine NoPanic.normal ?_
                    go_wp2_with fail
                    go_roundw
                    case rel => exact ⟨k + 1, by omega, by go_num, hHeld⟩
                    case measure => simp [intOf]; omega

                  · obtain rfl : k = T := by omega
                    go_wp2_with fail
                    go_ret
                    exact ⟨rfl, HB10.out.trans (HBK.out.mono HB10.out.size)⟩

            · skip
              go_wp2_with fail
              refine HCHO.out.mono ?_
              rintro ev w9 ⟨⟨ea, cpc, rfl, hre, hce⟩, hb9⟩
              obtain ⟨T, hT⟩ : ∃ T, T = cc.es.length := ⟨_, rfl⟩
              rw [← hT] at hce ⊢
              obtain ⟨w10, st10, hW10, hB10, hz10⟩ := fresh w9 #[.bool false, .int .i64 0, .int .i64 0, .int .u64 0, .int .i64 0, .slice none 0 0] (crow cc.r cc.co cc.cv cc.cs cc.cm ea T cpc) 30 rfl (by kernel_rfl) (crow_one _ _ _ _ _ _ _ _)
              have hb10 : Below wr.heap.size wr w10 := hb9.trans (hW10.mono hb9.size)
              have HB10 := Lib.hid (HBW2.out.trans (hb10.mono HBW2.out.size))
              have HA10 := Lib.hid (HBWR.out.trans (hb10.mono HBWR.out.size))
              have HRS := Lib.hid (hre.later hW10)
              have HCR := Lib.hid hB10
              have HTT := Lib.hid hT
              have st10 := Lib.hid st10
              clear hre hb9 hW10 hz10 hb10 hB10 HCHO hT
              by_cases h2 : 2 * (i : Int) ≤ 3
              · first
                  | (exfalso; omega)
                  | (have hr := HLP.out.1 h2
                     have x0 : w10.cell? ⟨w9.heap.size, 0, none⟩ = some (.bool false) := by have := (HCR.out.2 0 (.bool cc.r) rfl).1; rwa [hr] at this
                     clear hr
                     go_wp2_with (first | (guard_target =~ wpList _ _ _ (⟨_, Op.store _ (Operand.tmp 17) (Operand.tmp 113), _, _, _, _⟩ :: _) _ _; refine wpList_store_eq 30 (Operand.tmp 17) (Operand.tmp 113) rfl rfl st10.out rfl rfl ?_))
                     go_ret
                     exact ⟨rfl, HB10.out⟩)
              · obtain ⟨hr, hes⟩ := HLP.out.2 (by omega)
                have hTt : T = topOf P := by rw [HTT.out, hes, List.length_take, ← HNE.out]; have := HTOP.out; omega
                have HES := Lib.hid hes
                have x0 : w10.cell? ⟨w9.heap.size, 0, none⟩ = some (.bool true) := by have := (HCR.out.2 0 (.bool cc.r) rfl).1; rwa [hr] at this
                have x5 : w10.cell? ⟨w9.heap.size, 5, none⟩ = some (.slice ea T cpc) := (HCR.out.2 5 _ rfl).1
                subst hTt
                generalize topOf P = T at *
                have h2n : ¬ (2 * (i : Int) ≤ 3) := h2
                clear hes hr
                go_wp2_with (first | (guard_target =~ wpList _ _ _ (⟨_, Op.store _ (Operand.tmp 17) (Operand.tmp 113), _, _, _, _⟩ :: _) _ _; refine wpList_store_eq 30 (Operand.tmp 17) (Operand.tmp 113) rfl rfl st10.out rfl rfl ?_))
                clear x0 x5 st10
                generalize w9.heap.size = p17 at *
                have HC5 : Hid (∀ W, Below w10.heap.size w10 W → W.cell? ⟨p17, 5, none⟩ = some (.slice ea T cpc)) := Lib.hid (fun W hW => ((HCR.out.later hW).2 5 _ rfl).1)
                go_loopw [18] (fun iv wr => ∃ k : Nat, k ≤ T ∧ iv = .int .i64 (k : Int) ∧ Below w10.heap.size w10 wr) (fun iv _ => T - (intOf iv).toNat)
                case atStart => exact ⟨0, by omega, rfl, Below.refl _ _⟩
                case round =>
                  obtain ⟨k, hk, rfl, hbk⟩ := hrel
                  have HBK := Lib.hid hbk
                  clear hbk
                  by_cases hlt3 : k < T
                  · have hlt3i : (k : Int) < (T : Int) := by omega
                    have hTn : T ≤ n := HTOP.out
                    have hkn : k < n := by omega
                    obtain ⟨x, hx⟩ : ∃ x, E[k]? = some x := ⟨E[k]'(by rw [← HNE.out]; exact hkn), List.getElem?_eq_getElem _⟩
                    have hx2 : cc.es[k]? = some x := by rw [HES.out, List.getElem?_take_of_lt hlt3]; exact hx
                    obtain ⟨b1, off1, had1, hbl1, hra1⟩ := HRS.out.range (i := k) (x := x.row) (by rw [List.getElem?_map, hx2]; rfl)
                    obtain ⟨b3, off3, had3, hbl3, hra3⟩ := (HRE.out.later HA10.out).range (i := k) (x := x.row) (by rw [List.getElem?_map, hx]; rfl)
                    subst had1
                    subst had3
                    have HL1 : Hid (∀ W, Below w10.heap.size w10 W → (Instr.loadAt 35 (.pointer (some ⟨b1, off1 + k * 9, none⟩))).run Tryd.prog W = .ok (.agg x.row) W) := Lib.hid (fun W hW => load_at 35 _ (rangeAt.later hra1 hbl1 hW) Tryd.underlying35 rfl (by kernel_rfl))
                    have HL2 : Hid (∀ W, Below w10.heap.size w10 W → (Instr.loadAt 35 (.pointer (some ⟨b3, off3 + k * 9, none⟩))).run Tryd.prog W = .ok (.agg x.row) W) := Lib.hid (fun W hW => load_at 35 _ (rangeAt.later hra3 hbl3 hW) Tryd.underlying35 rfl (by kernel_rfl))
                    have hkni : (k : Int) < (n : Int) := by omega
                    clear hra1 hbl1 hra3 hbl3 hx hx2
                    go_wp2_with fail
                    refine wp_region_noPanic ?_
                    refine wp_region_held_drew (S := fun W => Below w10.heap.size w10 W) (by kernel_rfl) (show Below w10.heap.size w10 wr.drew from HBK.out.drew) (fun hHeld => ?_)
                    generalize wr.drew = w12 at *
                    refine wpAnyH_take (i := 0) (oi := { dst := some 137, op := _, type := _, pos := _, after := _, guard := _ }) (v := ?_) rfl (by kernel_rfl) (by kernel_rfl) (by kernel_rfl) (fun _ _ _ h => h) (Or.inl ⟨by rfl, ?_⟩) hHeld ?_
                    rotate_left
                    · intro W hSw
                      have d5 : W.cell? ⟨p17, 5, none⟩ = some (.slice (some ⟨b1, off1, none⟩) T cpc) := HC5.out W hSw
                      go_simp
                      first | done | rfl
                    try simp only [Act.put, List.setIfInBounds_toArray, List.set_cons_zero, List.set_cons_succ]
                    refine wpAnyH_take (i := 2) (oi := { dst := some 139, op := _, type := _, pos := _, after := _, guard := _ }) (v := ?_) rfl (by kernel_rfl) (by kernel_rfl) (by kernel_rfl) (fun _ _ _ h => h) (Or.inl ⟨by rfl, ?_⟩) hHeld ?_
                    rotate_left
                    · intro W hSw
                      have d5 : W.cell? ⟨p17, 5, none⟩ = some (.slice (some ⟨b1, off1, none⟩) T cpc) := HC5.out W hSw
                      go_simp
                      first | done | rfl
                    try simp only [Act.put, List.setIfInBounds_toArray, List.set_cons_zero, List.set_cons_succ]
                    refine wpAnyH_take (i := 5) (oi := { dst := some 142, op := _, type := _, pos := _, after := _, guard := _ }) (v := ?_) rfl (by kernel_rfl) (by kernel_rfl) (by kernel_rfl) (fun _ _ _ h => h) (Or.inl ⟨by rfl, ?_⟩) hHeld ?_
                    rotate_left
                    · intro W hSw
                      have d5 : W.cell? ⟨p17, 5, none⟩ = some (.slice (some ⟨b1, off1, none⟩) T cpc) := HC5.out W hSw
                      go_simp
                      first | done | rfl
                    try simp only [Act.put, List.setIfInBounds_toArray, List.set_cons_zero, List.set_cons_succ]
                    refine wpAnyH_take (i := 6) (oi := { dst := some 143, op := _, type := _, pos := _, after := _, guard := _ }) (v := ?_) rfl (by kernel_rfl) (by kernel_rfl) (by kernel_rfl) (fun _ _ _ h => h) (Or.inl ⟨by rfl, ?_⟩) hHeld ?_
                    rotate_left
                    · intro W hSw
                      have d5 : W.cell? ⟨p17, 5, none⟩ = some (.slice (some ⟨b1, off1, none⟩) T cpc) := HC5.out W hSw
                      go_simp
                      first | done | rfl
                    try simp only [Act.put, List.setIfInBounds_toArray, List.set_cons_zero, List.set_cons_succ]
                    refine wpAnyH_take (i := 1) (oi := { dst := some 138, op := _, type := _, pos := _, after := _, guard := _ }) (v := ?_) rfl (by kernel_rfl) (by kernel_rfl) (by kernel_rfl) (fun _ _ _ h => h) (Or.inl ⟨by rfl, ?_⟩) hHeld ?_
                    rotate_left
                    · intro W hSw
                      have d5 : W.cell? ⟨p17, 5, none⟩ = some (.slice (some ⟨b1, off1, none⟩) T cpc) := HC5.out W hSw
                      go_simp
                      first | done | rfl
                    try simp only [Act.put, List.setIfInBounds_toArray, List.set_cons_zero, List.set_cons_succ]
                    refine wpAnyH_take (i := 7) (oi := { dst := some 144, op := _, type := _, pos := _, after := _, guard := _ }) (v := ?_) rfl (by kernel_rfl) (by kernel_rfl) (by kernel_rfl) (fun _ _ _ h => h) (Or.inl ⟨by rfl, ?_⟩) hHeld ?_
                    rotate_left
                    · intro W hSw
                      have d5 : W.cell? ⟨p17, 5, none⟩ = some (.slice (some ⟨b1, off1, none⟩) T cpc) := HC5.out W hSw
                      go_simp
                      first | done | rfl
                    try simp only [Act.put, List.setIfInBounds_toArray, List.set_cons_zero, List.set_cons_succ]
                    refine wpAnyH_take (i := 3) (oi := { dst := some 140, op := _, type := _, pos := _, after := _, guard := _ }) (v := ?_) rfl (by kernel_rfl) (by kernel_rfl) (by kernel_rfl) (fun _ _ _ h => h) (Or.inl ⟨by rfl, ?_⟩) hHeld ?_
                    rotate_left
                    · intro W hSw
                      have d5 : W.cell? ⟨p17, 5, none⟩ = some (.slice (some ⟨b1, off1, none⟩) T cpc) := HC5.out W hSw
                      go_simp
                      first | done | rfl
                    try simp only [Act.put, List.setIfInBounds_toArray, List.set_cons_zero, List.set_cons_succ]
                    refine wpAnyH_take (i := 8) (oi := { dst := some 145, op := _, type := _, pos := _, after := _, guard := _ }) (v := .agg x.row) rfl (by kernel_rfl) (by kernel_rfl) (by kernel_rfl) (fun _ _ _ h => h) (Or.inl ⟨by rfl, ?_⟩) hHeld ?_
                    · intro W hSw
                      have d5 : W.cell? ⟨p17, 5, none⟩ = some (.slice (some ⟨b1, off1, none⟩) T cpc) := HC5.out W hSw
                      exact exec_load 35 (Operand.tmp 144) rfl rfl (HL2.out W hSw)
                    try simp only [Act.put, List.setIfInBounds_toArray, List.set_cons_zero, List.set_cons_succ]
                    refine wpAnyH_take (i := 4) (oi := { dst := some 141, op := _, type := _, pos := _, after := _, guard := _ }) (v := .agg x.row) rfl (by kernel_rfl) (by kernel_rfl) (by kernel_rfl) (fun _ _ _ h => h) (Or.inl ⟨by rfl, ?_⟩) hHeld ?_
                    · intro W hSw
                      have d5 : W.cell? ⟨p17, 5, none⟩ = some (.slice (some ⟨b1, off1, none⟩) T cpc) := HC5.out W hSw
                      exact exec_load 35 (Operand.tmp 140) rfl rfl (HL1.out W hSw)
                    try simp only [Act.put, List.setIfInBounds_toArray, List.set_cons_zero, List.set_cons_succ]
                    refine wpAnyH_take (i := 9) (oi := { dst := some 146, op := _, type := _, pos := _, after := _, guard := _ }) (v := .bool false) rfl (by kernel_rfl) (by kernel_rfl) (by kernel_rfl) (fun _ _ _ h => h) (Or.inl ⟨by rfl, ?_⟩) hHeld ?_
                    · intro W hSw
                      have d5 : W.cell? ⟨p17, 5, none⟩ = some (.slice (some ⟨b1, off1, none⟩) T cpc) := HC5.out W hSw
                      exact exec_neq 35 _ (Operand.tmp 141) (Operand.tmp 145) rfl rfl rfl (ne_est x)
                    try simp only [Act.put, List.setIfInBounds_toArray, List.set_cons_zero, List.set_cons_succ]
                    refine wpAnyH_done (by kernel_rfl) ?_ _
                    refine NoPanic.normal ?_
                    go_wp2_with fail
                    go_roundw
                    case rel => exact ⟨k + 1, by omega, by go_num, hHeld⟩
                    case measure => simp [intOf]; omega

                  · obtain rfl : k = T := by omega
                    go_wp2_with fail
                    go_ret
                    exact ⟨rfl, HB10.out.trans (HBK.out.mono HB10.out.size)⟩

end Go.Proofs.YtpbjjmenkoigjaaDoor

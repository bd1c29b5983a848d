/- All rots, counted. -/
import Derived.Test.YtecaahcmebdglaaBudE
namespace Go.Proofs.Ytecaahcmebdglaa
open Go.RowKit
set_option linter.unusedVariables false
/-- In the loop of count: the world since w. -/
structure CI (w wr : World) (r c : Int) (T : Nat → Nat) (any : Bool) : Prop where
  below : Below w.heap.size w wr
  size : w.heap.size + 2 < wr.heap.size
  bs : Blk wr w.heap.size #[.int .i64 r, .int .i64 c]
  br : Blk wr (w.heap.size + 1) (cellsT (fun _ => 0) false)
  bt : Blk wr (w.heap.size + 2) (cellsT T any)
theorem CI.later {w wr w' : World} {r c : Int} {T : Nat → Nat} {any : Bool} (h : CI w wr r c T any) (hb : Below wr.heap.size wr w') : CI w w' r c T any :=
  ⟨h.below.trans (hb.mono h.below.size), Nat.lt_of_lt_of_le h.size hb.size, h.bs.later hb, h.br.later hb, h.bt.later hb⟩
theorem CI.set {w wr : World} {r c : Int} {T : Nat → Nat} {any : Bool} (h : CI w wr r c T any) (i : Nat) (hi : i < 15) (v : Nat) : CI w (wr.setCell ⟨w.heap.size + 2, i, none⟩ (.int .i64 (v : Int))) r c (fun k => if k = i then v else T k) any :=
  ⟨h.below.setCell (p := ⟨w.heap.size + 2, i, none⟩) (by show w.heap.size ≤ w.heap.size + 2; omega) _, by simpa using h.size, h.bs.other _ (by show w.heap.size + 2 ≠ w.heap.size; omega) _, h.br.other _ (by show w.heap.size + 2 ≠ w.heap.size + 1; omega) _, by
    have := h.bt.set_ i (.int .i64 (v : Int))
    rwa [cellsT_set T any i hi v] at this⟩
theorem CI.setAny {w wr : World} {r c : Int} {T : Nat → Nat} {any : Bool} (h : CI w wr r c T any) : CI w (wr.setCell ⟨w.heap.size + 2, 15, none⟩ (.bool true)) r c T true :=
  ⟨h.below.setCell (p := ⟨w.heap.size + 2, 15, none⟩) (by show w.heap.size ≤ w.heap.size + 2; omega) _, by simpa using h.size, h.bs.other _ (by show w.heap.size + 2 ≠ w.heap.size; omega) _, h.br.other _ (by show w.heap.size + 2 ≠ w.heap.size + 1; omega) _, h.bt.set_ 15 (.bool true)⟩
theorem CI.start (w : World) (r c : Int) : CI w (((w.alloc (.cells #[.int .i64 r, .int .i64 c] 29)).alloc (.cells zerosT 66)).alloc (.cells zerosT 66)) r c (fun _ => 0) false :=
  ⟨ball_below w _ _ _, by simp, Blk.alloc (Blk.alloc (Blk.new _ _ _ _ rfl) _) _, ball w r c, by rw [← zerosT_eq]; exact Blk.new _ _ _ _ (by simp)⟩
theorem Blk.stored {w : World} {g : Nat} {cs0 cs : Array Value} (h : Blk w g cs0) (hs : cs0.size = cs.size) : Blk (w.setCells g 0 cs.toList) g cs := by
  refine ⟨Nat.lt_of_lt_of_le h.1 (Turned.setCells (X := fun _ => True) g trivial cs.toList 0 w).size, fun i v hv => ⟨?_, ?_⟩⟩
  · have hi : i < cs.size := (Array.getElem?_eq_some_iff.1 hv).1
    have := World.cell?_setCells_in g cs.toList 0 w (fun j hj => by
      have hj' : j < cs0.size := by rw [hs]; simpa using hj
      rw [Nat.zero_add, (h.2 j _ (Array.getElem?_eq_getElem hj')).1]
      rfl) i (by simpa using hi)
    rw [Nat.zero_add] at this
    rw [this, ← hv]
    simp [Array.getElem?_eq_getElem hi]
  · rw [World.frozen?_setCells]
    have hi : i < cs0.size := by rw [hs]; exact (Array.getElem?_eq_some_iff.1 hv).1
    exact (h.2 i _ (Array.getElem?_eq_getElem hi)).2
theorem stepT_eq {r : Int} (T : Nat → Nat) {x : Bst} (h : Bud.rot r x = true) : Bud.stepT r T x = fun k => if k = Bud.tgt x then T (Bud.tgt x) ||| 2 ^ Bud.bit x else T k := by
  unfold Bud.stepT
  rw [if_pos h]
  funext k
  by_cases q : k = Bud.tgt x
  · subst q; simp
  · simp [q]
set_option maxRecDepth 100000 in
set_option maxHeartbeats 40000000 in
theorem count_yes (r c : Int) (ad : Option Addr) (cap : Nat) (l : List Bst) (w : World) (hm : Bud.may r c = true) (hl : StepsAt w ad l) (hn : l.length ≤ 1000) (hc : l.length ≤ cap) :
    Calls Try.prog 50 #[.agg #[.int .i64 r, .int .i64 c], .slice ad l.length cap] w fun e w' => e = .returned (.agg (cellsT (Bud.tal r l) (l.any (Bud.rot r)))) ∧ Below w.heap.size w w' := by
  have HL := Lib.hid hl
  obtain ⟨n, hnn⟩ : ∃ n, n = l.length := ⟨_, rfl⟩
  have HNN := Lib.hid hnn
  rw [← hnn] at hn hc ⊢
  obtain ⟨hr, hc1, hc4⟩ := (Bud.may_iff r c).1 hm
  have HR := Lib.hid hr
  have HM : Hid (∀ w, Calls Try.prog 15 #[.int .i64 r] w fun e w' => e = .returned (.bool true) ∧ w = w') := Lib.hid (fun w => may_yes r w hr)
  have hr5 : r ≤ 5 := by omega
  have hc1' : ¬ c < 1 := by omega
  have hc4' : ¬ 4 < c := by omega
  clear hl hnn hm hr
  have HS := Lib.hid (CI.start w r c)
  go_enter Try.func50, Try.ntmps50
  go_wp2_with (go_at_call 15; refine (HM.out _).mono ?_; rintro e w' ⟨rfl, rfl⟩)
  go_loopw [26] (fun iv wr => ∃ j : Nat, j ≤ n ∧ iv = .int .i64 (j : Int) ∧ CI w wr r c (Bud.tal r (l.take j)) ((l.take j).any (Bud.rot r))) (fun iv _ => n - (intOf iv).toNat)
  case atStart => exact ⟨0, by omega, rfl, HS.out⟩
  case round =>
    clear HS HM
    obtain ⟨j, hj, rfl, hCI⟩ := hrel
    have HC := Lib.hid hCI
    have hsz := hCI.size
    have s0 := (hCI.bs.2 0 _ rfl).1
    have s1 := (hCI.bs.2 1 _ rfl).1
    by_cases hlt : j < n
    · obtain ⟨x, hx⟩ : ∃ x, l[j]? = some x := ⟨l[j]'(by rw [← HNN.out]; exact hlt), List.getElem?_eq_getElem _⟩
      obtain ⟨b, off, rfl, hbw, hcc⟩ := (HL.out.later hCI.below) j x hx
      have HA : Hid ((l.take (j + 1)).any (Bud.rot r) = ((l.take j).any (Bud.rot r) || Bud.rot r x)) := Lib.hid (by rw [take_snoc hx, List.any_append]; simp)
      have HT : Hid (Bud.tal r (l.take (j + 1)) = Bud.stepT r (Bud.tal r (l.take j)) x) := Lib.hid (by rw [take_snoc hx, Bud.tal_add])
      have HLT : Hid (∀ i, Bud.tal r (l.take j) i < 32) := Lib.hid (fun i => Bud.tal_lt hr5 _ i)
      clear hCI
      generalize Bud.tal r (l.take j) = T at *
      generalize (l.take j).any (Bud.rot r) = any at *
      obtain ⟨T2, hT2⟩ : ∃ T2, T2 = Bud.tal r (l.take (j + 1)) := ⟨_, rfl⟩
      obtain ⟨k, wh, p, nn, a, m, oo, bb, q, uu, vv⟩ := x
      have c0 := hcc 0 _ rfl
      have c1 := hcc 1 _ rfl
      have c2 := hcc 2 _ rfl
      have c3 := hcc 3 _ rfl
      have c4 := hcc 4 _ rfl
      have c5 := hcc 5 _ rfl
      have c6 := hcc 6 _ rfl
      have c7 := hcc 7 _ rfl
      have c8 := hcc 8 _ rfl
      rw [Nat.add_zero] at c0
      clear hcc hx
      obtain ⟨rb, hrb⟩ : ∃ rb, rb = Bud.rot r ⟨k, wh, p, nn, a, m, oo, bb, q, uu, vv⟩ := ⟨_, rfl⟩
      have HROT : Hid (∀ W, Calls Try.prog 60 #[.agg #[.int .i64 r, .int .i64 c], .agg #[.int .i64 k, .int .i64 wh, .int .i64 p, .int .i64 nn, .int .i64 a, .int .i64 m, .int .i64 oo, .string bb, .slice q uu vv]] W fun e w' => e = .returned (.bool rb) ∧ Below W.heap.size W w') := Lib.hid (fun W => by rw [hrb]; exact brot_any r c k wh p nn a m oo bb q uu vv W)
      have hsz0 : w.heap.size < wr.heap.size := by omega
      have HRB := Lib.hid hrb
      clear hrb hT2
      cases rb with
      | false =>
        have HN : Hid (Bud.tal r (l.take (j + 1)) = T ∧ (l.take (j + 1)).any (Bud.rot r) = any) := Lib.hid (by
          rw [HT.out, HA.out, ← HRB.out]
          unfold Bud.stepT
          rw [← HRB.out]
          simp)
        go_wp2_with fail
        refine (HROT.out _).mono ?_
        rintro e w8 ⟨rfl, hb8⟩
        go_wp2_with fail
        go_roundw
        case rel => exact ⟨j + 1, by omega, by go_num, by rw [HN.out.1, HN.out.2]; exact (HC.out.later ((Below.refl _ _).alloc (Nat.le_refl _) _)).later hb8⟩
        case measure => simp [intOf]; omega
      | true =>
        go_wp2_with fail
        refine (HROT.out _).mono ?_
        rintro e w8 ⟨rfl, hb8⟩
        have HC8 := Lib.hid ((HC.out.later ((Below.refl _ _).alloc (Nat.le_refl _) _)).later hb8)
        have hX8 := Blk.later (Blk.new wr #[.int .i64 k, .int .i64 wh, .int .i64 p, .int .i64 nn, .int .i64 a, .int .i64 m, .int .i64 oo, .string bb, .slice q uu vv] 34 _ rfl) hb8
        have x1 := (hX8.2 1 _ rfl).1
        have x3 := (hX8.2 3 _ rfl).1
        have y15 := HC8.out.bt.2 15 _ rfl
        obtain ⟨y15a, y15b⟩ := y15
        have hsz8 := HC8.out.size
        have hszx := hX8.1
        have hrot := (Bud.rot_iff _ _).1 HRB.out.symm
        simp only at hrot
        obtain ⟨hk, hw, hn1, ha, hm⟩ := hrot
        have HX8 := Lib.hid hX8
        clear hb8 hX8 c0 c1 c2 c3 c4 c5 c6 c7 c8 hk ha hm
        have HC9 := Lib.hid HC8.out.setAny
        have HX9 : Hid (Blk (w8.setCell ⟨w.heap.size + 2, 15, none⟩ (.bool true)) wr.heap.size #[.int .i64 k, .int .i64 wh, .int .i64 p, .int .i64 nn, .int .i64 a, .int .i64 m, .int .i64 oo, .string bb, .slice q uu vv]) := Lib.hid (HX8.out.other _ (by show w.heap.size + 2 ≠ wr.heap.size; omega) _)
        generalize hg : wr.heap.size = g at *
        have hw4 : IntKind.i64.wrap (nn - 4) = nn - 4 := IntWalk.i64_in _ (by omega)
        have x3' := (HX9.out.2 3 _ rfl).1
        have HAY : Hid ((l.take (j + 1)).any (Bud.rot r) = true) := Lib.hid (by rw [HA.out, ← HRB.out, Bool.or_true])
        have HSTEP := Lib.hid (HT.out.trans (stepT_eq T HRB.out.symm))
        have x1' := (HX9.out.2 1 _ rfl).1
        have hwt : wh.toNat < 15 := by omega
        have hwi : 0 ≤ wh ∧ wh < 6 := by omega
        by_cases q4 : nn < 4
        · have q0 : nn - 4 < 0 := by omega
          obtain ⟨z1, z2⟩ := HC9.out.bt.2 wh.toNat _ (cellsT_get _ _ _ hwt)
          obtain ⟨bt, hbt⟩ : ∃ bt, bt = nn.toNat := ⟨_, rfl⟩
          have HTG : Hid (Bud.tal r (l.take (j + 1)) = fun i => if i = wh.toNat then T wh.toNat ||| 2 ^ bt else T i) := Lib.hid (by
            have h1 : Bud.tgt ⟨k, wh, p, nn, a, m, oo, bb, q, uu, vv⟩ = wh.toNat := if_pos q4
            have h2 : Bud.bit ⟨k, wh, p, nn, a, m, oo, bb, q, uu, vv⟩ = nn.toNat := if_pos q4
            rw [HSTEP.out, h1, h2, hbt])
          have HOR : Hid (∀ b : Nat, b < 32 → bits BinOp.or IntKind.i64 ((T wh.toNat : Nat) : Int) (b : Int) = ((T wh.toNat ||| b : Nat) : Int)) := Lib.hid (fun b hb => or_small _ b (HLT.out _) hb)
          go_wp2_with fail
          clear x1 x3 y15a y15b s0 s1
          generalize w8.setCell ⟨w.heap.size + 2, 15, none⟩ (.bool true) = w9 at *
          have hcs : nn = 0 ∨ nn = 1 ∨ nn = 2 ∨ nn = 3 := by omega
          clear HT HROT HRB HX8 HX9 HC8 HSTEP HA
          rcases hcs with rfl | rfl | rfl | rfl
          · go_still_tail 10, (by kernel_rfl)
            go_wp2_with fail
            go_roundw
            case rel => exact ⟨j + 1, by omega, by go_num, by rw [HAY.out, HTG.out, hbt]; have := (HC9.out.later (Below.refl _ _).drew).set wh.toNat hwt (T wh.toNat ||| 1); rw [← HOR.out 1 (by decide)] at this; exact this⟩
            case measure => simp [intOf]; omega
          · go_still_tail 10, (by kernel_rfl)
            go_wp2_with fail
            go_roundw
            case rel => exact ⟨j + 1, by omega, by go_num, by rw [HAY.out, HTG.out, hbt]; have := (HC9.out.later (Below.refl _ _).drew).set wh.toNat hwt (T wh.toNat ||| 2); rw [← HOR.out 2 (by decide)] at this; exact this⟩
            case measure => simp [intOf]; omega
          · go_still_tail 10, (by kernel_rfl)
            go_wp2_with fail
            go_roundw
            case rel => exact ⟨j + 1, by omega, by go_num, by rw [HAY.out, HTG.out, hbt]; have := (HC9.out.later (Below.refl _ _).drew).set wh.toNat hwt (T wh.toNat ||| 4); rw [← HOR.out 4 (by decide)] at this; exact this⟩
            case measure => simp [intOf]; omega
          · go_still_tail 10, (by kernel_rfl)
            go_wp2_with fail
            go_roundw
            case rel => exact ⟨j + 1, by omega, by go_num, by rw [HAY.out, HTG.out, hbt]; have := (HC9.out.later (Below.refl _ _).drew).set wh.toNat hwt (T wh.toNat ||| 8); rw [← HOR.out 8 (by decide)] at this; exact this⟩
            case measure => simp [intOf]; omega
        · have q0 : ¬ nn - 4 < 0 := by omega
          obtain ⟨bw, hbw'⟩ : ∃ bw, bw = (wh - 1).toNat := ⟨_, rfl⟩
          have HBW := Lib.hid hbw'
          clear hbw'
          have HWT : Hid (∀ (i : Nat) (w : World), Calls Try.prog 20 #[.int .i64 ((T i : Nat) : Int), .int .i64 wh] w fun e w' => e = .returned (.int .i64 ((T i ||| 2 ^ bw : Nat) : Int)) ∧ w' = w) := Lib.hid (fun i w => by
            have hti := HLT.out i
            refine (with_any ((T i : Nat) : Int) wh w (by omega) (by omega)).mono ?_
            rintro e w' ⟨rfl, rfl⟩
            refine ⟨?_, rfl⟩
            rw [show qs ((T i : Nat) : Int) = T i by unfold qs; omega]
            unfold Quo.wth
            rw [if_pos (by omega), HBW.out])
          by_cases q16 : nn - 4 < 16
          · obtain ⟨i8, hi8⟩ : ∃ i8 : Nat, (i8 : Int) = (nn - 4) % 8 := ⟨((nn - 4) % 8).toNat, by omega⟩
            have hi8l : i8 < 8 := by omega
            have hi8i : (i8 : Int) < 8 := by omega
            have hrem : (nn - 4) % 8 = (i8 : Int) := hi8.symm
            have hremt : (nn - 4).tmod 8 = (i8 : Int) := by rw [hi8]; exact Int.tmod_eq_emod_of_nonneg (by omega)
            clear hi8
            obtain ⟨z1, z2⟩ := HC9.out.bt.2 (6 + i8) _ (cellsT_get _ _ _ (by omega))
            have HTG : Hid (Bud.tal r (l.take (j + 1)) = fun i => if i = 6 + i8 then T (6 + i8) ||| 2 ^ bw else T i) := Lib.hid (by
              have h1 : Bud.tgt ⟨k, wh, p, nn, a, m, oo, bb, q, uu, vv⟩ = 6 + i8 := by
                unfold Bud.tgt
                rw [if_neg q4, if_pos (by show nn < 20; omega)]
                show 6 + ((nn - 4) % 8).toNat = 6 + i8
                omega
              have h2 : Bud.bit ⟨k, wh, p, nn, a, m, oo, bb, q, uu, vv⟩ = (wh - 1).toNat := if_neg q4
              rw [HSTEP.out, h1, h2, HBW.out])
            go_wp2_with fail
            clear x1 x3 y15a y15b s0 s1
            generalize w8.setCell ⟨w.heap.size + 2, 15, none⟩ (.bool true) = w9 at *
            clear HT HROT HRB HX8 HX9 HC8 HSTEP HA
            go_still_tail 11, (by kernel_rfl)
            still_call (HWT.out _ _)
            repeat still_step
            refine wpStill_nil ?_
            go_wp2_with fail
            go_roundw
            case rel => exact ⟨j + 1, by omega, by go_num, by rw [HAY.out, HTG.out]; exact (HC9.out.later (Below.refl _ _).drew).set (6 + i8) (by omega) (T (6 + i8) ||| 2 ^ bw)⟩
            case measure => simp [intOf]; omega
          · obtain ⟨z1, z2⟩ := HC9.out.bt.2 14 _ (cellsT_get _ _ _ (by omega))
            have HTG : Hid (Bud.tal r (l.take (j + 1)) = fun i => if i = 14 then T 14 ||| 2 ^ bw else T i) := Lib.hid (by
              have h1 : Bud.tgt ⟨k, wh, p, nn, a, m, oo, bb, q, uu, vv⟩ = 14 := by
                unfold Bud.tgt
                rw [if_neg q4, if_neg (by show ¬ nn < 20; omega)]
              have h2 : Bud.bit ⟨k, wh, p, nn, a, m, oo, bb, q, uu, vv⟩ = (wh - 1).toNat := if_neg q4
              rw [HSTEP.out, h1, h2, HBW.out])
            clear HT HROT HRB HX8 HC8 HSTEP HA
            go_wp2_with (go_at_call 20; refine (HWT.out _ _).mono ?_; rintro e w' ⟨rfl, rfl⟩)
            go_roundw
            case rel => exact ⟨j + 1, by omega, by go_num, by rw [HAY.out, HTG.out]; exact HC9.out.set 14 (by omega) (T 14 ||| 2 ^ bw)⟩
            case measure => simp [intOf]; omega
    · obtain rfl : j = n := by omega
      have HFIN : Hid (CI w wr r c (Bud.tal r l) (l.any (Bud.rot r))) := Lib.hid (by
        have := HC.out
        rwa [HNN.out, List.take_length] at this)
      obtain ⟨TF, hTF⟩ : ∃ TF, TF = Bud.tal r l := ⟨_, rfl⟩
      obtain ⟨anyF, hanyF⟩ : ∃ anyF, anyF = l.any (Bud.rot r) := ⟨_, rfl⟩
      rw [← hTF, ← hanyF] at HFIN
      have HTF := Lib.hid (And.intro hTF hanyF)
      clear HC hTF hanyF
      have HLD : Hid (wr.rangeAt (w.heap.size + 2) 0 (cellsT TF anyF).toList) := Lib.hid (fun i v hv => by rw [Nat.zero_add]; exact (HFIN.out.bt.2 i v (by simpa using hv)).1)
      have HST : Hid (wr.there (w.heap.size + 1) 0 (cellsT TF anyF).size) := Lib.hid (fun i hi => by
        have hi' : i < (cellsT (fun _ => 0) false).size := hi
        have := HFIN.out.br.2 i _ (Array.getElem?_eq_getElem hi')
        rw [Nat.zero_add]
        exact ⟨by rw [this.1]; rfl, this.2⟩)
      have HRES := Lib.hid (Blk.stored (cs := cellsT TF anyF) HFIN.out.br rfl)
      have HBE : Hid (Below w.heap.size w (wr.setCells (w.heap.size + 1) 0 (cellsT TF anyF).toList)) := Lib.hid (HFIN.out.below.trans ((Turned.setCells (X := fun q => q = w.heap.size + 1) _ rfl _ 0 wr).below (fun q hq => by omega) HFIN.out.below.size))
      have HALL : Hid ((cellsT TF anyF).all (·.oneCell') = true) := Lib.hid (by simp [cellsT, Value.oneCell'])
      go_wp2_with (first | (refine wpList_load_mid rfl 66 (Operand.tmp 5) rfl (w.heap.size + 2) 0 rfl (cellsT TF anyF).toList _ HLD.out Try.underlying66 rfl (by kernel_rfl) ?_) | (refine wpList_store_mid rfl 66 (Operand.tmp 4) (Operand.tmp 74) rfl (w.heap.size + 1) 0 (cellsT TF anyF) rfl rfl HST.out (by kernel_rfl) HALL.out ?_))
      refine bodyPost_ret (results_tally rfl HRES.out) rfl ?_
      exact ⟨by rw [HTF.out.1, HTF.out.2], HBE.out⟩
end Go.Proofs.Ytecaahcmebdglaa

/- The reference's Within. -/
import Derived.Test.YtecaahcmebdglaaBudC
namespace Go.Proofs.Ytecaahcmebdglaa
open Go.RowKit
set_option linter.unusedVariables false
theorem cnt_toNat (b : Bool) (k : Nat) : ((k + b.toNat : Nat) : Int) = if b = true then (k : Int) + 1 else (k : Int) := by cases b <;> simp
set_option maxRecDepth 100000 in
set_option maxHeartbeats 20000000 in
theorem rwithin_any (r c : Int) (ad : Option Addr) (cap : Nat) (l : List Bst) (w : World) (hl : StepsAt w ad l) (hn : l.length ≤ 1000) (hc : l.length ≤ cap) :
    Calls Try.prog 28 #[.agg #[.int .i64 r, .int .i64 c], .slice ad l.length cap] w fun e w' => e = .returned (.bool (Bud.within r c l)) ∧ Below w.heap.size w w' := by
  obtain ⟨n, hnn⟩ : ∃ n, n = l.length := ⟨_, rfl⟩
  rw [← hnn]
  obtain ⟨mb, hmb⟩ : ∃ mb, mb = Bud.may r c := ⟨_, rfl⟩
  have HMAY : Hid (∀ W, Calls Try.prog 51 #[.agg #[.int .i64 r, .int .i64 c]] W fun e w' => e = .returned (.bool mb) ∧ Below W.heap.size W w') := Lib.hid (fun W => by rw [hmb]; exact rmay_any r c W)
  have HMB := Lib.hid hmb
  have HCH : Hid (∀ W who, Below w.heap.size w W → Calls Try.prog 53 #[.agg #[.int .i64 r, .int .i64 c], .slice ad n cap, .int .i64 who] W fun e w' => e = .returned (.bool (Bud.checks r l who)) ∧ Below W.heap.size W w') := Lib.hid (fun W who hb => by rw [hnn]; exact checks_any who r c ad cap l W (hl.later hb) hn hc)
  have HIT : Hid (∀ W who sec, Below w.heap.size w W → Calls Try.prog 52 #[.agg #[.int .i64 r, .int .i64 c], .slice ad n cap, .int .i64 who, .int .i64 sec] W fun e w' => e = .returned (.bool (Bud.hit r l who sec)) ∧ Below W.heap.size W w') := Lib.hid (fun W who sec hb => by rw [hnn]; exact hit_any r c who sec ad cap l W (hl.later hb) hn hc)
  clear hl hn hc hnn hmb
  cases mb with
  | false =>
    have HY : Hid (false = Bud.within r c l) := Lib.hid (Bud.within_no (fun h => by have := h.1; rw [← HMB.out] at this; exact absurd this (by decide))).symm
    go_enter Try.func28, Try.ntmps28
    go_wp2_with fail
    refine (HMAY.out _).mono ?_
    rintro e w8 ⟨rfl, hb8⟩
    go_wp2_with fail
    go_ret
    exact ⟨ret_bool HY.out, ((Bs.start w r c _).later hb8).1⟩
  | true =>
  have HR := Lib.hid ((Bud.may_iff r c).1 HMB.out.symm).1
  obtain ⟨R, hR⟩ : ∃ R : Nat, R = r.toNat := ⟨_, rfl⟩
  have HRR := Lib.hid hR
  have hr : r = (R : Int) := by have := HR.out; omega
  have hR5 : R ≤ 5 := by have := HR.out; omega
  clear hR
  subst hr
  go_enter Try.func28, Try.ntmps28
  go_wp2_with fail
  refine (HMAY.out _).mono ?_
  rintro e w1 ⟨rfl, hb1⟩
  have hB1 := (Bs.start w (R : Int) c _).later hb1
  clear hb1 HMAY
  go_wp2_with fail
  go_loopw [5] (fun iv wr => ∃ j : Nat, j ≤ R ∧ iv = .int .i64 ((j : Int) + 1) ∧ (∀ i : Nat, i < j → Bud.copiesOk R l ((i : Int) + 1)) ∧ Bs w wr R c) (fun iv _ => 7 - (intOf iv).toNat)
  case atStart => exact ⟨0, by omega, rfl, fun i hi => absurd hi (by omega), hB1⟩
  case round =>
    clear hB1
    obtain ⟨j, hj, rfl, hf, hB⟩ := hrel
    obtain ⟨s0, s1⟩ := hB.2.2
    have HF := Lib.hid hf
    clear hf
    by_cases hlt : j < R
    · have hlt1 : (j : Int) + 1 ≤ R := by omega
      go_wp2_with fail
      go_loopw [6, 7] (fun nv kv wr2 => ∃ k : Nat, k ≤ 4 ∧ kv = .int .i64 (k : Int) ∧ nv = .int .i64 ((Bud.cnt (fun i => Bud.hit R l ((j : Int) + 1) (i : Int)) k : Nat) : Int) ∧ Bs w wr2 R c) (fun _ kv _ => 5 - (intOf kv).toNat)
      case atStart => exact ⟨0, by omega, rfl, rfl, hB⟩
      case round =>
        clear hB s0 s1
        obtain ⟨k, hk, rfl, rfl, hB⟩ := hrel
        obtain ⟨s0, s1⟩ := hB.2.2
        have hle := Bud.cnt_le (fun i => Bud.hit R l ((j : Int) + 1) (i : Int)) k
        obtain ⟨m, hm⟩ : ∃ m, m = Bud.cnt (fun i => Bud.hit R l ((j : Int) + 1) (i : Int)) k := ⟨_, rfl⟩
        have HM := Lib.hid hm
        rw [← hm] at hle ⊢
        clear hm
        by_cases hk4 : k < 4
        · have hh := HIT.out wr ((j : Int) + 1) (k : Int) hB.1
          obtain ⟨hv, hhv⟩ : ∃ v, v = Bud.hit R l ((j : Int) + 1) (k : Int) := ⟨_, rfl⟩
          rw [← hhv] at hh
          have HH := Lib.hid hh
          have HS : Hid (Bud.cnt (fun i => Bud.hit R l ((j : Int) + 1) (i : Int)) (k + 1) = m + hv.toNat) := Lib.hid (by
            show Bud.cnt (fun i => Bud.hit R l ((j : Int) + 1) (i : Int)) k + (Bud.hit R l ((j : Int) + 1) (k : Int)).toNat = _
            rw [← HM.out, ← hhv])
          clear hh hhv
          cases hv with
          | false =>
            go_wp2_with fail
            refine (HH.out).mono ?_
            rintro e w8 ⟨rfl, hb8⟩
            go_wp2_with fail
            go_roundw
            case rel => exact ⟨k + 1, by omega, by go_num, by rw [HS.out]; simp, hB.later hb8⟩
            case measure => simp [intOf]; omega
          | true =>
            go_wp2_with fail
            refine (HH.out).mono ?_
            rintro e w8 ⟨rfl, hb8⟩
            go_wp2_with fail
            go_roundw
            case rel => exact ⟨k + 1, by omega, by go_num, by rw [HS.out]; go_num, hB.later hb8⟩
            case measure => simp [intOf]; omega
        · obtain rfl : k = 4 := by omega
          by_cases h2 : m ≤ 2
          · have HN : Hid (∀ i : Nat, i < j + 1 → Bud.copiesOk R l ((i : Int) + 1)) := Lib.hid (fun i hi => by
              by_cases q : i = j
              · subst q
                show Bud.cnt _ 4 ≤ 2
                have := HM.out
                rw [← this]
                exact h2
              · exact HF.out i (by omega))
            go_wp2_with fail
            go_roundw
            case rel => exact ⟨j + 1, by omega, by go_num, HN.out, hB⟩
            case measure => simp [intOf]; omega
          · have HY : Hid (false = Bud.within R c l) := Lib.hid (Bud.within_no (fun h => by
              have := h.2.1 j (by simpa using hlt)
              unfold Bud.copiesOk at this
              have h3 := HM.out
              omega)).symm
            have h2' : 2 < m := by omega
            clear h2
            go_wp2_with fail
            go_ret
            exact ⟨ret_bool HY.out, hB.1⟩
    · obtain rfl : j = R := by omega
      clear hlt
      go_wp2_with fail
      go_loopw [8] (fun sv wr => ∃ s : Nat, s ≤ 8 ∧ sv = .int .i64 (s : Int) ∧ (∀ i : Nat, i < s → Bud.slotOk j l i) ∧ Bs w wr j c) (fun sv _ => 9 - (intOf sv).toNat)
      case atStart => exact ⟨0, by omega, rfl, fun i hi => absurd hi (by omega), hB⟩
      case round =>
        clear hB s0 s1
        obtain ⟨s, hs, rfl, hf, hB⟩ := hrel
        obtain ⟨s0, s1⟩ := hB.2.2
        have HG := Lib.hid hf
        clear hf
        by_cases hs8 : s < 8
        · have hs81 : (s : Int) < 8 := by omega
          go_wp2_with fail
          go_loopw [9, 10] (fun nv wv wr2 => ∃ i : Nat, i ≤ j ∧ wv = .int .i64 ((i : Int) + 1) ∧ nv = .int .i64 ((Bud.cnt (fun i => Bud.lost j l ((i : Int) + 1) (s : Int)) i : Nat) : Int) ∧ Bs w wr2 j c) (fun _ kv _ => 7 - (intOf kv).toNat)
          case atStart => exact ⟨0, by omega, rfl, rfl, hB⟩
          case round =>
            clear hB s0 s1
            obtain ⟨i, hi, rfl, rfl, hB⟩ := hrel
            obtain ⟨s0, s1⟩ := hB.2.2
            have hle := Bud.cnt_le (fun i => Bud.lost j l ((i : Int) + 1) (s : Int)) i
            obtain ⟨m, hm⟩ : ∃ m, m = Bud.cnt (fun i => Bud.lost j l ((i : Int) + 1) (s : Int)) i := ⟨_, rfl⟩
            have HM := Lib.hid hm
            rw [← hm] at hle ⊢
            clear hm
            by_cases hij : i < j
            · obtain ⟨h1v, hh1⟩ : ∃ v, v = Bud.hit j l ((i : Int) + 1) (4 + (s : Int)) := ⟨_, rfl⟩
              obtain ⟨h2v, hh2⟩ : ∃ v, v = Bud.hit j l ((i : Int) + 1) (12 + (s : Int)) := ⟨_, rfl⟩
              obtain ⟨h3v, hh3⟩ : ∃ v, v = Bud.checks j l ((i : Int) + 1) := ⟨_, rfl⟩
              have H1 : Hid (∀ W, Below w.heap.size w W → Calls Try.prog 52 #[.agg #[.int .i64 j, .int .i64 c], .slice ad n cap, .int .i64 ((i : Int) + 1), .int .i64 (4 + (s : Int))] W fun e w' => e = .returned (.bool h1v) ∧ Below W.heap.size W w') := Lib.hid (fun W hb => by rw [hh1]; exact HIT.out W _ _ hb)
              have H2 : Hid (∀ W, Below w.heap.size w W → Calls Try.prog 52 #[.agg #[.int .i64 j, .int .i64 c], .slice ad n cap, .int .i64 ((i : Int) + 1), .int .i64 (12 + (s : Int))] W fun e w' => e = .returned (.bool h2v) ∧ Below W.heap.size W w') := Lib.hid (fun W hb => by rw [hh2]; exact HIT.out W _ _ hb)
              have H3 : Hid (∀ W, Below w.heap.size w W → Calls Try.prog 53 #[.agg #[.int .i64 j, .int .i64 c], .slice ad n cap, .int .i64 ((i : Int) + 1)] W fun e w' => e = .returned (.bool h3v) ∧ Below W.heap.size W w') := Lib.hid (fun W hb => by rw [hh3]; exact HCH.out W _ hb)
              have HS : Hid (Bud.cnt (fun i => Bud.lost j l ((i : Int) + 1) (s : Int)) (i + 1) = m + (h1v || (h2v || h3v)).toNat) := Lib.hid (by
                show Bud.cnt (fun i => Bud.lost j l ((i : Int) + 1) (s : Int)) i + (Bud.lost j l ((i : Int) + 1) (s : Int)).toNat = _
                rw [← HM.out, hh1, hh2, hh3]
                rfl)
              have hw4 : IntKind.i64.wrap (4 + (s : Int)) = 4 + s := IntWalk.i64_in _ (by omega)
              have hw12 : IntKind.i64.wrap (12 + (s : Int)) = 12 + s := IntWalk.i64_in _ (by omega)
              clear hh1 hh2 hh3
              cases h1v with
              | true =>
                go_wp2_with fail
                refine (H1.out _ hB.1).mono ?_
                rintro e w8 ⟨rfl, hb8⟩
                go_wp2_with fail
                go_roundw
                case rel => exact ⟨i + 1, by omega, by go_num, by rw [HS.out]; go_num, hB.later hb8⟩
                case measure => simp [intOf]; omega
              | false =>
                cases h2v with
                | true =>
                  go_wp2_with fail
                  refine (H1.out _ hB.1).mono ?_
                  rintro e w8 ⟨rfl, hb8⟩
                  have hB8 := hB.later hb8
                  obtain ⟨t0, t1⟩ := hB8.2.2
                  clear hb8
                  go_wp2_with fail
                  refine (H2.out _ hB8.1).mono ?_
                  rintro e w9 ⟨rfl, hb9⟩
                  go_wp2_with fail
                  go_roundw
                  case rel => exact ⟨i + 1, by omega, by go_num, by rw [HS.out]; go_num, hB8.later hb9⟩
                  case measure => simp [intOf]; omega
                | false =>
                  cases h3v with
                  | true =>
                    go_wp2_with fail
                    refine (H1.out _ hB.1).mono ?_
                    rintro e w8 ⟨rfl, hb8⟩
                    have hB8 := hB.later hb8
                    obtain ⟨t0, t1⟩ := hB8.2.2
                    clear hb8
                    go_wp2_with fail
                    refine (H2.out _ hB8.1).mono ?_
                    rintro e w9 ⟨rfl, hb9⟩
                    have hB9 := hB8.later hb9
                    obtain ⟨u0, u1⟩ := hB9.2.2
                    clear hb9
                    go_wp2_with fail
                    refine (H3.out _ hB9.1).mono ?_
                    rintro e w10 ⟨rfl, hb10⟩
                    go_wp2_with fail
                    go_roundw
                    case rel => exact ⟨i + 1, by omega, by go_num, by rw [HS.out]; go_num, hB9.later hb10⟩
                    case measure => simp [intOf]; omega
                  | false =>
                    go_wp2_with fail
                    refine (H1.out _ hB.1).mono ?_
                    rintro e w8 ⟨rfl, hb8⟩
                    have hB8 := hB.later hb8
                    obtain ⟨t0, t1⟩ := hB8.2.2
                    clear hb8
                    go_wp2_with fail
                    refine (H2.out _ hB8.1).mono ?_
                    rintro e w9 ⟨rfl, hb9⟩
                    have hB9 := hB8.later hb9
                    obtain ⟨u0, u1⟩ := hB9.2.2
                    clear hb9
                    go_wp2_with fail
                    refine (H3.out _ hB9.1).mono ?_
                    rintro e w10 ⟨rfl, hb10⟩
                    go_wp2_with fail
                    go_roundw
                    case rel => exact ⟨i + 1, by omega, by go_num, by rw [HS.out]; simp, hB9.later hb10⟩
                    case measure => simp [intOf]; omega
            · obtain rfl : i = j := by omega
              have hw2 : IntKind.i64.wrap (2 * (m : Int)) = 2 * m := IntWalk.i64_in _ (by omega)
              by_cases h2 : 2 * (m : Int) < i
              · have HN : Hid (∀ k : Nat, k < s + 1 → Bud.slotOk i l k) := Lib.hid (fun k hk => by
                  by_cases q : k = s
                  · subst q
                    unfold Bud.slotOk
                    rw [← HRR.out, ← HM.out]
                    exact h2
                  · exact HG.out k (by omega))
                have h2' : ¬ (i : Int) ≤ 2 * m := by omega
                go_wp2_with fail
                go_roundw
                case rel => exact ⟨s + 1, by omega, by go_num, HN.out, hB⟩
                case measure => simp [intOf]; omega
              · have HY : Hid (false = Bud.within i c l) := Lib.hid (Bud.within_no (fun h => by
                  have := h.2.2 s hs8
                  unfold Bud.slotOk at this
                  rw [← HRR.out, ← HM.out] at this
                  exact h2 this)).symm
                have h2' : (i : Int) ≤ 2 * m := by omega
                clear h2
                go_wp2_with fail
                go_ret
                exact ⟨ret_bool HY.out, hB.1⟩
        · obtain rfl : s = 8 := by omega
          have HY : Hid (true = Bud.within j c l) := Lib.hid (Bud.within_yes ⟨HMB.out.symm, fun i hi => HF.out i (by simpa using hi), HG.out⟩).symm
          clear hs8
          go_wp2_with fail
          go_ret
          exact ⟨ret_bool HY.out, hB.1⟩
end Go.Proofs.Ytecaahcmebdglaa

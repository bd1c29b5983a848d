/- May a log be? -/
import Derived.Test.YtpbjjmenkoigjaaDoorMgLawChooseTurnsAG
namespace Go.Proofs.YtpbjjmenkoigjaaDoor
open Go.RowKit
set_option linter.unusedVariables false
def rightB (m : Mst) : Bool := decide (0 ≤ m.f) && (decide (m.f ≤ 255) && (decide (m.pn ≤ 255) && (okN m.co && (okN m.cv && (decide (m.b.size ≤ 200) && (okN m.v && (okN m.lv && (okN m.cm && (emptyB (m.wiped 5) && listsB m)))))))))
theorem Mst.In.below {B : Nat} {w w' : World} {m : Mst} (h : m.In w) (hb : Below B w w') (hB : w.heap.size ≤ B) : m.In w' :=
  ⟨h.es.below hb hB, h.is.below hb hB, h.ec, h.ic, h.el, h.il, h.eok, h.iok, h.co, h.e⟩
theorem m_load {m : Mst} {b : Nat} {w : World} (h : Blk w b m.row) : (Instr.loadAt 45 (.pointer (some ⟨b, 0, none⟩))).run Tryd.prog w = .ok (.agg m.row) w := load_at 45 _ h.range Tryd.underlying45 rfl (by kernel_rfl)
set_option maxRecDepth 100000 in
set_option maxHeartbeats 20000000 in
theorem mright_any (m : Mst) (w : World) (hk : m.k = 7) (hin : m.In w) (hg : Gl w) : Calls Tryd.prog 38 #[.agg m.row] w fun e w' => e = .returned (.bool (rightB m)) ∧ Below w.heap.size w w' := by
  have HV : Hid (rightB m = (decide (0 ≤ m.f) && (decide (m.f ≤ 255) && (decide (m.pn ≤ 255) && (okN m.co && (okN m.cv && (decide (m.b.size ≤ 200) && (okN m.v && (okN m.lv && (okN m.cm && (emptyB (m.wiped 5) && listsB m))))))))))) := Lib.hid rfl
  have HIN := Lib.hid hin
  have H0 : Hid (Below w.heap.size w (w.alloc (.cells m.row 45)) ∧ Blk (w.alloc (.cells m.row 45)) w.heap.size m.row ∧ w.heap.size < ((w.alloc (.cells m.row 45))).heap.size) := Lib.hid ⟨(Below.refl _ _).alloc (Nat.le_refl _) _, Blk.new _ _ _ _ rfl, by simp⟩
  have HG : Hid (Gl (w.alloc (.cells m.row 45))) := Lib.hid (hg.later H0.out.1)
  clear hg hin
  go_enter Tryd.func38, Tryd.ntmps38
  have c0 : ((w.alloc (.cells m.row 45))).cell? ⟨w.heap.size, 0, none⟩ = some (.int .i64 7) := by rw [← hk]; exact (H0.out.2.1.2 0 _ rfl).1
  have c1 : ((w.alloc (.cells m.row 45))).cell? ⟨w.heap.size, 1, none⟩ = some (.int .i64 m.f) := (H0.out.2.1.2 1 _ rfl).1
  have c9 : ((w.alloc (.cells m.row 45))).cell? ⟨w.heap.size, 9, none⟩ = some (.int .i64 m.pn) := (H0.out.2.1.2 9 _ rfl).1
  have c12 : ((w.alloc (.cells m.row 45))).cell? ⟨w.heap.size, 12, none⟩ = some (.int .i64 m.co) := (H0.out.2.1.2 12 _ rfl).1
  have c13 : ((w.alloc (.cells m.row 45))).cell? ⟨w.heap.size, 13, none⟩ = some (.int .i64 m.cv) := (H0.out.2.1.2 13 _ rfl).1
  have c32 : ((w.alloc (.cells m.row 45))).cell? ⟨w.heap.size, 32, none⟩ = some (.string m.b) := (H0.out.2.1.2 32 _ rfl).1
  go_wp2_with fail
  refine (fields_log _ HG.out).mono ?_
  rintro e w9 ⟨rfl, rfl⟩
  generalize (w.alloc (.cells m.row 45)) = W0 at *
  have NO : ∀ (e : Value) (W : World), Below w.heap.size w W → rightB m = false → Ending.returned (Value.bool false) = Ending.returned (Value.bool (rightB m)) ∧ Below w.heap.size w W := fun e W hb hr => ⟨by rw [hr], hb⟩
  by_cases f0 : m.f < 0
  · have hr : rightB m = false := by rw [HV.out, decide_eq_false (show ¬ 0 ≤ m.f by omega)]; rfl
    have HR := Lib.hid hr
    clear hr
    go_wp2_with fail
    go_ret
    exact NO undef _ H0.out.1 HR.out
  · by_cases f1 : 255 < m.f
    · have hr : rightB m = false := by rw [HV.out, decide_eq_false (show ¬ m.f ≤ 255 by omega)]; simp
      have HR := Lib.hid hr
      clear hr
      go_wp2_with fail
      go_ret
      exact NO undef _ H0.out.1 HR.out
    · by_cases p1 : 255 < m.pn
      · have hr : rightB m = false := by rw [HV.out, decide_eq_false (show ¬ m.pn ≤ 255 by omega)]; simp
        have HR := Lib.hid hr
        clear hr
        go_wp2_with fail
        go_ret
        exact NO undef _ H0.out.1 HR.out
      · have HF := Lib.hid (show 0 ≤ m.f ∧ m.f ≤ 255 ∧ m.pn ≤ 255 from by omega)
        cases ho : okN m.co
        · have hr : rightB m = false := by rw [HV.out, ho]; simp
          have HR := Lib.hid hr
          clear hr
          go_wp2_with (first | (go_at_call 52; refine (mmay_any m.co _).mono ?_; rintro e w9 ⟨rfl, rfl⟩; rw [ho]))
          go_ret
          exact NO undef _ H0.out.1 HR.out
        · cases hv : okN m.cv
          · have hr : rightB m = false := by rw [HV.out, hv]; simp
            have HR := Lib.hid hr
            clear hr
            go_wp2_with (first | (go_at_call 52; refine (mmay_any m.co _).mono ?_; rintro e w9 ⟨rfl, rfl⟩; rw [ho]) | (go_at_call 52; refine (mmay_any m.cv _).mono ?_; rintro e w9 ⟨rfl, rfl⟩; rw [hv]))
            go_ret
            exact NO undef _ H0.out.1 HR.out
          · by_cases hb : (200 : Int) < m.b.size
            · have hr : rightB m = false := by rw [HV.out, decide_eq_false (show ¬ m.b.size ≤ 200 by omega)]; simp
              have HR := Lib.hid hr
              clear hr
              go_wp2_with (first | (go_at_call 52; refine (mmay_any m.co _).mono ?_; rintro e w9 ⟨rfl, rfl⟩; rw [ho]) | (go_at_call 52; refine (mmay_any m.cv _).mono ?_; rintro e w9 ⟨rfl, rfl⟩; rw [hv]))
              go_ret
              exact NO undef _ H0.out.1 HR.out
            · have HC := Lib.hid (And.intro ho (And.intro hv (show m.b.size ≤ 200 by omega)))
              have l65 := m_load H0.out.2.1
              obtain ⟨W1, st1, hW1, hB1, hz1⟩ := fresh W0 #[.int .i64 0, .int .i64 0, .int .i64 0, .int .i64 0, .int .i64 0, .int .i64 0, .int .i64 0, .int .i64 0, .int .i64 0, .int .i64 0, .int .i64 0, .int .i64 0, .int .i64 0, .int .i64 0, .int .u64 0, .int .u64 0, .int .u64 0, .int .u64 0, .int .u64 0, .int .u64 0, .int .u64 0, .int .i64 0, .int .i64 0, .int .i64 0, .int .u64 0, .int .i64 0, .int .i64 0, .int .i64 0, .int .i64 0, .string ⟨#[]⟩, .slice none 0 0, .slice none 0 0, .string ⟨#[]⟩] m.row 45 rfl (by kernel_rfl) (Mst.row_one m)
              have l65 := Lib.hid l65
              have st1 := Lib.hid st1
              have HS0 := Lib.hid (World.iter_heap W1 ⟨#[118, 108, 99, 67, 73]⟩ 0)
              have H1 : Hid (Below w.heap.size w (W1.iter ⟨#[118, 108, 99, 67, 73]⟩ 0) ∧ Blk (W1.iter ⟨#[118, 108, 99, 67, 73]⟩ 0) w.heap.size m.row ∧ Blk (W1.iter ⟨#[118, 108, 99, 67, 73]⟩ 0) W0.heap.size (m.wiped 0).row ∧ w.heap.size < W0.heap.size ∧ W0.heap.size < W1.heap.size) := by
                have hbe := H0.out.1.trans (hW1.mono H0.out.1.size)
                exact Lib.hid ⟨hbe.alloc hbe.size _, (H0.out.2.1.later hW1).alloc _, hB1.alloc _, H0.out.2.2, hz1⟩
              clear hW1 hB1 hz1
              go_wp2_with (first | (go_at_call 52; refine (mmay_any m.co _).mono ?_; rintro e w9 ⟨rfl, rfl⟩; rw [ho]) | (go_at_call 52; refine (mmay_any m.cv _).mono ?_; rintro e w9 ⟨rfl, rfl⟩; rw [hv]) | (go_at_call 53; refine (containsE _).mono ?_; rintro e w9 ⟨rfl, rfl⟩) | (guard_target =~ wpList _ _ _ (⟨_, Op.load _ (Operand.tmp 1), _, _, _, _⟩ :: _) _ _; refine wpList_load_eq 45 (Operand.tmp 1) rfl rfl l65.out rfl ?_) | (guard_target =~ wpList _ _ _ (⟨_, Op.store _ (Operand.tmp 6) (Operand.tmp 65), _, _, _, _⟩ :: _) _ _; refine wpList_store_eq 45 (Operand.tmp 6) (Operand.tmp 65) rfl rfl st1.out rfl rfl ?_))
              generalize W1.iter ⟨#[118, 108, 99, 67, 73]⟩ 0 = W2 at *
              generalize W1.heap.size = bi at *
              generalize W0.heap.size = g at *
              have HSZ := Lib.hid (And.intro H1.out.2.2.2.1 H1.out.2.2.2.2)
              clear c0 c1 c9 c12 c13 c32
              go_loopw [] (fun wr => ∃ j : Nat, j ≤ 5 ∧ It wr bi ⟨#[118, 108, 99, 67, 73]⟩ j ∧ Blk wr w.heap.size m.row ∧ Blk wr g (m.wiped j).row ∧ Below w.heap.size w wr ∧ (1 ≤ j → okN m.v = true) ∧ (2 ≤ j → okN m.lv = true) ∧ (3 ≤ j → okN m.cm = true)) (fun wr => 5 - wr.iterPos bi)
              case atStart => exact ⟨0, by omega, HS0.out, H1.out.2.1, H1.out.2.2.1, H1.out.1, fun h => absurd h (by omega), fun h => absurd h (by omega), fun h => absurd h (by omega)⟩
              case round =>
                clear H1 HS0 H0 l65 st1 HG
                obtain ⟨j, hj, hI, hB, hC, hbw, hok⟩ := hrel
                rcases (show j = 0 ∨ j = 1 ∨ j = 2 ∨ j = 3 ∨ j = 4 ∨ j = 5 from by omega) with rfl | rfl | rfl | rfl | rfl | rfl
                · obtain ⟨W1, hn, hI1, hT1⟩ := next_it hI (by decide) (by decide)
                  have hn : ∀ ty, (Instr.next (.pointer (some ⟨bi, 0, none⟩)) true ty).run Tryd.prog wr = .ok (.tuple #[.bool true, .int .i64 0, .int .i32 118]) W1 := hn
                  have hs := HSZ.out
                  have hB1 : Blk W1 w.heap.size m.row := hB.turned hT1 (by omega)
                  have hC1 : Blk W1 g (m.wiped 0).row := hC.turned hT1 (by omega)
                  have hbw1 : Below w.heap.size w W1 := hbw.trans (hT1.below (fun q hq => by omega) hbw.size)
                  have HN := Lib.hid hn
                  have HIT := Lib.hid hI
                  have H1 := Lib.hid (And.intro hI1 (And.intro hB1 (And.intro hC1 hbw1)))
                  have cc : W1.cell? ⟨w.heap.size, 2, none⟩ = some (.int .i64 m.v) := (hB1.2 2 _ rfl).1
                  have HOK := Lib.hid hok
                  clear hn hI1 hT1 hB1 hC1 hbw1 hs hI hB hC hbw hok
                  cases hv : okN m.v
                  · go_wp2_with (first | (guard_target =~ wpList _ _ _ (⟨_, Op.next _ _, _, _, _, _⟩ :: _) _ _; refine wpList_next_eq (Operand.tmp 67) rfl rfl HN.out rfl ?_) | (go_at_call 54; refine (number_v _ _).mono ?_; rintro e w9 ⟨rfl, rfl⟩) | (go_at_call 52; refine (mmay_any m.v _).mono ?_; rintro e w9 ⟨rfl, rfl⟩; rw [hv]))
                    go_ret
                    exact NO undef _ H1.out.2.2.2 (by rw [HV.out, hv]; simp)
                  · go_wp2_with (first | (guard_target =~ wpList _ _ _ (⟨_, Op.next _ _, _, _, _, _⟩ :: _) _ _; refine wpList_next_eq (Operand.tmp 67) rfl rfl HN.out rfl ?_) | (go_at_call 54; refine (number_v _ _).mono ?_; rintro e w9 ⟨rfl, rfl⟩) | (go_at_call 52; refine (mmay_any m.v _).mono ?_; rintro e w9 ⟨rfl, rfl⟩; rw [hv]))
                    refine (wipe_v g m _ H1.out.2.2.1).mono ?_
                    rintro e w3 ⟨rfl, hC3, hT3⟩
                    have hI3 : It w3 bi ⟨#[118, 108, 99, 67, 73]⟩ 1 := H1.out.1.turned hT3 (by have := HSZ.out; omega)
                    have hB3 : Blk w3 w.heap.size m.row := H1.out.2.1.turned hT3 (by have := HSZ.out; omega)
                    have hbw3 : Below w.heap.size w w3 := H1.out.2.2.2.trans (hT3.below (fun q hq => by have := HSZ.out; omega) H1.out.2.2.2.size)
                    have H3 := Lib.hid (And.intro hI3 (And.intro hB3 (And.intro hC3 hbw3)))
                    clear hC3 hT3 hI3 hB3 hbw3
                    go_wp2_with fail
                    go_roundw
                    case rel => exact ⟨1, by omega, H3.out.1, H3.out.2.1, H3.out.2.2.1, H3.out.2.2.2, fun _ => trivial, fun h => absurd h (by omega), fun h => absurd h (by omega)⟩
                    case measure =>
                      simp only [iterPos_of H3.out.1, iterPos_of HIT.out]
                      omega
                · obtain ⟨W1, hn, hI1, hT1⟩ := next_it hI (by decide) (by decide)
                  have hn : ∀ ty, (Instr.next (.pointer (some ⟨bi, 0, none⟩)) true ty).run Tryd.prog wr = .ok (.tuple #[.bool true, .int .i64 1, .int .i32 108]) W1 := hn
                  have hs := HSZ.out
                  have hB1 : Blk W1 w.heap.size m.row := hB.turned hT1 (by omega)
                  have hC1 : Blk W1 g (m.wiped 1).row := hC.turned hT1 (by omega)
                  have hbw1 : Below w.heap.size w W1 := hbw.trans (hT1.below (fun q hq => by omega) hbw.size)
                  have HN := Lib.hid hn
                  have HIT := Lib.hid hI
                  have H1 := Lib.hid (And.intro hI1 (And.intro hB1 (And.intro hC1 hbw1)))
                  have cc : W1.cell? ⟨w.heap.size, 3, none⟩ = some (.int .i64 m.lv) := (hB1.2 3 _ rfl).1
                  have HOK := Lib.hid hok
                  clear hn hI1 hT1 hB1 hC1 hbw1 hs hI hB hC hbw hok
                  cases hv : okN m.lv
                  · go_wp2_with (first | (guard_target =~ wpList _ _ _ (⟨_, Op.next _ _, _, _, _, _⟩ :: _) _ _; refine wpList_next_eq (Operand.tmp 67) rfl rfl HN.out rfl ?_) | (go_at_call 54; refine (number_l _ _).mono ?_; rintro e w9 ⟨rfl, rfl⟩) | (go_at_call 52; refine (mmay_any m.lv _).mono ?_; rintro e w9 ⟨rfl, rfl⟩; rw [hv]))
                    go_ret
                    exact NO undef _ H1.out.2.2.2 (by rw [HV.out, hv]; simp)
                  · go_wp2_with (first | (guard_target =~ wpList _ _ _ (⟨_, Op.next _ _, _, _, _, _⟩ :: _) _ _; refine wpList_next_eq (Operand.tmp 67) rfl rfl HN.out rfl ?_) | (go_at_call 54; refine (number_l _ _).mono ?_; rintro e w9 ⟨rfl, rfl⟩) | (go_at_call 52; refine (mmay_any m.lv _).mono ?_; rintro e w9 ⟨rfl, rfl⟩; rw [hv]))
                    refine (wipe_l g m _ H1.out.2.2.1).mono ?_
                    rintro e w3 ⟨rfl, hC3, hT3⟩
                    have hI3 : It w3 bi ⟨#[118, 108, 99, 67, 73]⟩ 2 := H1.out.1.turned hT3 (by have := HSZ.out; omega)
                    have hB3 : Blk w3 w.heap.size m.row := H1.out.2.1.turned hT3 (by have := HSZ.out; omega)
                    have hbw3 : Below w.heap.size w w3 := H1.out.2.2.2.trans (hT3.below (fun q hq => by have := HSZ.out; omega) H1.out.2.2.2.size)
                    have H3 := Lib.hid (And.intro hI3 (And.intro hB3 (And.intro hC3 hbw3)))
                    clear hC3 hT3 hI3 hB3 hbw3
                    go_wp2_with fail
                    go_roundw
                    case rel => exact ⟨2, by omega, H3.out.1, H3.out.2.1, H3.out.2.2.1, H3.out.2.2.2, fun _ => HOK.out.1 (by omega), fun _ => trivial, fun h => absurd h (by omega)⟩
                    case measure =>
                      simp only [iterPos_of H3.out.1, iterPos_of HIT.out]
                      omega
                · obtain ⟨W1, hn, hI1, hT1⟩ := next_it hI (by decide) (by decide)
                  have hn : ∀ ty, (Instr.next (.pointer (some ⟨bi, 0, none⟩)) true ty).run Tryd.prog wr = .ok (.tuple #[.bool true, .int .i64 2, .int .i32 99]) W1 := hn
                  have hs := HSZ.out
                  have hB1 : Blk W1 w.heap.size m.row := hB.turned hT1 (by omega)
                  have hC1 : Blk W1 g (m.wiped 2).row := hC.turned hT1 (by omega)
                  have hbw1 : Below w.heap.size w W1 := hbw.trans (hT1.below (fun q hq => by omega) hbw.size)
                  have HN := Lib.hid hn
                  have HIT := Lib.hid hI
                  have H1 := Lib.hid (And.intro hI1 (And.intro hB1 (And.intro hC1 hbw1)))
                  have cc : W1.cell? ⟨w.heap.size, 5, none⟩ = some (.int .i64 m.cm) := (hB1.2 5 _ rfl).1
                  have HOK := Lib.hid hok
                  clear hn hI1 hT1 hB1 hC1 hbw1 hs hI hB hC hbw hok
                  cases hv : okN m.cm
                  · go_wp2_with (first | (guard_target =~ wpList _ _ _ (⟨_, Op.next _ _, _, _, _, _⟩ :: _) _ _; refine wpList_next_eq (Operand.tmp 67) rfl rfl HN.out rfl ?_) | (go_at_call 54; refine (number_c _ _).mono ?_; rintro e w9 ⟨rfl, rfl⟩) | (go_at_call 52; refine (mmay_any m.cm _).mono ?_; rintro e w9 ⟨rfl, rfl⟩; rw [hv]))
                    go_ret
                    exact NO undef _ H1.out.2.2.2 (by rw [HV.out, hv]; simp)
                  · go_wp2_with (first | (guard_target =~ wpList _ _ _ (⟨_, Op.next _ _, _, _, _, _⟩ :: _) _ _; refine wpList_next_eq (Operand.tmp 67) rfl rfl HN.out rfl ?_) | (go_at_call 54; refine (number_c _ _).mono ?_; rintro e w9 ⟨rfl, rfl⟩) | (go_at_call 52; refine (mmay_any m.cm _).mono ?_; rintro e w9 ⟨rfl, rfl⟩; rw [hv]))
                    refine (wipe_c g m _ H1.out.2.2.1).mono ?_
                    rintro e w3 ⟨rfl, hC3, hT3⟩
                    have hI3 : It w3 bi ⟨#[118, 108, 99, 67, 73]⟩ 3 := H1.out.1.turned hT3 (by have := HSZ.out; omega)
                    have hB3 : Blk w3 w.heap.size m.row := H1.out.2.1.turned hT3 (by have := HSZ.out; omega)
                    have hbw3 : Below w.heap.size w w3 := H1.out.2.2.2.trans (hT3.below (fun q hq => by have := HSZ.out; omega) H1.out.2.2.2.size)
                    have H3 := Lib.hid (And.intro hI3 (And.intro hB3 (And.intro hC3 hbw3)))
                    clear hC3 hT3 hI3 hB3 hbw3
                    go_wp2_with fail
                    go_roundw
                    case rel => exact ⟨3, by omega, H3.out.1, H3.out.2.1, H3.out.2.2.1, H3.out.2.2.2, fun _ => HOK.out.1 (by omega), fun _ => HOK.out.2.1 (by omega), fun _ => trivial⟩
                    case measure =>
                      simp only [iterPos_of H3.out.1, iterPos_of HIT.out]
                      omega
                · obtain ⟨W1, hn, hI1, hT1⟩ := next_it hI (by decide) (by decide)
                  have hn : ∀ ty, (Instr.next (.pointer (some ⟨bi, 0, none⟩)) true ty).run Tryd.prog wr = .ok (.tuple #[.bool true, .int .i64 3, .int .i32 67]) W1 := hn
                  have hs := HSZ.out
                  have hB1 : Blk W1 w.heap.size m.row := hB.turned hT1 (by omega)
                  have hC1 : Blk W1 g (m.wiped 3).row := hC.turned hT1 (by omega)
                  have hbw1 : Below w.heap.size w W1 := hbw.trans (hT1.below (fun q hq => by omega) hbw.size)
                  have HN := Lib.hid hn
                  have HIT := Lib.hid hI
                  have H1 := Lib.hid (And.intro hI1 (And.intro hB1 (And.intro hC1 hbw1)))
                  have HOK := Lib.hid hok
                  clear hn hI1 hT1 hB1 hC1 hbw1 hs hI hB hC hbw hok
                  go_wp2_with (first | (guard_target =~ wpList _ _ _ (⟨_, Op.next _ _, _, _, _, _⟩ :: _) _ _; refine wpList_next_eq (Operand.tmp 67) rfl rfl HN.out rfl ?_) | (go_at_call 54; refine (number_C _ _).mono ?_; rintro e w9 ⟨rfl, rfl⟩))
                  refine (wipe_C g m _ H1.out.2.2.1).mono ?_
                  rintro e w3 ⟨rfl, hC3, hT3⟩
                  have hI3 : It w3 bi ⟨#[118, 108, 99, 67, 73]⟩ 4 := H1.out.1.turned hT3 (by have := HSZ.out; omega)
                  have hB3 : Blk w3 w.heap.size m.row := H1.out.2.1.turned hT3 (by have := HSZ.out; omega)
                  have hbw3 : Below w.heap.size w w3 := H1.out.2.2.2.trans (hT3.below (fun q hq => by have := HSZ.out; omega) H1.out.2.2.2.size)
                  have H3 := Lib.hid (And.intro hI3 (And.intro hB3 (And.intro hC3 hbw3)))
                  clear hC3 hT3 hI3 hB3 hbw3
                  go_wp2_with fail
                  go_roundw
                  case rel => exact ⟨4, by omega, H3.out.1, H3.out.2.1, H3.out.2.2.1, H3.out.2.2.2, fun _ => HOK.out.1 (by omega), fun _ => HOK.out.2.1 (by omega), fun _ => HOK.out.2.2 (by omega)⟩
                  case measure =>
                    simp only [iterPos_of H3.out.1, iterPos_of HIT.out]
                    omega
                · obtain ⟨W1, hn, hI1, hT1⟩ := next_it hI (by decide) (by decide)
                  have hn : ∀ ty, (Instr.next (.pointer (some ⟨bi, 0, none⟩)) true ty).run Tryd.prog wr = .ok (.tuple #[.bool true, .int .i64 4, .int .i32 73]) W1 := hn
                  have hs := HSZ.out
                  have hB1 : Blk W1 w.heap.size m.row := hB.turned hT1 (by omega)
                  have hC1 : Blk W1 g (m.wiped 4).row := hC.turned hT1 (by omega)
                  have hbw1 : Below w.heap.size w W1 := hbw.trans (hT1.below (fun q hq => by omega) hbw.size)
                  have HN := Lib.hid hn
                  have HIT := Lib.hid hI
                  have H1 := Lib.hid (And.intro hI1 (And.intro hB1 (And.intro hC1 hbw1)))
                  have HOK := Lib.hid hok
                  clear hn hI1 hT1 hB1 hC1 hbw1 hs hI hB hC hbw hok
                  go_wp2_with (first | (guard_target =~ wpList _ _ _ (⟨_, Op.next _ _, _, _, _, _⟩ :: _) _ _; refine wpList_next_eq (Operand.tmp 67) rfl rfl HN.out rfl ?_) | (go_at_call 54; refine (number_I _ _).mono ?_; rintro e w9 ⟨rfl, rfl⟩))
                  refine (wipe_I g m _ H1.out.2.2.1).mono ?_
                  rintro e w3 ⟨rfl, hC3, hT3⟩
                  have hI3 : It w3 bi ⟨#[118, 108, 99, 67, 73]⟩ 5 := H1.out.1.turned hT3 (by have := HSZ.out; omega)
                  have hB3 : Blk w3 w.heap.size m.row := H1.out.2.1.turned hT3 (by have := HSZ.out; omega)
                  have hbw3 : Below w.heap.size w w3 := H1.out.2.2.2.trans (hT3.below (fun q hq => by have := HSZ.out; omega) H1.out.2.2.2.size)
                  have H3 := Lib.hid (And.intro hI3 (And.intro hB3 (And.intro hC3 hbw3)))
                  clear hC3 hT3 hI3 hB3 hbw3
                  go_wp2_with fail
                  go_roundw
                  case rel => exact ⟨5, by omega, H3.out.1, H3.out.2.1, H3.out.2.2.1, H3.out.2.2.2, fun _ => HOK.out.1 (by omega), fun _ => HOK.out.2.1 (by omega), fun _ => HOK.out.2.2 (by omega)⟩
                  case measure =>
                    simp only [iterPos_of H3.out.1, iterPos_of HIT.out]
                    omega

                · have he := Lib.hid (fun ty => next_end hI (by decide) ty)
                  have HOK := Lib.hid hok
                  have l84 := Lib.hid (m_load hC)
                  have HB := Lib.hid (And.intro hbw hB)
                  clear hI hB hC hbw hok
                  go_wp2_with (first | (guard_target =~ wpList _ _ _ (⟨_, Op.next _ _, _, _, _, _⟩ :: _) _ _; refine wpList_next_eq (Operand.tmp 67) rfl rfl he.out rfl ?_) | (guard_target =~ wpList _ _ _ (⟨_, Op.load _ (Operand.tmp 6), _, _, _, _⟩ :: _) _ _; refine wpList_load_eq 45 (Operand.tmp 6) rfl rfl l84.out rfl ?_))
                  refine (empty_any _ _).mono ?_
                  rintro e w3 ⟨rfl, hb3⟩
                  have H3 := Lib.hid (And.intro (HB.out.1.trans (hb3.mono HB.out.1.size)) (HB.out.2.later hb3))
                  have l87 := Lib.hid (m_load H3.out.2)
                  clear hb3 HB l84
                  cases hem : emptyB (m.wiped 5)
                  · go_wp2_with fail
                    go_ret
                    exact NO undef _ H3.out.1 (by rw [HV.out, hem]; simp)
                  · go_wp2_with (first | (guard_target =~ wpList _ _ _ (⟨_, Op.load _ (Operand.tmp 1), _, _, _, _⟩ :: _) _ _; refine wpList_load_w 45 (Operand.tmp 1) (by kernel_rfl) rfl l87.out rfl ?_))
                    refine (lists_any m _ (HIN.out.below H3.out.1 (Nat.le_refl _))).mono ?_
                    rintro e w4 ⟨rfl, hb4⟩
                    have H4 := Lib.hid (H3.out.1.trans (hb4.mono H3.out.1.size))
                    clear hb4
                    go_wp2_with fail
                    go_ret
                    refine ⟨?_, H4.out⟩
                    show Ending.returned (Value.bool (listsB m)) = _
                    rw [HV.out, decide_eq_true HF.out.1, decide_eq_true HF.out.2.1, decide_eq_true HF.out.2.2, HC.out.1, HC.out.2.1, decide_eq_true HC.out.2.2, HOK.out.1 (by omega), HOK.out.2.1 (by omega), HOK.out.2.2 (by omega), hem]
                    rfl
end Go.Proofs.YtpbjjmenkoigjaaDoor

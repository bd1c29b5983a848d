/- The walk of MailOnce. -/
import Derived.Test.YtnldjddmchfcoaaMailI
namespace Go.Proofs.Ytnldjddmchfcoaa
open Go.RowKit Go.Conc
set_option linter.unusedVariables false
theorem pErr_zero (cap : Nat) (L : List Ltr) (x : Ltr) : (pErr cap L x = 0 → pL cap L x = L ++ [x] ∧ L.length < cap) ∧ (pErr cap L x ≠ 0 → pL cap L x = L) := by
  unfold pErr pL
  by_cases q : L.length < cap
  · by_cases q2 : 4096 < x.d.size
    · rw [if_pos q, if_pos q2, if_neg (fun h => h.2 q2)]
      exact ⟨fun h => absurd h (by decide), fun _ => rfl⟩
    · rw [if_pos q, if_neg q2, if_pos ⟨q, q2⟩]
      exact ⟨fun _ => ⟨rfl, q⟩, fun h => absurd rfl h⟩
  · rw [if_neg q, if_neg (fun h => q h.1)]
    exact ⟨fun h => absurd h (by decide), fun _ => rfl⟩
theorem OwnC.zero {Y : Nat → Prop} {w : World} {b : Nat} {cap : Nat} (hb : Y b) (hlt : b < w.heap.size) (hc : cap = 0) : OwnC Y w (.slice (some ⟨b, 0, none⟩) 0 cap) 0 3 (lcells []) := by
  subst hc
  exact ⟨rfl, .inr ⟨b, 0, 0, rfl, hb, hlt, Nat.le_refl _, fun j u hu => by simp [lcells] at hu, fun j hj => by omega⟩⟩
set_option maxRecDepth 100000 in
set_option maxHeartbeats 40000000 in
theorem monce_core (w : World) (cap : Nat) (ad : Option Addr) (cp1 : Nat) (A : List (List Value)) (hcap : 1 ≤ cap ∧ cap ≤ 4096) (hA : RowsAt w ad 4 A) (hlc : A.length ≤ cp1) (hcp : cp1 ≤ maxLen)
    (ht : ∀ r ∈ A, ∃ (c0 c1 c2 : Int) (c3 : ByteArray), r = [.int .i64 c0, .int .i64 c1, .int .i64 c2, .string c3] ∧ (-9223372036854775808 ≤ c0 ∧ c0 ≤ 9223372036854775807) ∧ (-9223372036854775808 ≤ c1 ∧ c1 ≤ 9223372036854775807) ∧ (-9223372036854775808 ≤ c2 ∧ c2 ≤ 9223372036854775807)) :
    Calls Try.prog 5 #[.int .i64 (cap : Int), .slice ad A.length cp1] w fun e w' => e = .returned (.bool true) ∧ Below w.heap.size w w' := by
  have HROW := Lib.hid (fun (i : Nat) (hi : i < A.length) => row4 hA ht i hi)
  have HCAP := Lib.hid (And.intro hlc hcp)
  obtain ⟨n, hn⟩ : ∃ n, n = A.length := ⟨_, rfl⟩
  have HN := Lib.hid hn
  rw [← hn]
  have HNB : Hid (∀ w1, Calls Try.prog 17 #[.int .i64 (cap : Int)] w1 fun e w' => e = .returned (.tuple #[.pointer (some ⟨w1.heap.size + 1, 0, none⟩), .int .i64 0]) ∧ Bx w' (w1.heap.size + 1) w1.heap.size cap [] ∧ Below w1.heap.size w1 w') := Lib.hid (fun w1 => by
    have := new_bx cap w1 (by omega)
    rwa [show ((cap : Int)).toNat = cap by omega] at this)
  clear hA ht hlc hcp hn hcap
  go_enter Try.func5, Try.ntmps5
  go_wp2_with fail
  refine (awake20_any _).mono ?_
  rintro e w1 ⟨rfl, hb1⟩
  have B1 := Lib.hid hb1
  clear hb1
  go_wp2_with fail
  refine (HNB.out _).mono ?_
  rintro e w2 ⟨rfl, hB, hb2⟩
  obtain ⟨g, hg⟩ : ∃ g, g = w1.heap.size + 1 := ⟨_, rfl⟩
  have H2 := Lib.hid (And.intro hB (And.intro hb2 hg))
  rw [← hg]
  clear hB hb2 hg HNB
  go_wp2_with fail
  have hOS : OS w ((w2.alloc (.cells #[] 40)).alloc (.cells #[] 40)) g w1.heap.size cap [] (.slice (some ⟨w2.heap.size, 0, none⟩) 0 0) (.slice (some ⟨w2.heap.size + 1, 0, none⟩) 0 0) [] [] := by
    obtain ⟨hB, hb2, hg⟩ := H2.out
    rw [← hg] at hB
    have hs1 := B1.out.size
    have hs2 := hb2.size
    have hgw := hB.2.1.1
    have hcw := hB.2.2.1
    have hbb : Below w2.heap.size w2 ((w2.alloc (.cells #[] 40)).alloc (.cells #[] 40)) := ((Below.refl _ _).alloc (Nat.le_refl _) _).alloc (by simp) _
    exact ⟨hB.later hbb, ⟨by omega, hs1⟩, (B1.out.trans (hb2.mono hs1)).trans (hbb.mono (Nat.le_trans hs1 hs2)), fun q => q = w2.heap.size, fun q => q = w2.heap.size + 1, OwnC.zero rfl (by simp; omega) rfl, OwnC.zero rfl (by simp) rfl, fun q h1 h2 => by omega, fun q h => by subst h; exact ⟨by omega, by omega, by omega, by simp; omega⟩, fun q h => by subst h; exact ⟨by omega, by omega, by omega, by simp⟩⟩
  have HOS := Lib.hid hOS
  clear hOS H2
  generalize w1.heap.size = c at *
  generalize (w2.alloc (.cells #[] 40)).alloc (.cells #[] 40) = w3 at *
  go_loopw [7, 8, 9] (fun vi vo iv wr => ∃ j : Nat, j ≤ n ∧ j ≤ 80 ∧ iv = .int .i64 j ∧ ∃ L I O : List Ltr, I = O ++ L ∧ L.length ≤ cap ∧ I.length ≤ j ∧ OS w wr g c cap L vi vo I O) (fun _ _ iv _ => 81 - (intOf iv).toNat)
  case atStart => exact ⟨0, by omega, by omega, rfl, [], [], [], rfl, Nat.zero_le _, Nat.le_refl _, HOS.out⟩
  case round =>
    clear HOS
    obtain ⟨j, hj, hj80, rfl, L, I, O, hI, hLc, hIj, hOS⟩ := hrel
    obtain ⟨x0, cp, y0, cq, rfl, rfl⟩ := hOS.shape
    have HOS := Lib.hid hOS
    have HI := Lib.hid (And.intro hI (And.intro hLc hIj))
    clear hOS hI hLc hIj
    by_cases hlt : j < n ∧ j < 80
    · obtain ⟨hlt1, hlt2⟩ := hlt
      obtain ⟨b0, o0, kd, x, rfl, c0, c1, c2, c3⟩ := HROW.out j (by rw [← HN.out]; exact hlt1)
      have hjn : j < n := hlt1
      have c0' : wr.cell? ⟨b0, o0 + j * 4, none⟩ = some (.int .i64 kd) := HOS.out.cell c0
      have c1' : wr.cell? ⟨b0, o0 + j * 4 + 1, none⟩ = some (.int .i64 x.f) := HOS.out.cell c1
      have c2' : wr.cell? ⟨b0, o0 + j * 4 + 2, none⟩ = some (.int .i64 x.t) := HOS.out.cell c2
      have c3' : wr.cell? ⟨b0, o0 + j * 4 + 3, none⟩ = some (.string x.d) := HOS.out.cell c3
      obtain ⟨ni, hni⟩ : ∃ ni, ni = I.length := ⟨_, rfl⟩
      obtain ⟨no, hno⟩ : ∃ no, no = O.length := ⟨_, rfl⟩
      have HNI := Lib.hid hni
      have HNO := Lib.hid hno
      rw [← hni, ← hno] at HOS ⊢
      clear hni hno
      by_cases hk1 : kd = 1
      · subst hk1
        have hcap2 : ¬ (cap : Int) < 0 := by omega
        obtain ⟨ev, hev⟩ : ∃ ev, ev = pErr cap L x := ⟨_, rfl⟩
        have HP := Lib.hid (os_put HOS.out x)
        have HE := Lib.hid (pErr_zero cap L x)
        rw [← hev] at HP HE
        clear hev
        by_cases he : ev = 0
        · subst he
          obtain ⟨hpl, hlc⟩ := HE.out.1 rfl
          rw [hpl] at HP
          clear hpl HE
          go_wp2_with fail
          refine (HP.out).mono ?_
          rintro e w4 ⟨rfl, hS4⟩
          have d1 : w4.cell? ⟨b0, o0 + j * 4 + 1, none⟩ = some (.int .i64 x.f) := hS4.cell c1
          have d2 : w4.cell? ⟨b0, o0 + j * 4 + 2, none⟩ = some (.int .i64 x.t) := hS4.cell c2
          have d3 : w4.cell? ⟨b0, o0 + j * 4 + 3, none⟩ = some (.string x.d) := hS4.cell c3
          clear c0' c1' c2' c3'
          obtain ⟨x1, cp9, w5, hrun, hS5⟩ := os_in x hS4 HNI.out (by rw [HNI.out]; have := HI.out.2.2; omega)
          have hrun : (Builtin.append_ #[47, 47] 47 #[.slice x0 ni cp, .slice (some ⟨w4.heap.size, 0, none⟩) 1 1]).run Try.prog (w4.alloc (.cells #[.int .i64 x.f, .int .i64 x.t, .string x.d] 40)) = .ok (.slice x1 (ni + 1) cp9) w5 := hrun
          have HS5 := Lib.hid hS5
          clear hS4 hS5 c1 c2 c3
          go_wp2_with (at_builtin; refine app_run rfl _ _ rfl rfl _ _ rfl rfl hrun ?_)
          clear hrun d1 d2 d3
          obtain ⟨L2, hL2⟩ : ∃ L2, L2 = L ++ [x] := ⟨_, rfl⟩
          obtain ⟨ni2, hni2⟩ : ∃ ni2, ni2 = ni + 1 := ⟨_, rfl⟩
          obtain ⟨no2, hno2⟩ : ∃ no2, no2 = no := ⟨_, rfl⟩
          have HX2 : Hid (I ++ [x] = O ++ L2 ∧ L2.length ≤ cap ∧ (I ++ [x]).length ≤ j + 1) := Lib.hid (by
            rw [hL2, HI.out.1, List.append_assoc]
            refine ⟨rfl, by rw [List.length_append, List.length_singleton]; omega, ?_⟩
            have := HI.out.2.2
            rw [← List.append_assoc, ← HI.out.1, List.length_append, List.length_singleton]
            omega)
          have HI2 : Hid (ni2 = no2 + L2.length ∧ L2.length ≤ cap ∧ ni2 ≤ 1000) := Lib.hid (by
            have h1 := congrArg List.length HI.out.1
            rw [List.length_append] at h1
            rw [hni2, hno2, hL2, List.length_append, List.length_singleton, HNI.out, HNO.out]
            have := HI.out.2.2
            omega)
          have hSX : OS w w5 g c cap L2 (.slice x1 ni2 cp9) (.slice y0 no2 cq) (I ++ [x]) O := by rw [hL2, hni2, hno2]; exact HS5.out
          rw [← hni2, ← hno2]
          clear hL2 hni2 hno2 HS5 hlc HP
          obtain ⟨ln2, hln2⟩ : ∃ ln2, ln2 = L2.length := ⟨_, rfl⟩
          have HLEN := Lib.hid (os_len hSX hln2)
          have hnn := HI2.out
          rw [← hln2] at hnn
          have hq1 : ¬ (cap : Int) < ln2 := by omega
          have hq2 : (ni2 : Int) - no2 = ln2 := by omega
          have hwl : IntKind.i64.wrap (ln2 : Int) = ln2 := IntWalk.i64_in _ (by omega)
          clear hln2 hnn
          go_wp2_with (go_at_call 25; refine (HLEN.out).mono ?_; rintro e w' ⟨rfl, rfl⟩)
          go_roundw
          case rel => exact ⟨j + 1, by omega, by omega, by go_num, L2, _, _, HX2.out.1, HX2.out.2.1, HX2.out.2.2, hSX⟩
          case measure => simp [intOf]; omega
        · have he' : (ev == 0) = false := by simp [he]
          have hpl := HE.out.2 he
          rw [hpl] at HP
          clear hpl HE he
          go_wp2_with fail
          refine (HP.out).mono ?_
          rintro e w5 ⟨rfl, hS5⟩
          clear c1 c2 c3 c0' c1' c2' c3'
          obtain ⟨L2, hL2⟩ : ∃ L2, L2 = L := ⟨_, rfl⟩
          obtain ⟨ni2, hni2⟩ : ∃ ni2, ni2 = ni := ⟨_, rfl⟩
          obtain ⟨no2, hno2⟩ : ∃ no2, no2 = no := ⟨_, rfl⟩
          have HX2 : Hid (I = O ++ L2 ∧ L2.length ≤ cap ∧ I.length ≤ j + 1) := Lib.hid (by
            rw [hL2]
            exact ⟨HI.out.1, HI.out.2.1, by have := HI.out.2.2; omega⟩)
          have HI2 : Hid (ni2 = no2 + L2.length ∧ L2.length ≤ cap ∧ ni2 ≤ 1000) := Lib.hid (by
            have h1 := congrArg List.length HI.out.1
            rw [List.length_append] at h1
            rw [hni2, hno2, hL2, HNI.out, HNO.out]
            have := HI.out.2
            omega)
          have hSX : OS w w5 g c cap L2 (.slice x0 ni2 cp) (.slice y0 no2 cq) I O := by rw [hL2, hni2, hno2]; exact hS5
          rw [← hni2, ← hno2]
          clear hL2 hni2 hno2 hS5 HP
          obtain ⟨ln2, hln2⟩ : ∃ ln2, ln2 = L2.length := ⟨_, rfl⟩
          have HLEN := Lib.hid (os_len hSX hln2)
          have hnn := HI2.out
          rw [← hln2] at hnn
          have hq1 : ¬ (cap : Int) < ln2 := by omega
          have hq2 : (ni2 : Int) - no2 = ln2 := by omega
          have hwl : IntKind.i64.wrap (ln2 : Int) = ln2 := IntWalk.i64_in _ (by omega)
          clear hln2 hnn
          go_wp2_with (go_at_call 25; refine (HLEN.out).mono ?_; rintro e w' ⟨rfl, rfl⟩)
          go_roundw
          case rel => exact ⟨j + 1, by omega, by omega, by go_num, L2, _, _, HX2.out.1, HX2.out.2.1, HX2.out.2.2, hSX⟩
          case measure => simp [intOf]; omega
      · have hk1' : (kd == 1) = false := by simp [hk1]
        obtain ⟨y, ok, hy1, hy2, HT⟩ := os_take HOS.out
        have HT := Lib.hid HT
        clear hk1 c1 c2 c3 c1' c2' c3'
        cases hL : L with
        | nil =>
          obtain ⟨rfl, rfl⟩ := hy2 hL
          clear hy1 hy2
          have HT : Hid (Calls Try.prog 21 #[.pointer (some ⟨g, 0, none⟩)] wr fun e w' => e = .returned (.tuple #[.agg #[.int .i64 0, .int .i64 0, .string ⟨#[]⟩], .bool false]) ∧ OS w w' g c cap L (.slice x0 ni cp) (.slice y0 no cq) I O) := Lib.hid (by have := HT.out; rw [hL] at this ⊢; exact this)
          clear hL
          go_wp2_with fail
          refine (HT.out).mono ?_
          rintro e w4 ⟨rfl, hS4⟩
          have hS5 := hS4.later ((Below.refl _ _).alloc (Nat.le_refl _) (.cells #[.int .i64 0, .int .i64 0, .string ⟨#[]⟩] 40))
          have HS5 := Lib.hid hS5
          clear hS4 hS5 c0' HT
          obtain ⟨L2, hL2⟩ : ∃ L2, L2 = L := ⟨_, rfl⟩
          obtain ⟨ni2, hni2⟩ : ∃ ni2, ni2 = ni := ⟨_, rfl⟩
          obtain ⟨no2, hno2⟩ : ∃ no2, no2 = no := ⟨_, rfl⟩
          have HX2 : Hid (I = O ++ L2 ∧ L2.length ≤ cap ∧ I.length ≤ j + 1) := Lib.hid (by
            rw [hL2]
            exact ⟨HI.out.1, HI.out.2.1, by have := HI.out.2.2; omega⟩)
          have HI2 : Hid (ni2 = no2 + L2.length ∧ L2.length ≤ cap ∧ ni2 ≤ 1000) := Lib.hid (by
            have h1 := congrArg List.length HI.out.1
            rw [List.length_append] at h1
            rw [hni2, hno2, hL2, HNI.out, HNO.out]
            have := HI.out.2
            omega)
          have hSX : OS w (w4.alloc (.cells #[.int .i64 0, .int .i64 0, .string ⟨#[]⟩] 40)) g c cap L2 (.slice x0 ni2 cp) (.slice y0 no2 cq) I O := by rw [hL2, hni2, hno2]; exact HS5.out
          rw [← hni2, ← hno2]
          clear hL2 hni2 hno2 HS5
          obtain ⟨ln2, hln2⟩ : ∃ ln2, ln2 = L2.length := ⟨_, rfl⟩
          have HLEN := Lib.hid (os_len hSX hln2)
          have hnn := HI2.out
          rw [← hln2] at hnn
          have hq1 : ¬ (cap : Int) < ln2 := by omega
          have hq2 : (ni2 : Int) - no2 = ln2 := by omega
          have hwl : IntKind.i64.wrap (ln2 : Int) = ln2 := IntWalk.i64_in _ (by omega)
          clear hln2 hnn
          go_wp2_with (go_at_call 25; refine (HLEN.out).mono ?_; rintro e w' ⟨rfl, rfl⟩)
          go_roundw
          case rel => exact ⟨j + 1, by omega, by omega, by go_num, L2, _, _, HX2.out.1, HX2.out.2.1, HX2.out.2.2, hSX⟩
          case measure => simp [intOf]; omega
        | cons q r =>
          obtain ⟨rfl, rfl⟩ := hy1 q r hL
          clear hy1 hy2
          have HT : Hid (Calls Try.prog 21 #[.pointer (some ⟨g, 0, none⟩)] wr fun e w' => e = .returned (.tuple #[.agg #[.int .i64 y.f, .int .i64 y.t, .string y.d], .bool true]) ∧ OS w w' g c cap r (.slice x0 ni cp) (.slice y0 no cq) I O) := Lib.hid (by have := HT.out; rw [hL] at this; exact this)
          go_wp2_with fail
          refine (HT.out).mono ?_
          rintro e w4 ⟨rfl, hS4⟩
          have hS5 := hS4.later ((Below.refl _ _).alloc (Nat.le_refl _) (.cells #[.int .i64 y.f, .int .i64 y.t, .string y.d] 40))
          obtain ⟨x1, cp9, w5, hrun, hS6⟩ := os_out y hS5 HNO.out (by
            have h1 := congrArg List.length HI.out.1
            rw [List.length_append] at h1
            have := HI.out.2.2
            rw [HNO.out]
            omega)
          have hrun : (Builtin.append_ #[47, 47] 47 #[.slice y0 no cq, .slice (some ⟨w4.heap.size + 1, 0, none⟩) 1 1]).run Try.prog ((w4.alloc (.cells #[.int .i64 y.f, .int .i64 y.t, .string y.d] 40)).alloc (.cells #[.int .i64 y.f, .int .i64 y.t, .string y.d] 40)) = .ok (.slice x1 (no + 1) cp9) w5 := by simpa using hrun
          have HS6 := Lib.hid hS6
          clear hS4 hS5 hS6 c0' HT
          go_wp2_with (at_builtin; refine app_run rfl _ _ rfl rfl _ _ rfl rfl hrun ?_)
          clear hrun
          obtain ⟨L2, hL2⟩ : ∃ L2, L2 = r := ⟨_, rfl⟩
          obtain ⟨ni2, hni2⟩ : ∃ ni2, ni2 = ni := ⟨_, rfl⟩
          obtain ⟨no2, hno2⟩ : ∃ no2, no2 = no + 1 := ⟨_, rfl⟩
          have HX2 : Hid (I = (O ++ [y]) ++ L2 ∧ L2.length ≤ cap ∧ I.length ≤ j + 1) := Lib.hid (by
            rw [hL2]
            refine ⟨by rw [HI.out.1, hL, List.append_assoc]; rfl, ?_, by have := HI.out.2.2; omega⟩
            have h2 := HI.out.2.1
            rw [hL, List.length_cons] at h2
            omega)
          have HI2 : Hid (ni2 = no2 + L2.length ∧ L2.length ≤ cap ∧ ni2 ≤ 1000) := Lib.hid (by
            have h1 := congrArg List.length HI.out.1
            rw [List.length_append, hL, List.length_cons] at h1
            have h2 := HI.out.2
            rw [hL, List.length_cons] at h2
            rw [hni2, hno2, hL2, HNI.out, HNO.out]
            omega)
          have hSX : OS w w5 g c cap L2 (.slice x0 ni2 cp) (.slice x1 no2 cp9) I (O ++ [y]) := by rw [hL2, hni2, hno2]; exact HS6.out
          rw [← hni2, ← hno2]
          clear hL2 hni2 hno2 HS6 hL
          obtain ⟨ln2, hln2⟩ : ∃ ln2, ln2 = L2.length := ⟨_, rfl⟩
          have HLEN := Lib.hid (os_len hSX hln2)
          have hnn := HI2.out
          rw [← hln2] at hnn
          have hq1 : ¬ (cap : Int) < ln2 := by omega
          have hq2 : (ni2 : Int) - no2 = ln2 := by omega
          have hwl : IntKind.i64.wrap (ln2 : Int) = ln2 := IntWalk.i64_in _ (by omega)
          clear hln2 hnn
          go_wp2_with (go_at_call 25; refine (HLEN.out).mono ?_; rintro e w' ⟨rfl, rfl⟩)
          go_roundw
          case rel => exact ⟨j + 1, by omega, by omega, by go_num, L2, _, _, HX2.out.1, HX2.out.2.1, HX2.out.2.2, hSX⟩
          case measure => simp [intOf]; omega
    · have hbr : (¬ j < n) ∨ (j < n ∧ ¬ j < 80) := by omega
      clear hlt
      have HJ := Lib.hid (os_join HOS.out HI.out.1 (by have := HI.out.2.2; omega))
      rcases hbr with q1 | ⟨q1, q2⟩
      all_goals
        go_wp2_with fail
        refine (HJ.out).mono ?_
        rintro e w4 ⟨v, vo', w5, rfl, hrun, hR1, hR2, hB, hbel⟩
        have HR := Lib.hid (same_l hR1 hR2 (by have := HI.out.2.2; omega))
        have HLN := Lib.hid (fun m : Nat => len_bx (hB.later (W' := w5.drewN m) ⟨rfl, rfl, rfl, Nat.le_refl _, fun _ _ => rfl⟩))
        have HBE := Lib.hid (fun m : Nat => (show Below w.heap.size w (w5.drewN m) from ⟨hbel.os, hbel.tape, hbel.output, hbel.size, hbel.block⟩))
        clear hR1 hR2 hB hbel HJ
        go_wp2_with (first | (at_builtin; refine app_run rfl _ _ rfl rfl _ _ rfl rfl hrun ?_) | (go_at_call 23; refine (HR.out).mono ?_; rintro e w' ⟨rfl, m, rfl⟩) | (go_at_call 25; refine (HLN.out _).mono ?_; rintro e w' ⟨rfl, rfl⟩))
        go_ret
        exact ⟨rfl, HBE.out _⟩
end Go.Proofs.Ytnldjddmchfcoaa

/- append of steps; the walk of BudgetLess. -/
import Derived.Test.YtecaahcmebdglaaBudI
import Derived.Test.YtecaahcmebdglaaOwnC
namespace Go.Proofs.Ytecaahcmebdglaa
open Go.RowKit
set_option linter.unusedVariables false
theorem info_stp : ∃ i : TypeInfo, Try.prog.info? 34 = some i ∧ i.zero = some (.agg #[.int .i64 0, .int .i64 0, .int .i64 0, .int .i64 0, .int .i64 0, .int .i64 0, .int .i64 0, .string ⟨#[]⟩, .slice none 0 0]) ∧ i.size = 9 ∧ i.bytes = 96 := ⟨_, rfl, rfl, rfl, rfl⟩
def bcells (l : List Bst) : List Value := l.flatMap Bst.row
theorem bcells_get {l : List Bst} {i : Nat} {x : Bst} (hx : l[i]? = some x) {j : Nat} {u : Value} (hu : x.row[j]? = some u) : (bcells l)[i * 9 + j]? = some u := by
  have hrow : ∀ y : Bst, y.row.length = 9 := fun y => rfl
  have hj : j < 9 := by
    have := (List.getElem?_eq_some_iff.1 hu).1
    rwa [hrow] at this
  unfold bcells
  induction l generalizing i with
  | nil => simp at hx
  | cons y l ih =>
    rw [List.flatMap_cons]
    cases i with
    | zero =>
      simp at hx
      subst hx
      rw [List.getElem?_append_left (by rw [hrow]; omega), Nat.zero_mul, Nat.zero_add]
      exact hu
    | succ i =>
      rw [List.getElem?_append_right (by rw [hrow]; omega), hrow, show (i + 1) * 9 + j - 9 = i * 9 + j by omega]
      exact ih (by simpa using hx)
theorem bcells_one (l : List Bst) (x : Bst) : bcells l ++ x.row = bcells (l ++ [x]) := by simp [bcells]
theorem OwnC.steps {Y : Nat → Prop} {w : World} {ad : Option Addr} {cap : Nat} {l : List Bst} (h : OwnC Y w (.slice ad l.length cap) l.length 9 (bcells l)) : StepsAt w ad l ∧ l.length ≤ cap := by
  rcases h.2 with ⟨hv, h0⟩ | ⟨b, off, cp, hv, hY, hlt, hc, h3, _⟩
  · injection hv with h1 h2 h3
    obtain rfl : l = [] := List.eq_nil_of_length_eq_zero h0
    exact ⟨fun i x hx => by simp at hx, Nat.zero_le _⟩
  · injection hv with h1 h2 h4
    subst h1 h4
    exact ⟨fun i x hx => ⟨b, off, rfl, hlt, fun j u hu => by rw [Nat.add_assoc]; exact h3 _ _ (bcells_get hx hu)⟩, hc⟩
theorem run_stp {Y : Nat → Prop} {w0 : World} {x0 : Option Addr} {n cap : Nat} {cs : List Value} (x : Bst) (hO : OwnC Y w0 (.slice x0 n cap) n 9 cs) (hn : n ≤ 1000000) :
    ∃ x' cap' w', (Builtin.append_ #[30, 30] 30 #[.slice x0 n cap, .slice (some ⟨w0.heap.size, 0, none⟩) 1 1]).run Try.prog (w0.alloc (.cells x.row.toArray 34)) = .ok (.slice x' (n + 1) cap') w' ∧ OwnC (fun q => Y q ∨ w0.heap.size ≤ q) w' (.slice x' (n + 1) cap') (n + 1) 9 (cs ++ x.row) ∧ Turned Y w0 w' := by
  have hnews : ∀ (j : Nat) (u : Value), x.row[j]? = some u → (w0.alloc (.cells x.row.toArray 34)).cell? ((⟨w0.heap.size, 0, none⟩ : Addr).add j) = some u := by
    intro j u hu
    have hadd : (⟨w0.heap.size, 0, none⟩ : Addr).add j = ⟨w0.heap.size, 0 + j, none⟩ := by unfold Addr.add; split <;> simp_all
    rw [hadd, Nat.zero_add, cell_of_row _ _ _ _ _ _ (heap_alloc_new w0 _)]
    simpa using hu
  obtain ⟨i0, hi0, hi1, hi2, hi3⟩ := info_stp
  obtain ⟨v', w2, hrun, hO2, hT2⟩ := run_app (P := Try.prog) 30 30 34 i0 (.agg #[.int .i64 0, .int .i64 0, .int .i64 0, .int .i64 0, .int .i64 0, .int .i64 0, .int .i64 0, .string ⟨#[]⟩, .slice none 0 0]) 96 Try.underlying30 hi0 hi1 hi2 hi3 rfl (by decide) (hO.later ((Below.refl _ _).alloc (Nat.le_refl _) (.cells x.row.toArray 34))) ⟨w0.heap.size, 0, none⟩ 1 1 x.row rfl hnews (by simp [Bst.row, Value.oneCell']) (by rw [show maxLen = 9223372036854775807 from rfl]; omega) (by omega)
  obtain ⟨x', cap', rfl⟩ : ∃ x' cap', v' = .slice x' (n + 1) cap' := by
    rcases hO2.2 with ⟨_, h0⟩ | ⟨b, off, cp, hv, _⟩
    · omega
    · exact ⟨_, _, hv⟩
  exact ⟨x', cap', w2, hrun, hO2.mono (fun q h => h.imp id (fun h => by simp at h; omega)), (Turned.alloc w0 Y _).trans hT2 (fun q h => .inl h)⟩
theorem app_stp {Y : Nat → Prop} {wr : World} {ops : Array Oper} {rest : List Oper} {o : Oper} {a : Act} {Q : Exit → Act → World → Prop} (hgd : o.guard = none) (s x : Operand)
    (ho : o.op = .call { callee := .builtin .append, args := #[s, x], argTypes := #[30, 30] }) (hty : o.type = 30) (x0 : Option Addr) (n cap : Nat) (cs : List Value) (hs : a.eval s = .slice x0 n cap) (hO : OwnC Y wr (.slice x0 n cap) n 9 cs)
    (b : Bst) (row : Array Value) (hrow : row = b.row.toArray) (nb : Nat) (hx : a.eval x = .slice (some ⟨nb, 0, none⟩) 1 1) (hnb : nb = wr.heap.size) (hn : n ≤ 1000000)
    (h : ∀ x' cap' w', OwnC (fun q => Y q ∨ wr.heap.size ≤ q) w' (.slice x' (n + 1) cap') (n + 1) 9 (cs ++ b.row) → Turned Y wr w' → wpList Try.prog ops Q rest (a.put o.dst (.slice x' (n + 1) cap')) w') : wpList Try.prog ops Q (o :: rest) a (wr.alloc (.cells row 34)) := by
  subst hnb hrow
  obtain ⟨x', cap', w2, hrun, hO2, hT2⟩ := run_stp b hO hn
  refine wpList_plain hgd fun K hK => ?_
  unfold Oper.wp
  simp only [execOp, ho, resolve, invoke, builtin, Sem.run_bind, Sem.run_pure, Result.andThen_ok, List.map_toArray, List.map_cons, List.map_nil, hs, hx, hty, hrun]
  exact hK _ _ (h x' cap' w2 hO2 hT2)
theorem Bs.turned {w wr w' : World} {r c : Int} (h : Bs w wr r c) (ht : Turned (fun q => w.heap.size < q) wr w') : Bs w w' r c :=
  ⟨h.1.trans (ht.below (fun q hq => Nat.le_of_lt hq) h.1.size), Nat.lt_of_lt_of_le h.2.1 ht.size, (ht.cell (p := ⟨w.heap.size, 0, none⟩) h.2.1 (Nat.lt_irrefl _)).trans h.2.2.1, (ht.cell (p := ⟨w.heap.size, 1, none⟩) h.2.1 (Nat.lt_irrefl _)).trans h.2.2.2⟩
theorem ints_at {w : World} {p : Option Addr} {l : List Int} (h : IntsAt w p l) : ∀ i x, l[i]? = some x → ∃ b off, p = some ⟨b, off, none⟩ ∧ w.cell? ⟨b, off + i, none⟩ = some (.int .i64 x) := by
  intro i x hx
  cases p with
  | none => rw [h.1 rfl] at hx; simp at hx
  | some a =>
    obtain ⟨b, off, spot⟩ := a
    have hl : i < l.length := (List.getElem?_eq_some_iff.1 hx).1
    have hsp : spot = none := by
      have h0 := h.2 _ rfl 0 (l[0]'(by omega)) (List.getElem?_eq_getElem (by omega))
      cases spot with
      | none => rfl
      | some q =>
        simp [Addr.add, World.cell?] at h0
        split at h0 <;> simp at h0
    subst hsp
    have := h.2 _ rfl i x hx
    rw [show (⟨b, off, none⟩ : Addr).add i = ⟨b, off + i, none⟩ by unfold Addr.add; split <;> simp_all] at this
    exact ⟨b, off, rfl, this⟩

set_option maxHeartbeats 8000000 in
set_option maxRecDepth 100000 in
theorem bless_core (w : World) (r c : Int) (ad : Option Addr) (cap : Nat) (l : List Bst) (hl : StepsAt w ad l) (hc : l.length ≤ cap) (hm : cap ≤ maxLen) (p2 : Option Addr) (cap2 : Nat) (l2 : List Int) (h2 : IntsAt w p2 l2) (c2 : l2.length ≤ cap2) (m2 : cap2 ≤ maxLen) (t2 : ∀ x ∈ l2, -9223372036854775808 ≤ x ∧ x ≤ 9223372036854775807) :
    Calls Try.prog 7 #[.agg #[.int .i64 r, .int .i64 c], .slice ad l.length cap, .slice p2 l2.length cap2] w fun e w' => e = .returned (.bool true) ∧ Below w.heap.size w w' := by
  obtain ⟨L, hL⟩ : ∃ L, L = l.take 300 := ⟨_, rfl⟩
  have hlen : L.length = min l.length 300 := by rw [hL, List.length_take]; omega
  have HST : Hid (StepsAt w ad L) := Lib.hid (by rw [hL]; exact hl.take 300)
  obtain ⟨n, hn⟩ : ∃ n, n = l.length := ⟨_, rfl⟩
  rw [← hn] at hc hlen ⊢
  obtain ⟨k, hk⟩ : ∃ k, k = L.length := ⟨_, rfl⟩
  have HN : Hid (L.length ≤ 1000) := Lib.hid (by omega)
  have HC : Hid (L.length ≤ cap) := Lib.hid (by omega)
  obtain ⟨bw, hbw⟩ : ∃ b, b = Bud.within r c L := ⟨_, rfl⟩
  have H0 : Hid (∀ W, Bs w W r c → Calls Try.prog 27 #[.agg #[.int .i64 r, .int .i64 c], .slice ad k cap] W fun e w' => e = .returned (.bool bw) ∧ Below W.heap.size W w') := Lib.hid (fun W hB => by rw [hk, hbw]; exact bwithin_any r c ad cap L W (HST.out.later hB.1) HN.out HC.out)
  have hbe : bw = true → ∀ L' : List Bst, (∀ x ∈ L', x ∈ L) → Bud.within r c L' = true := fun h L' hs => by
    rw [h] at hbw
    refine Bud.within_yes (Bud.within_sub ?_ hs)
    unfold Bud.within at hbw
    simpa using hbw.symm
  obtain ⟨n2, hn2⟩ : ∃ n2, n2 = l2.length := ⟨_, rfl⟩
  have HN2 := Lib.hid hn2
  have HI2 := Lib.hid h2
  have HT2 := Lib.hid t2
  have HK := Lib.hid hk
  rw [← hn2] at c2 ⊢
  have hK2 : (n ≤ 300 ∧ k = n) ∨ (¬ (n : Int) ≤ 300 ∧ k = 300 ∧ 300 ≤ cap) := by omega
  clear hL hl hn hk HN HC hbw hlen hn2 h2 t2
  rcases hK2 with ⟨h300, rfl⟩ | ⟨h300, rfl, h300b⟩
  · have h300i : (k : Int) ≤ 300 := by omega
    clear h300
    have HBE := Lib.hid hbe
    clear hbe
    go_enter Try.func7, Try.ntmps7
    go_wp2_with fail
    refine (awake25_any _).mono ?_
    rintro e w1 ⟨rfl, hb1⟩
    have hS0 : Bs w w1 r c := (Bs.start w r c _).later hb1
    clear hb1
    obtain ⟨s0, s1⟩ := hS0.2.2
    go_wp2_with fail
    refine (H0.out _ hS0).mono ?_
    rintro e w2 ⟨rfl, hb2⟩
    have hS2 := Lib.hid (hS0.later hb2)
    clear hb2 s0 s1 hS0
    cases bw with
    | false =>
      go_wp2_with fail
      go_ret
      exact ⟨rfl, hS2.out.1⟩
    | true =>
      by_cases h0 : (k : Int) = 0
      · go_wp2_with fail
        go_ret
        exact ⟨rfl, hS2.out.1⟩

      go_wp2_with fail
      obtain ⟨w3, hw3⟩ : ∃ w3, w3 = w2.alloc (.cells #[] 34) := ⟨_, rfl⟩
      have HS3 : Hid (Bs w w3 r c) := Lib.hid (by rw [hw3]; exact hS2.out.later ((Below.refl _ _).alloc (Nat.le_refl _) _))
      have HO3 : Hid (OwnC (fun q => w.heap.size < q) w3 (.slice (some ⟨w2.heap.size, 0, none⟩) 0 0) 0 9 (bcells [])) := Lib.hid ⟨rfl, .inr ⟨w2.heap.size, 0, 0, rfl, hS2.out.2.1, by rw [hw3]; simp, Nat.le_refl _, fun j u hu => by simp [bcells] at hu, fun j hj => absurd hj (by omega)⟩⟩
      rw [← hw3]
      clear hw3
      generalize w2.heap.size = g0 at *
      go_loopw [7, 8] (fun ov iv wr => ∃ (j : Nat) (x : Option Addr) (cp : Nat) (M : List Bst), j ≤ n2 ∧ j ≤ 300 ∧ iv = .int .i64 (j : Int) ∧ ov = .slice x j cp ∧ M.length = j ∧ (∀ y ∈ M, y ∈ L) ∧ Bs w wr r c ∧ OwnC (fun q => w.heap.size < q) wr (.slice x j cp) j 9 (bcells M)) (fun _ iv _ => 301 - (intOf iv).toNat)
      case atStart => exact ⟨0, _, 0, [], by omega, by omega, rfl, rfl, rfl, (fun y hy => by simp at hy), HS3.out, HO3.out⟩
      case round =>
        clear HS3 HO3 hS2
        obtain ⟨j, x, cp, M, hj, hj3, rfl, rfl, hM, hMs, hB, hO⟩ := hrel
        have HB := Lib.hid hB
        have HO := Lib.hid hO
        have HM := Lib.hid (And.intro hM hMs)
        clear hO hM hMs
        by_cases hlt : j < n2 ∧ j < 300
        · obtain ⟨hlt1, hlt2⟩ := hlt
          obtain ⟨y, hy⟩ : ∃ y, l2[j]? = some y := ⟨l2[j]'(by rw [← HN2.out]; exact hlt1), List.getElem?_eq_getElem _⟩
          obtain ⟨b2, off2, rfl, hcy⟩ := ints_at HI2.out j y hy
          have cy := (Below.cell hB.1 (cell_lt hcy)).trans hcy
          have hyb := HT2.out y (List.mem_of_getElem? hy)
          obtain ⟨q, hq⟩ : ∃ q : Nat, (y % 18446744073709551616) % (k : Int) = q := ⟨((y % 18446744073709551616) % (k : Int)).toNat, by have := Int.emod_nonneg (y % 18446744073709551616) (b := (k : Int)) (by omega); omega⟩
          have hwu : wrap64 ((IntKind.u64.wrap y).tmod (k : Int)) = (q : Int) := by
            have e : IntKind.u64.wrap y = y % 18446744073709551616 := rfl
            rw [e, Int.tmod_eq_emod_of_nonneg (by omega), hq]
            exact IntWalk.wrap64_in _ (by have := Int.emod_lt_of_pos (y % 18446744073709551616) (b := (k : Int)) (by omega); omega)
          have hqk : q < k := by have := Int.emod_lt_of_pos (y % 18446744073709551616) (b := (k : Int)) (by omega); omega
          obtain ⟨z, hz⟩ : ∃ z, L[q]? = some z := ⟨L[q]'(by rw [← HK.out]; exact hqk), List.getElem?_eq_getElem _⟩
          have HZ := Lib.hid (List.mem_of_getElem? hz)
          obtain ⟨b, off, rfl, hbw, hcc⟩ := (HST.out.later hB.1) q z hz
          have HZR := Lib.hid (rfl : z.row = z.row)
          obtain ⟨zk, wh, p, nn, a, m, oo, bb, zq, uu, vv⟩ := z
          have c0 := hcc 0 _ rfl
          have c1 := hcc 1 _ rfl
          have c2' := hcc 2 _ rfl
          have c3 := hcc 3 _ rfl
          have c4 := hcc 4 _ rfl
          have c5 := hcc 5 _ rfl
          have c6 := hcc 6 _ rfl
          have c7 := hcc 7 _ rfl
          have c8 := hcc 8 _ rfl
          rw [Nat.add_zero] at c0
          clear hcc hz hy hcy hB
          go_wp2_with (refine app_stp rfl (Operand.tmp 36) (Operand.tmp 50) rfl rfl _ _ _ (bcells M) rfl HO.out ⟨zk, wh, p, nn, a, m, oo, bb, zq, uu, vv⟩ _ rfl _ rfl rfl (by omega) ?_; intro x' cap' w' hO' hT')
          have HB' := Lib.hid (HB.out.turned hT')
          have HO' : Hid (OwnC (fun q => w.heap.size < q) w' (.slice x' (j + 1) cap') (j + 1) 9 (bcells (M ++ [⟨zk, wh, p, nn, a, m, oo, bb, zq, uu, vv⟩]))) := Lib.hid (by
            rw [← bcells_one]
            exact hO'.mono (fun q h => h.elim id (fun h => Nat.lt_of_lt_of_le HB.out.2.1 h)))
          have HM' : Hid ((M ++ [(⟨zk, wh, p, nn, a, m, oo, bb, zq, uu, vv⟩ : Bst)]).length = j + 1 ∧ ∀ y ∈ M ++ [(⟨zk, wh, p, nn, a, m, oo, bb, zq, uu, vv⟩ : Bst)], y ∈ L) := Lib.hid ⟨by rw [List.length_append, HM.out.1]; rfl, fun y hy => by
            rcases List.mem_append.1 hy with h | h
            · exact HM.out.2 y h
            · rw [List.mem_singleton.1 h]; exact HZ.out⟩
          clear hO' hT' HB HO HM HZ
          go_wp2_with fail
          go_roundw
          case rel => first | exact ⟨j + 1, x', cap', _, by omega, by omega, by go_num, rfl, HM'.out.1, HM'.out.2, HB'.out, HO'.out⟩ | exact ⟨j + 1, by omega, by omega, by omega, x', cap', ⟨rfl, rfl, rfl⟩, _, HM'.out.1, HM'.out.2, HB'.out, HO'.out⟩
          case measure => simp [intOf]; omega
        · have HF : Hid (∀ W, Below wr.heap.size wr W → Calls Try.prog 27 #[.agg #[.int .i64 r, .int .i64 c], .slice x j cp] W fun e w' => e = .returned (.bool true) ∧ Below W.heap.size W w') := Lib.hid (fun W hb => by
            obtain ⟨h1, h2⟩ := HM.out
            have hO := HO.out
            subst h1
            have h3 := hO.steps
            have := bwithin_any r c x cp M W (h3.1.later hb) (by omega) h3.2
            rwa [HBE.out trivial M h2] at this)
          obtain ⟨s0, s1⟩ := hB.2.2
          have hbr : (¬ j < n2) ∨ (j < n2 ∧ ¬ j < 300) := by omega
          clear hlt hB HM HO
          rcases hbr with q1 | ⟨q1, q2⟩
          · go_wp2_with fail
            refine (HF.out _ (Below.refl _ _)).mono ?_
            rintro e w9 ⟨rfl, hb9⟩
            go_wp2_with fail
            go_ret
            exact ⟨rfl, (HB.out.later hb9).1⟩
          · go_wp2_with fail
            refine (HF.out _ (Below.refl _ _)).mono ?_
            rintro e w9 ⟨rfl, hb9⟩
            go_wp2_with fail
            go_ret
            exact ⟨rfl, (HB.out.later hb9).1⟩
  · have HBE := Lib.hid hbe
    clear hbe
    go_enter Try.func7, Try.ntmps7
    go_wp2_with fail
    refine (awake25_any _).mono ?_
    rintro e w1 ⟨rfl, hb1⟩
    have hS0 : Bs w w1 r c := (Bs.start w r c _).later hb1
    clear hb1
    obtain ⟨s0, s1⟩ := hS0.2.2
    go_wp2_with fail
    refine (H0.out _ hS0).mono ?_
    rintro e w2 ⟨rfl, hb2⟩
    have hS2 := Lib.hid (hS0.later hb2)
    clear hb2 s0 s1 hS0
    cases bw with
    | false =>
      go_wp2_with fail
      go_ret
      exact ⟨rfl, hS2.out.1⟩
    | true =>

      go_wp2_with fail
      obtain ⟨w3, hw3⟩ : ∃ w3, w3 = w2.alloc (.cells #[] 34) := ⟨_, rfl⟩
      have HS3 : Hid (Bs w w3 r c) := Lib.hid (by rw [hw3]; exact hS2.out.later ((Below.refl _ _).alloc (Nat.le_refl _) _))
      have HO3 : Hid (OwnC (fun q => w.heap.size < q) w3 (.slice (some ⟨w2.heap.size, 0, none⟩) 0 0) 0 9 (bcells [])) := Lib.hid ⟨rfl, .inr ⟨w2.heap.size, 0, 0, rfl, hS2.out.2.1, by rw [hw3]; simp, Nat.le_refl _, fun j u hu => by simp [bcells] at hu, fun j hj => absurd hj (by omega)⟩⟩
      rw [← hw3]
      clear hw3
      generalize w2.heap.size = g0 at *
      go_loopw [7, 8] (fun ov iv wr => ∃ (j : Nat) (x : Option Addr) (cp : Nat) (M : List Bst), j ≤ n2 ∧ j ≤ 300 ∧ iv = .int .i64 (j : Int) ∧ ov = .slice x j cp ∧ M.length = j ∧ (∀ y ∈ M, y ∈ L) ∧ Bs w wr r c ∧ OwnC (fun q => w.heap.size < q) wr (.slice x j cp) j 9 (bcells M)) (fun _ iv _ => 301 - (intOf iv).toNat)
      case atStart => exact ⟨0, _, 0, [], by omega, by omega, rfl, rfl, rfl, (fun y hy => by simp at hy), HS3.out, HO3.out⟩
      case round =>
        clear HS3 HO3 hS2
        obtain ⟨j, x, cp, M, hj, hj3, rfl, rfl, hM, hMs, hB, hO⟩ := hrel
        have HB := Lib.hid hB
        have HO := Lib.hid hO
        have HM := Lib.hid (And.intro hM hMs)
        clear hO hM hMs
        by_cases hlt : j < n2 ∧ j < 300
        · obtain ⟨hlt1, hlt2⟩ := hlt
          obtain ⟨y, hy⟩ : ∃ y, l2[j]? = some y := ⟨l2[j]'(by rw [← HN2.out]; exact hlt1), List.getElem?_eq_getElem _⟩
          obtain ⟨b2, off2, rfl, hcy⟩ := ints_at HI2.out j y hy
          have cy := (Below.cell hB.1 (cell_lt hcy)).trans hcy
          have hyb := HT2.out y (List.mem_of_getElem? hy)
          obtain ⟨q, hq⟩ : ∃ q : Nat, (y % 18446744073709551616) % (300 : Int) = q := ⟨((y % 18446744073709551616) % (300 : Int)).toNat, by have := Int.emod_nonneg (y % 18446744073709551616) (b := (300 : Int)) (by omega); omega⟩
          have hwu : wrap64 ((IntKind.u64.wrap y).tmod (300 : Int)) = (q : Int) := by
            have e : IntKind.u64.wrap y = y % 18446744073709551616 := rfl
            rw [e, Int.tmod_eq_emod_of_nonneg (by omega), hq]
            exact IntWalk.wrap64_in _ (by have := Int.emod_lt_of_pos (y % 18446744073709551616) (b := (300 : Int)) (by omega); omega)
          have hqk : q < 300 := by have := Int.emod_lt_of_pos (y % 18446744073709551616) (b := (300 : Int)) (by omega); omega
          obtain ⟨z, hz⟩ : ∃ z, L[q]? = some z := ⟨L[q]'(by rw [← HK.out]; exact hqk), List.getElem?_eq_getElem _⟩
          have HZ := Lib.hid (List.mem_of_getElem? hz)
          obtain ⟨b, off, rfl, hbw, hcc⟩ := (HST.out.later hB.1) q z hz
          have HZR := Lib.hid (rfl : z.row = z.row)
          obtain ⟨zk, wh, p, nn, a, m, oo, bb, zq, uu, vv⟩ := z
          have c0 := hcc 0 _ rfl
          have c1 := hcc 1 _ rfl
          have c2' := hcc 2 _ rfl
          have c3 := hcc 3 _ rfl
          have c4 := hcc 4 _ rfl
          have c5 := hcc 5 _ rfl
          have c6 := hcc 6 _ rfl
          have c7 := hcc 7 _ rfl
          have c8 := hcc 8 _ rfl
          rw [Nat.add_zero] at c0
          clear hcc hz hy hcy hB
          go_wp2_with (refine app_stp rfl (Operand.tmp 36) (Operand.tmp 50) rfl rfl _ _ _ (bcells M) rfl HO.out ⟨zk, wh, p, nn, a, m, oo, bb, zq, uu, vv⟩ _ rfl _ rfl rfl (by omega) ?_; intro x' cap' w' hO' hT')
          have HB' := Lib.hid (HB.out.turned hT')
          have HO' : Hid (OwnC (fun q => w.heap.size < q) w' (.slice x' (j + 1) cap') (j + 1) 9 (bcells (M ++ [⟨zk, wh, p, nn, a, m, oo, bb, zq, uu, vv⟩]))) := Lib.hid (by
            rw [← bcells_one]
            exact hO'.mono (fun q h => h.elim id (fun h => Nat.lt_of_lt_of_le HB.out.2.1 h)))
          have HM' : Hid ((M ++ [(⟨zk, wh, p, nn, a, m, oo, bb, zq, uu, vv⟩ : Bst)]).length = j + 1 ∧ ∀ y ∈ M ++ [(⟨zk, wh, p, nn, a, m, oo, bb, zq, uu, vv⟩ : Bst)], y ∈ L) := Lib.hid ⟨by rw [List.length_append, HM.out.1]; rfl, fun y hy => by
            rcases List.mem_append.1 hy with h | h
            · exact HM.out.2 y h
            · rw [List.mem_singleton.1 h]; exact HZ.out⟩
          clear hO' hT' HB HO HM HZ
          go_wp2_with fail
          go_roundw
          case rel => first | exact ⟨j + 1, x', cap', _, by omega, by omega, by go_num, rfl, HM'.out.1, HM'.out.2, HB'.out, HO'.out⟩ | exact ⟨j + 1, by omega, by omega, by omega, x', cap', ⟨rfl, rfl, rfl⟩, _, HM'.out.1, HM'.out.2, HB'.out, HO'.out⟩
          case measure => simp [intOf]; omega
        · have HF : Hid (∀ W, Below wr.heap.size wr W → Calls Try.prog 27 #[.agg #[.int .i64 r, .int .i64 c], .slice x j cp] W fun e w' => e = .returned (.bool true) ∧ Below W.heap.size W w') := Lib.hid (fun W hb => by
            obtain ⟨h1, h2⟩ := HM.out
            have hO := HO.out
            subst h1
            have h3 := hO.steps
            have := bwithin_any r c x cp M W (h3.1.later hb) (by omega) h3.2
            rwa [HBE.out trivial M h2] at this)
          obtain ⟨s0, s1⟩ := hB.2.2
          have hbr : (¬ j < n2) ∨ (j < n2 ∧ ¬ j < 300) := by omega
          clear hlt hB HM HO
          rcases hbr with q1 | ⟨q1, q2⟩
          · go_wp2_with fail
            refine (HF.out _ (Below.refl _ _)).mono ?_
            rintro e w9 ⟨rfl, hb9⟩
            go_wp2_with fail
            go_ret
            exact ⟨rfl, (HB.out.later hb9).1⟩
          · go_wp2_with fail
            refine (HF.out _ (Below.refl _ _)).mono ?_
            rintro e w9 ⟨rfl, hb9⟩
            go_wp2_with fail
            go_ret
            exact ⟨rfl, (HB.out.later hb9).1⟩
theorem walkBudgetLess (w : World) (a0_0 : Int) (a0_1 : Int) (p1 : Option Addr) (cap1 : Nat) (l1 : List (List Value)) (p2 : Option Addr) (cap2 : Nat) (l2 : List Int) (b0_0 : -9223372036854775808 ≤ a0_0 ∧ a0_0 ≤ 9223372036854775807) (b0_1 : -9223372036854775808 ≤ a0_1 ∧ a0_1 ≤ 9223372036854775807) (h1 : RowsAt w p1 9 l1) (c1 : l1.length ≤ cap1) (m1 : cap1 ≤ maxLen) (t1 : ∀ r ∈ l1, ∃ (c0 : Int) (c1 : Int) (c2 : Int) (c3 : Int) (c4 : Int) (c5 : Int) (c6 : Int) (c7 : ByteArray) (c8 : Option Addr) (d8 : Nat) (g8 : Nat), r = [.int .i64 c0, .int .i64 c1, .int .i64 c2, .int .i64 c3, .int .i64 c4, .int .i64 c5, .int .i64 c6, .string c7, .slice c8 d8 g8] ∧ (-9223372036854775808 ≤ c0 ∧ c0 ≤ 9223372036854775807) ∧ (-9223372036854775808 ≤ c1 ∧ c1 ≤ 9223372036854775807) ∧ (-9223372036854775808 ≤ c2 ∧ c2 ≤ 9223372036854775807) ∧ (-9223372036854775808 ≤ c3 ∧ c3 ≤ 9223372036854775807) ∧ (-9223372036854775808 ≤ c4 ∧ c4 ≤ 9223372036854775807) ∧ (-9223372036854775808 ≤ c5 ∧ c5 ≤ 9223372036854775807) ∧ (-9223372036854775808 ≤ c6 ∧ c6 ≤ 9223372036854775807)) (h2 : IntsAt w p2 l2) (c2 : l2.length ≤ cap2) (m2 : cap2 ≤ maxLen) (t2 : ∀ x ∈ l2, -9223372036854775808 ≤ x ∧ x ≤ 9223372036854775807) :
    Calls Try.prog 7 #[.agg #[.int .i64 a0_0, .int .i64 a0_1], .slice p1 l1.length cap1, .slice p2 l2.length cap2] w fun e w' => e = .returned (.bool true) ∧ Below w.heap.size w w' := by
  obtain ⟨l, hlen, hl⟩ := steps_of h1 t1
  rw [← hlen] at c1 ⊢
  exact bless_core w a0_0 a0_1 p1 cap1 l hl c1 m1 p2 cap2 l2 h2 c2 m2 t2
end Go.Proofs.Ytecaahcmebdglaa

/- A box of letters: All. -/
import Derived.Test.YtnldjddmchfcoaaMailC
namespace Go.Proofs.Ytnldjddmchfcoaa
open Go.RowKit Go.Conc
set_option linter.unusedVariables false
def lcells : List Ltr → List Value
  | [] => []
  | x :: r => .int .i64 x.f :: .int .i64 x.t :: .string x.d :: lcells r
theorem lcells_length : ∀ l, (lcells l).length = l.length * 3
  | [] => rfl
  | x :: r => by simp [lcells, lcells_length r]; omega
theorem lcells_append : ∀ l m, lcells (l ++ m) = lcells l ++ lcells m
  | [], m => rfl
  | x :: r, m => by simp [lcells, lcells_append r m]
theorem lcells_get : ∀ (l : List Ltr) (i : Nat) (x : Ltr), l[i]? = some x → (lcells l)[i * 3]? = some (.int .i64 x.f) ∧ (lcells l)[i * 3 + 1]? = some (.int .i64 x.t) ∧ (lcells l)[i * 3 + 2]? = some (.string x.d)
  | [], i, p, h => by simp at h
  | q :: r, 0, p, h => by simp at h; subst h; exact ⟨rfl, rfl, rfl⟩
  | q :: r, i + 1, p, h => by
    have := lcells_get r i p (by simpa using h)
    rw [show (i + 1) * 3 = i * 3 + 3 by omega]
    exact this
theorem info_ltr : ∃ i, Try.prog.info? 40 = some i ∧ i.zero = some (.agg #[.int .i64 0, .int .i64 0, .string ⟨#[]⟩]) ∧ i.size = 3 ∧ i.bytes = 32 := ⟨_, rfl, rfl, rfl, rfl⟩
theorem OwnC.shape {Y : Nat → Prop} {w : World} {v : Value} {n size : Nat} {cs : List Value} (h : OwnC Y w v n size cs) : ∃ x cap, v = .slice x n cap := by
  rcases h.2 with ⟨rfl, rfl⟩ | ⟨b, off, cap, rfl, _⟩
  · exact ⟨none, 0, rfl⟩
  · exact ⟨_, cap, rfl⟩
/-- The append of one letter. -/
theorem run_ltr {Y : Nat → Prop} {w0 : World} {x : Option Addr} {n cap : Nat} {cs : List Value} (f t : Int) (d : ByteArray) (hO : OwnC Y w0 (.slice x n cap) n 3 cs) (hn : n ≤ 1000000) :
    ∃ x' cap' w2, (Builtin.append_ #[47, 47] 47 #[.slice x n cap, .slice (some ⟨w0.heap.size, 0, none⟩) 1 1]).run Try.prog (w0.alloc (.cells #[.int .i64 f, .int .i64 t, .string d] 40)) = .ok (.slice x' (n + 1) cap') w2 ∧ OwnC (fun q => Y q ∨ w0.heap.size ≤ q) w2 (.slice x' (n + 1) cap') (n + 1) 3 (cs ++ [.int .i64 f, .int .i64 t, .string d]) ∧ Turned Y (w0.alloc (.cells #[.int .i64 f, .int .i64 t, .string d] 40)) w2 := by
  have hnews : ∀ (j : Nat) (u : Value), ([.int .i64 f, .int .i64 t, .string d] : List Value)[j]? = some u → (w0.alloc (.cells #[.int .i64 f, .int .i64 t, .string d] 40)).cell? ((⟨w0.heap.size, 0, none⟩ : Addr).add j) = some u := by
    intro j u hu
    match j with
    | 0 =>
      injection hu with hu
      subst hu
      exact (cell_of_row _ _ _ _ _ _ (heap_alloc_new w0 _)).trans rfl
    | 1 =>
      injection hu with hu
      subst hu
      exact (cell_of_row _ _ _ _ _ _ (heap_alloc_new w0 _)).trans rfl
    | 2 =>
      injection hu with hu
      subst hu
      exact (cell_of_row _ _ _ _ _ _ (heap_alloc_new w0 _)).trans rfl
    | j + 3 => exact absurd hu (by simp)
  obtain ⟨i0, hi0, hi1, hi2, hi3⟩ := info_ltr
  obtain ⟨v', w2, hrun, hO2, hT2⟩ := run_app (P := Try.prog) 47 47 40 i0 (.agg #[.int .i64 0, .int .i64 0, .string ⟨#[]⟩]) 32 Try.underlying47 hi0 hi1 hi2 hi3 rfl (by decide) (hO.later ((Below.refl _ _).alloc (Nat.le_refl _) (.cells #[.int .i64 f, .int .i64 t, .string d] 40))) ⟨w0.heap.size, 0, none⟩ 1 1 [.int .i64 f, .int .i64 t, .string d] rfl hnews (by simp [Value.oneCell']) (by rw [show maxLen = 9223372036854775807 from rfl]; omega) (by omega)
  obtain ⟨x', cap', rfl⟩ := hO2.shape
  exact ⟨x', cap', w2, hrun, hO2.mono (fun q h => h.imp id (fun h => by simp at h; omega)), hT2⟩
theorem app_l {Y : Nat → Prop} {wr : World} {ops : Array Oper} {rest : List Oper} {o : Oper} {a : Act} {Q : Exit → Act → World → Prop} (hgd : o.guard = none) (s x : Operand)
    (ho : o.op = .call { callee := .builtin .append, args := #[s, x], argTypes := #[47, 47] }) (hty : o.type = 47) (x0 : Option Addr) (n cap : Nat) (cs : List Value) (hs : a.eval s = .slice x0 n cap) (hO : OwnC Y wr (.slice x0 n cap) n 3 cs)
    (f t : Int) (d : ByteArray) (nb : Nat) (hx : a.eval x = .slice (some ⟨nb, 0, none⟩) 1 1) (hnb : nb = wr.heap.size) (hn : n ≤ 1000000)
    (h : ∀ x' cap' w', OwnC (fun q => Y q ∨ wr.heap.size ≤ q) w' (.slice x' (n + 1) cap') (n + 1) 3 (cs ++ [.int .i64 f, .int .i64 t, .string d]) → Turned Y wr w' → wpList Try.prog ops Q rest (a.put o.dst (.slice x' (n + 1) cap')) w') : wpList Try.prog ops Q (o :: rest) a (wr.alloc (.cells #[.int .i64 f, .int .i64 t, .string d] 40)) := by
  subst hnb
  obtain ⟨x', cap', w2, hrun, hO2, hT2⟩ := run_ltr f t d hO hn
  refine wpList_plain hgd fun K hK => ?_
  unfold Oper.wp
  simp only [execOp, ho, resolve, invoke, builtin, Sem.run_bind, Sem.run_pure, Result.andThen_ok, List.map_toArray, List.map_cons, List.map_nil, hs, hx, hty, hrun]
  exact hK _ _ (h x' cap' w2 hO2 ((Turned.alloc wr Y _).trans hT2 (fun q h => .inl h)))
theorem all_nil (w : World) : Calls Try.prog 24 #[.pointer none] w fun e w' => e = .returned (.slice none 0 0) ∧ w = w' := by
  refine calls_of_wpA Try.func24 rfl ?_
  simp only [Try.ntmps24, List.size_toArray, List.length_cons, List.length_nil, Nat.reduceAdd, Nat.reduceSub, Array.replicate_succ,
     Array.replicate_zero, List.push_toArray, List.append_toArray, List.nil_append, List.cons_append]
  refine wpA_seq_k (fun K hK => ?_)
  go_wp2_with fail
  refine wpA_scope ?_
  refine wpA_seq_k (fun K hK => ?_)
  go_wp2_with fail
  refine wpA_seq_k (fun K hK => ?_)
  go_wp2_with fail
  rw [Exit.noGoto_ret]
  go_ret
  exact ⟨rfl, rfl⟩
def bufLen (c : Nat) (w : World) : Nat := match w.heap[c]? with
  | some (.chan _ buf _ _ _ _) => buf.size
  | _ => 0
theorem all_bx {w : World} {g c cap : Nat} {L : List Ltr} (h : Bx w g c cap L) (hL : L.length ≤ 100000) : Calls Try.prog 24 #[.pointer (some ⟨g, 0, none⟩)] w fun e w' => (∃ x cap2, e = .returned (.slice x L.length cap2) ∧ OwnC (fun q => w.heap.size ≤ q) w' (.slice x L.length cap2) L.length 3 (lcells L)) ∧ Bx w' g c cap [] ∧ Turned (fun q => q = c ∨ w.heap.size ≤ q) w w' := by
  refine calls_of_wpA Try.func24 rfl ?_
  simp only [Try.ntmps24, List.size_toArray, List.length_cons, List.length_nil, Nat.reduceAdd, Nat.reduceSub, Array.replicate_succ,
     Array.replicate_zero, List.push_toArray, List.append_toArray, List.nil_append, List.cons_append]
  refine wpA_seq_k (fun K hK => ?_)
  go_wp2_with fail
  refine wpA_scope ?_
  refine wpA_seq_k (fun K hK => ?_)
  go_wp2_with fail
  refine wpA_seq_k (fun K hK => ?_)
  go_wp2_with fail
  refine wpA_seq (wpA_of_wp (wp_label ?_))
  simp only [Exit.then]
  refine wpA_seq (wpA_block (wpA_loop (fun a' w' => ∃ (k : Nat) (x : Option Addr) (cp : Nat) (u4 u7 u8 u9 u10 u11 u12 u13 u14 u15 u16 u17 u18 : Value), a' = ⟨#[.pointer (some ⟨g, 0, none⟩), undef, .slice none 0 0, .slice x k cp, u4, .pointer (some ⟨g, 0, none⟩), .bool false, u7, u8, u9, u10, u11, u12, u13, u14, u15, u16, u17, u18, undef], []⟩ ∧ k ≤ L.length ∧ Bx w' g c cap (L.drop k) ∧ OwnC (fun q => w.heap.size ≤ q) w' (.slice x k cp) k 3 (lcells (L.take k)) ∧ Turned (fun q => q = c ∨ w.heap.size ≤ q) w w') (fun _ w' => bufLen c w') ?_ ?_))
  · exact ⟨0, none, 0, undef, undef, undef, undef, undef, undef, undef, undef, undef, undef, undef, undef, undef, rfl, Nat.zero_le _, by rw [List.drop_zero]; exact h, OwnC.nil _ _ _, Turned.refl _ _⟩
  · have HC := Lib.hid (And.intro h.2.1.1 h.2.2.1)
    rintro a' wr ⟨k, x, cp, u4, u7, u8, u9, u10, u11, u12, u13, u14, u15, u16, u17, u18, rfl, hk, hB, hO, hT⟩
    obtain ⟨h1, h2, h3, s, r, h4⟩ := id hB
    have r0 : wr.cell? ⟨g, 0, none⟩ = some (.chan (some c)) := (h2.2 0 _ rfl).1
    have HH4 := Lib.hid h4
    have HB := Lib.hid hB
    have HT := Lib.hid hT
    clear h hB h2 h4 hT
    cases hl : L.drop k with
    | nil =>
      rw [hl] at HH4 HB
      have hkL : k = L.length := by
        have := congrArg List.length hl
        rw [List.length_drop, List.length_nil] at this
        omega
      subst hkL
      rw [List.take_length] at hO
      have HO := Lib.hid hO
      clear hO
      refine wpA_block ?_
      refine wpA_seq_k (fun K hK => ?_)
      go_wp2_with fail
      refine wpA_seq (wpA_sel_none (c := c) (z := .agg #[.int .i64 0, .int .i64 0, .string ⟨#[]⟩]) (cap := cap) (s := s) (r := r) (tm := false) (frm_kind _) rfl (by simp [go_sem, execOp, rcase, Act.eval]) HH4.out ?_)
      go_wp2_with fail
      refine wpA_of_wp ?_
      go_wp2_with fail
      refine wpA_of_wp ?_
      go_wp2_with fail
      rw [Exit.noGoto_ret]
      go_ret
      exact ⟨⟨_, _, rfl, HO.out⟩, HB.out, HT.out⟩
    | cons y rest =>
      rw [hl] at HH4 HB
      have hkl : k < L.length := by
        have := congrArg List.length hl
        rw [List.length_drop, List.length_cons] at this
        omega
      have hd1 : L.drop (k + 1) = rest := by rw [← List.drop_drop, hl]; rfl
      have hg : L[k]? = some y := by
        have := congrArg (fun l => l[0]?) hl
        simpa [List.getElem?_drop] using this
      have ht1 : L.take (k + 1) = L.take k ++ [y] := by rw [List.take_add_one, hg]; rfl
      obtain ⟨f, t, d⟩ := y
      have HD1 := Lib.hid hd1
      have HT1 := Lib.hid ht1
      clear hl hd1 hg ht1
      have e1 : (((⟨f, t, d⟩ : Ltr) :: rest).map Ltr.v).toArray.extract 1 (((⟨f, t, d⟩ : Ltr) :: rest).map Ltr.v).toArray.size = (rest.map Ltr.v).toArray := by simp [List.take_of_length_le]
      have e2 : (((⟨f, t, d⟩ : Ltr) :: rest).map Ltr.v).toArray.getD 0 undef = .agg #[.int .i64 f, .int .i64 t, .string d] := by simp [Ltr.v]
      have HLEN : Hid (bufLen c wr = rest.length + 1) := Lib.hid (by unfold bufLen; rw [HH4.out]; simp)
      refine wpA_block ?_
      refine wpA_seq_k (fun K hK => ?_)
      go_wp2_with fail
      refine wpA_seq (wpA_sel_recv (c := c) (z := .agg #[.int .i64 0, .int .i64 0, .string ⟨#[]⟩]) (cap := cap) (s := s) (r := r) (tm := false) (frm_kind _) rfl (by simp [go_sem, execOp, rcase, Act.eval]) HH4.out (by simp) ?_)
      rw [e1, e2]
      have HBX := Lib.hid ((HB.out.set_ (L' := rest) s (r + 1)))
      have hTC := Turned.setChan wr c cap (rest.map Ltr.v).toArray false s (r + 1) false
      have HTT : Hid (Turned (fun q => q = c ∨ w.heap.size ≤ q) w (wr.setChan c cap (rest.map Ltr.v).toArray false s (r + 1) false)) := Lib.hid (HT.out.trans hTC (fun q h => .inl (.inl h)))
      have HO2 := Lib.hid (hO.turned hTC (fun q hq e => by have := HC.out.2; omega))
      clear hTC hO e1 e2 r0
      generalize wr.setChan c cap (rest.map Ltr.v).toArray false s (r + 1) false = w2 at *
      have hO3 := HO2.out.later ((Below.refl _ _).alloc (Nat.le_refl _) (.cells #[.int .i64 f, .int .i64 t, .string d] 40))
      have hk5 : k ≤ 1000000 := by omega
      go_wp2_with fail
      refine wpA_of_wp ?_
      go_wp2_with (with_reducible refine app_l rfl _ _ rfl rfl _ _ _ _ rfl hO3 _ _ _ _ rfl ?hnb hk5 ?_)
      case hnb => simp
      intro x' cap' w5 hO5 hT5
      have hT25 : Turned (fun q => w.heap.size ≤ q) w2 w5 := (Turned.alloc w2 (fun q => w.heap.size ≤ q) (.cells #[.int .i64 f, .int .i64 t, .string d] 40)).trans hT5 (fun q h => .inl h)
      have hsz := HTT.out.size
      have HB5 := Lib.hid (HBX.out.turned hT25 (fun e => by have := HC.out.1; omega) (fun e => by have := HC.out.2; omega))
      have HO5 := Lib.hid (hO5.mono (Y' := fun q => w.heap.size ≤ q) (fun q h => by
        rcases h with h | h
        · exact h
        · have : w2.heap.size ≤ (w2.alloc (.cells #[.int .i64 f, .int .i64 t, .string d] 40)).heap.size := by simp
          omega))
      have HT5 := Lib.hid (HTT.out.trans hT25 (fun q h => .inl (.inr h)))
      clear hO5 hT5 hT25 hO3
      go_wp2_with fail
      refine ⟨⟨k + 1, x', cap', _, _, _, _, _, _, _, _, _, _, _, _, _, rfl, by omega, by rw [HD1.out]; exact HB5.out, by rw [HT1.out, lcells_append]; exact HO5.out, HT5.out⟩, ?_⟩
      rw [HLEN.out]
      obtain ⟨_, _, _, s5, r5, h5⟩ := HB5.out
      unfold bufLen
      rw [h5]
      simp
end Go.Proofs.Ytnldjddmchfcoaa

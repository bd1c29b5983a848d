import Derived.Test.YtmebodjofcomlaaEntC
namespace Go.Proofs.Ytmebodjofcomlaa
open Go.RowKit
def Row (w : World) (b : Nat) (cs : Array Value) : Prop := b < w.heap.size ∧ ∀ i v, cs[i]? = some v → w.cell? ⟨b, i, none⟩ = some v
theorem Row.below {w w' : World} {b B : Nat} {cs : Array Value} (h : Row w b cs) (hb : Below B w w') (hB : b < B) : Row w' b cs :=
  ⟨Nat.lt_of_lt_of_le h.1 hb.size, fun i v hv => (hb.cell (p := ⟨b, i, none⟩) hB).trans (h.2 i v hv)⟩
theorem Row.alloc {w : World} {b : Nat} {cs : Array Value} (h : Row w b cs) (o : Obj) : Row (w.alloc o) b cs :=
  h.below ((Below.refl w.heap.size w).alloc (Nat.le_refl _) o) h.1
theorem Row.new (w : World) (cs : Array Value) (t : TypeId) (k : Nat) (hk : k = w.heap.size) : Row (w.alloc (.cells cs t)) k cs := by
  subst hk
  refine ⟨by simp, fun i v hv => ?_⟩
  rw [cell_of_row _ _ _ _ _ _ (heap_alloc_new w _)]
  exact hv
set_option maxHeartbeats 4000000 in
theorem nextCore (mo mv ms oo ov os view op under par client sess req oper opx : Int) (body : ByteArray) (R F1 F2 : Bool)
    (hb : body.size ≤ 5000)
    (hn : ∀ w, Calls Try.prog 13 #[.agg #[.int .i64 mo, .int .i64 mv, .int .u64 ms], .agg #[.int .i64 view, .int .i64 op, .int .i64 under, .int .u64 par, .int .i64 client, .int .i64 sess, .int .i64 req, .int .i64 oper, .string body]] w fun e w' =>
      e = .returned (.agg #[.int .i64 view, .int .i64 opx, .int .i64 mv, .int .u64 ms, .int .i64 client, .int .i64 sess, .int .i64 req, .int .i64 oper, .string body]) ∧ Below w.heap.size w w')
    (hr : ∀ w, Calls Try.prog 14 #[.agg #[.int .i64 view, .int .i64 opx, .int .i64 mv, .int .u64 ms, .int .i64 client, .int .i64 sess, .int .i64 req, .int .i64 oper, .string body]] w fun e w' => e = .returned (.bool R) ∧ Below w.heap.size w w')
    (hf1 : ∀ w, Calls Try.prog 15 #[.agg #[.int .i64 oo, .int .i64 ov, .int .u64 os], .agg #[.int .i64 view, .int .i64 opx, .int .i64 mv, .int .u64 ms, .int .i64 client, .int .i64 sess, .int .i64 req, .int .i64 oper, .string body]] w fun e w' => e = .returned (.bool F1) ∧ Below w.heap.size w w')
    (hf2 : ∀ w, Calls Try.prog 15 #[.agg #[.int .i64 mo, .int .i64 mv, .int .u64 ms], .agg #[.int .i64 view, .int .i64 opx, .int .i64 mv, .int .u64 ms, .int .i64 client, .int .i64 sess, .int .i64 req, .int .i64 oper, .string body]] w fun e w' => e = .returned (.bool F2) ∧ Below w.heap.size w w')
    (hG : (mo < 0 ∧ opx = op) ∨ (72057594037927935 ≤ mo ∧ opx = op) ∨ (0 ≤ mo ∧ mo < 72057594037927935 ∧ opx = mo + 1))
    (hok : 0 ≤ mo → mo < 72057594037927935 → R = true → F2 = true)
    (hfin : ¬ (oo = mo ∧ ov = mv ∧ os = ms) → F1 = true → F2 = false) (w : World) :
    Calls Try.prog 3 #[.agg #[.int .i64 mo, .int .i64 mv, .int .u64 ms], .agg #[.int .i64 oo, .int .i64 ov, .int .u64 os], .agg #[.int .i64 view, .int .i64 op, .int .i64 under, .int .u64 par, .int .i64 client, .int .i64 sess, .int .i64 req, .int .i64 oper, .string body]] w fun e w' => e = .returned (.bool true) ∧ Below w.heap.size w w' := by
  have HN := Lib.hid hn
  have HR := Lib.hid hr
  have HF1 := Lib.hid hf1
  have HF2 := Lib.hid hf2
  have HFIN := Lib.hid hfin
  have HOK := Lib.hid hok
  clear hn hr hf1 hf2 hfin hok
  have hM : Row (((w.alloc (.cells #[.int .i64 mo, .int .i64 mv, .int .u64 ms] 24)).alloc (.cells #[.int .i64 oo, .int .i64 ov, .int .u64 os] 24)).alloc (.cells #[.int .i64 view, .int .i64 op, .int .i64 under, .int .u64 par, .int .i64 client, .int .i64 sess, .int .i64 req, .int .i64 oper, .string body] 26)) w.heap.size #[.int .i64 mo, .int .i64 mv, .int .u64 ms] :=
    ((Row.new w _ _ _ rfl).alloc _).alloc _
  have hO : Row (((w.alloc (.cells #[.int .i64 mo, .int .i64 mv, .int .u64 ms] 24)).alloc (.cells #[.int .i64 oo, .int .i64 ov, .int .u64 os] 24)).alloc (.cells #[.int .i64 view, .int .i64 op, .int .i64 under, .int .u64 par, .int .i64 client, .int .i64 sess, .int .i64 req, .int .i64 oper, .string body] 26)) (w.heap.size + 1) #[.int .i64 oo, .int .i64 ov, .int .u64 os] :=
    (Row.new _ _ _ _ (by simp)).alloc _
  have hE' : Row (((w.alloc (.cells #[.int .i64 mo, .int .i64 mv, .int .u64 ms] 24)).alloc (.cells #[.int .i64 oo, .int .i64 ov, .int .u64 os] 24)).alloc (.cells #[.int .i64 view, .int .i64 op, .int .i64 under, .int .u64 par, .int .i64 client, .int .i64 sess, .int .i64 req, .int .i64 oper, .string body] 26)) (w.heap.size + 1 + 1) #[.int .i64 view, .int .i64 op, .int .i64 under, .int .u64 par, .int .i64 client, .int .i64 sess, .int .i64 req, .int .i64 oper, .string body] :=
    Row.new _ _ _ _ (by simp)
  have hB0 : Below w.heap.size w (((w.alloc (.cells #[.int .i64 mo, .int .i64 mv, .int .u64 ms] 24)).alloc (.cells #[.int .i64 oo, .int .i64 ov, .int .u64 os] 24)).alloc (.cells #[.int .i64 view, .int .i64 op, .int .i64 under, .int .u64 par, .int .i64 client, .int .i64 sess, .int .i64 req, .int .i64 oper, .string body] 26)) :=
    (((Below.refl _ _).alloc (Nat.le_refl _) _).alloc (by simp) _).alloc (by simp; omega) _
  have HROWS := Lib.hid (And.intro hM (And.intro hO (And.intro hE' hB0)))
  clear hM hO hE' hB0
  rcases hG with ⟨g0, rfl⟩ | ⟨g0, rfl⟩ | ⟨g0, g1, rfl⟩
  · have g0' : ¬ 0 ≤ mo := by omega
    have g0'' : (0 ≤ mo) = False := by simp; omega
    go_enter Try.func3, Try.ntmps3
    go_wp2_with fail
    refine (awake09_any _).mono ?_
    rintro e w1 ⟨rfl, hb1⟩
    obtain ⟨hM, hO, hE', hB0⟩ := HROWS.out
    have H1 := Lib.hid (And.intro (hM.below hb1 hM.1) (And.intro (hO.below hb1 hO.1) (And.intro (hE'.below hb1 hE'.1) (hB0.trans (hb1.mono hB0.size)))))
    have c0 := (H1.out.2.2.1.2 0 _ rfl); have c1 := (H1.out.2.2.1.2 1 _ rfl); have c2 := (H1.out.2.2.1.2 2 _ rfl); have c3 := (H1.out.2.2.1.2 3 _ rfl); have c4 := (H1.out.2.2.1.2 4 _ rfl)
    have c5 := (H1.out.2.2.1.2 5 _ rfl); have c6 := (H1.out.2.2.1.2 6 _ rfl); have c7 := (H1.out.2.2.1.2 7 _ rfl); have c8 := (H1.out.2.2.1.2 8 _ rfl)
    clear hM hO hE' hB0 hb1
    go_wp2_with fail
    refine (long_no _ _ hb).mono ?_
    rintro e w2 ⟨rfl, rfl⟩
    have m0 := (H1.out.1.2 0 _ rfl); have m1 := (H1.out.1.2 1 _ rfl); have m2 := (H1.out.1.2 2 _ rfl)
    go_wp2_with fail
    refine (HN.out _).mono ?_
    rintro e w3 ⟨rfl, hb3⟩
    clear c0 c1 c2 c3 c4 c5 c6 c7 c8 m0 m1 m2
    have H3 := Lib.hid (And.intro (H1.out.1.below hb3 H1.out.1.1) (And.intro (H1.out.2.1.below hb3 H1.out.2.1.1) (And.intro (H1.out.2.2.1.below hb3 H1.out.2.2.1.1) (H1.out.2.2.2.trans (hb3.mono H1.out.2.2.2.size)))))
    clear hb3 H1
    have c0 := (H3.out.2.2.1.2 0 _ rfl); have c1 := (H3.out.2.2.1.2 1 _ rfl); have c2 := (H3.out.2.2.1.2 2 _ rfl); have c3 := (H3.out.2.2.1.2 3 _ rfl); have c4 := (H3.out.2.2.1.2 4 _ rfl)
    have c5 := (H3.out.2.2.1.2 5 _ rfl); have c6 := (H3.out.2.2.1.2 6 _ rfl); have c7 := (H3.out.2.2.1.2 7 _ rfl); have c8 := (H3.out.2.2.1.2 8 _ rfl)
    have m0 := (H3.out.1.2 0 _ rfl); have m1 := (H3.out.1.2 1 _ rfl); have m2 := (H3.out.1.2 2 _ rfl)
    have q0 : w.heap.size < w3.heap.size := H3.out.1.1
    have q1 : w.heap.size + 1 < w3.heap.size := H3.out.2.1.1
    have q2 : w.heap.size + 1 + 1 < w3.heap.size := H3.out.2.2.1.1
    have n0 : w.heap.size ≠ w3.heap.size + 1 := by omega
    have n1 : w3.heap.size + 1 ≠ w.heap.size := by omega
    have n2 : w3.heap.size ≠ w3.heap.size + 1 := by omega
    go_wp2_with fail
    refine (HR.out _).mono ?_
    rintro e w4 ⟨rfl, hb4⟩
    have hX := ((Row.new w3 _ _ _ rfl).alloc _).below hb4 (by simp; omega)
    have H4 := Lib.hid (And.intro (((H3.out.1.alloc _).alloc _).below hb4 (by simp; omega)) (And.intro (((H3.out.2.1.alloc _).alloc _).below hb4 (by simp; omega)) (And.intro hX ((((H3.out.2.2.2.alloc H3.out.2.2.2.size _).alloc (by simp; omega) _)).trans (hb4.mono (by simp; omega))))))
    clear c0 c1 c2 c3 c4 c5 c6 c7 c8 m0 m1 m2 n0 n1 n2 hb4 hX
    have c0 := (H4.out.2.2.1.2 0 _ rfl); have c1 := (H4.out.2.2.1.2 1 _ rfl); have c2 := (H4.out.2.2.1.2 2 _ rfl); have c3 := (H4.out.2.2.1.2 3 _ rfl); have c4 := (H4.out.2.2.1.2 4 _ rfl)
    have c5 := (H4.out.2.2.1.2 5 _ rfl); have c6 := (H4.out.2.2.1.2 6 _ rfl); have c7 := (H4.out.2.2.1.2 7 _ rfl); have c8 := (H4.out.2.2.1.2 8 _ rfl)
    have m0 := (H4.out.1.2 0 _ rfl); have m1 := (H4.out.1.2 1 _ rfl); have m2 := (H4.out.1.2 2 _ rfl)
    have o0 := (H4.out.2.1.2 0 _ rfl); have o1 := (H4.out.2.1.2 1 _ rfl); have o2 := (H4.out.2.1.2 2 _ rfl)
    cases R
    · skip
      go_wp2_with fail
      all_goals first
        | (go_ret; exact ⟨rfl, H4.out.2.2.2⟩)
        | (subst_vars
           have hne := Lib.hid (HFIN.out (by rintro ⟨a, b, c⟩; omega))
           refine (HF1.out _).mono ?_
           rintro e w5 ⟨rfl, hb5⟩
           have H5 := Lib.hid (And.intro (H4.out.1.below hb5 H4.out.1.1) (And.intro (H4.out.2.1.below hb5 H4.out.2.1.1) (And.intro (H4.out.2.2.1.below hb5 H4.out.2.2.1.1) (H4.out.2.2.2.trans (hb5.mono H4.out.2.2.2.size)))))
           clear c0 c1 c2 c3 c4 c5 c6 c7 c8 m0 m1 m2 o0 o1 o2 hb5
           have c0 := (H5.out.2.2.1.2 0 _ rfl); have c1 := (H5.out.2.2.1.2 1 _ rfl); have c2 := (H5.out.2.2.1.2 2 _ rfl); have c3 := (H5.out.2.2.1.2 3 _ rfl); have c4 := (H5.out.2.2.1.2 4 _ rfl)
           have c5 := (H5.out.2.2.1.2 5 _ rfl); have c6 := (H5.out.2.2.1.2 6 _ rfl); have c7 := (H5.out.2.2.1.2 7 _ rfl); have c8 := (H5.out.2.2.1.2 8 _ rfl)
           have m0 := (H5.out.1.2 0 _ rfl); have m1 := (H5.out.1.2 1 _ rfl); have m2 := (H5.out.1.2 2 _ rfl)
           cases F1
           · go_wp2_with fail
             go_ret
             exact ⟨rfl, H5.out.2.2.2⟩
           · have hf2 := hne.out rfl
             subst hf2
             go_wp2_with fail
             refine (HF2.out _).mono ?_
             rintro e w6 ⟨rfl, hb6⟩
             go_wp2_with fail
             go_ret
             exact ⟨rfl, H5.out.2.2.2.trans (hb6.mono H5.out.2.2.2.size)⟩)
    · skip
      go_wp2_with fail
      all_goals first
        | (go_ret; exact ⟨rfl, H4.out.2.2.2⟩)
        | (subst_vars
           have hne := Lib.hid (HFIN.out (by rintro ⟨a, b, c⟩; omega))
           refine (HF1.out _).mono ?_
           rintro e w5 ⟨rfl, hb5⟩
           have H5 := Lib.hid (And.intro (H4.out.1.below hb5 H4.out.1.1) (And.intro (H4.out.2.1.below hb5 H4.out.2.1.1) (And.intro (H4.out.2.2.1.below hb5 H4.out.2.2.1.1) (H4.out.2.2.2.trans (hb5.mono H4.out.2.2.2.size)))))
           clear c0 c1 c2 c3 c4 c5 c6 c7 c8 m0 m1 m2 o0 o1 o2 hb5
           have c0 := (H5.out.2.2.1.2 0 _ rfl); have c1 := (H5.out.2.2.1.2 1 _ rfl); have c2 := (H5.out.2.2.1.2 2 _ rfl); have c3 := (H5.out.2.2.1.2 3 _ rfl); have c4 := (H5.out.2.2.1.2 4 _ rfl)
           have c5 := (H5.out.2.2.1.2 5 _ rfl); have c6 := (H5.out.2.2.1.2 6 _ rfl); have c7 := (H5.out.2.2.1.2 7 _ rfl); have c8 := (H5.out.2.2.1.2 8 _ rfl)
           have m0 := (H5.out.1.2 0 _ rfl); have m1 := (H5.out.1.2 1 _ rfl); have m2 := (H5.out.1.2 2 _ rfl)
           cases F1
           · go_wp2_with fail
             go_ret
             exact ⟨rfl, H5.out.2.2.2⟩
           · have hf2 := hne.out rfl
             subst hf2
             go_wp2_with fail
             refine (HF2.out _).mono ?_
             rintro e w6 ⟨rfl, hb6⟩
             go_wp2_with fail
             go_ret
             exact ⟨rfl, H5.out.2.2.2.trans (hb6.mono H5.out.2.2.2.size)⟩)
  · have g0' : ¬ mo < 72057594037927935 := by omega
    have g0'' : 0 ≤ mo := by omega
    go_enter Try.func3, Try.ntmps3
    go_wp2_with fail
    refine (awake09_any _).mono ?_
    rintro e w1 ⟨rfl, hb1⟩
    obtain ⟨hM, hO, hE', hB0⟩ := HROWS.out
    have H1 := Lib.hid (And.intro (hM.below hb1 hM.1) (And.intro (hO.below hb1 hO.1) (And.intro (hE'.below hb1 hE'.1) (hB0.trans (hb1.mono hB0.size)))))
    have c0 := (H1.out.2.2.1.2 0 _ rfl); have c1 := (H1.out.2.2.1.2 1 _ rfl); have c2 := (H1.out.2.2.1.2 2 _ rfl); have c3 := (H1.out.2.2.1.2 3 _ rfl); have c4 := (H1.out.2.2.1.2 4 _ rfl)
    have c5 := (H1.out.2.2.1.2 5 _ rfl); have c6 := (H1.out.2.2.1.2 6 _ rfl); have c7 := (H1.out.2.2.1.2 7 _ rfl); have c8 := (H1.out.2.2.1.2 8 _ rfl)
    clear hM hO hE' hB0 hb1
    go_wp2_with fail
    refine (long_no _ _ hb).mono ?_
    rintro e w2 ⟨rfl, rfl⟩
    have m0 := (H1.out.1.2 0 _ rfl); have m1 := (H1.out.1.2 1 _ rfl); have m2 := (H1.out.1.2 2 _ rfl)
    go_wp2_with fail
    refine (HN.out _).mono ?_
    rintro e w3 ⟨rfl, hb3⟩
    clear c0 c1 c2 c3 c4 c5 c6 c7 c8 m0 m1 m2
    have H3 := Lib.hid (And.intro (H1.out.1.below hb3 H1.out.1.1) (And.intro (H1.out.2.1.below hb3 H1.out.2.1.1) (And.intro (H1.out.2.2.1.below hb3 H1.out.2.2.1.1) (H1.out.2.2.2.trans (hb3.mono H1.out.2.2.2.size)))))
    clear hb3 H1
    have c0 := (H3.out.2.2.1.2 0 _ rfl); have c1 := (H3.out.2.2.1.2 1 _ rfl); have c2 := (H3.out.2.2.1.2 2 _ rfl); have c3 := (H3.out.2.2.1.2 3 _ rfl); have c4 := (H3.out.2.2.1.2 4 _ rfl)
    have c5 := (H3.out.2.2.1.2 5 _ rfl); have c6 := (H3.out.2.2.1.2 6 _ rfl); have c7 := (H3.out.2.2.1.2 7 _ rfl); have c8 := (H3.out.2.2.1.2 8 _ rfl)
    have m0 := (H3.out.1.2 0 _ rfl); have m1 := (H3.out.1.2 1 _ rfl); have m2 := (H3.out.1.2 2 _ rfl)
    have q0 : w.heap.size < w3.heap.size := H3.out.1.1
    have q1 : w.heap.size + 1 < w3.heap.size := H3.out.2.1.1
    have q2 : w.heap.size + 1 + 1 < w3.heap.size := H3.out.2.2.1.1
    have n0 : w.heap.size ≠ w3.heap.size + 1 := by omega
    have n1 : w3.heap.size + 1 ≠ w.heap.size := by omega
    have n2 : w3.heap.size ≠ w3.heap.size + 1 := by omega
    go_wp2_with fail
    refine (HR.out _).mono ?_
    rintro e w4 ⟨rfl, hb4⟩
    have hX := ((Row.new w3 _ _ _ rfl).alloc _).below hb4 (by simp; omega)
    have H4 := Lib.hid (And.intro (((H3.out.1.alloc _).alloc _).below hb4 (by simp; omega)) (And.intro (((H3.out.2.1.alloc _).alloc _).below hb4 (by simp; omega)) (And.intro hX ((((H3.out.2.2.2.alloc H3.out.2.2.2.size _).alloc (by simp; omega) _)).trans (hb4.mono (by simp; omega))))))
    clear c0 c1 c2 c3 c4 c5 c6 c7 c8 m0 m1 m2 n0 n1 n2 hb4 hX
    have c0 := (H4.out.2.2.1.2 0 _ rfl); have c1 := (H4.out.2.2.1.2 1 _ rfl); have c2 := (H4.out.2.2.1.2 2 _ rfl); have c3 := (H4.out.2.2.1.2 3 _ rfl); have c4 := (H4.out.2.2.1.2 4 _ rfl)
    have c5 := (H4.out.2.2.1.2 5 _ rfl); have c6 := (H4.out.2.2.1.2 6 _ rfl); have c7 := (H4.out.2.2.1.2 7 _ rfl); have c8 := (H4.out.2.2.1.2 8 _ rfl)
    have m0 := (H4.out.1.2 0 _ rfl); have m1 := (H4.out.1.2 1 _ rfl); have m2 := (H4.out.1.2 2 _ rfl)
    have o0 := (H4.out.2.1.2 0 _ rfl); have o1 := (H4.out.2.1.2 1 _ rfl); have o2 := (H4.out.2.1.2 2 _ rfl)
    cases R
    · skip
      go_wp2_with fail
      all_goals first
        | (go_ret; exact ⟨rfl, H4.out.2.2.2⟩)
        | (subst_vars
           have hne := Lib.hid (HFIN.out (by rintro ⟨a, b, c⟩; omega))
           refine (HF1.out _).mono ?_
           rintro e w5 ⟨rfl, hb5⟩
           have H5 := Lib.hid (And.intro (H4.out.1.below hb5 H4.out.1.1) (And.intro (H4.out.2.1.below hb5 H4.out.2.1.1) (And.intro (H4.out.2.2.1.below hb5 H4.out.2.2.1.1) (H4.out.2.2.2.trans (hb5.mono H4.out.2.2.2.size)))))
           clear c0 c1 c2 c3 c4 c5 c6 c7 c8 m0 m1 m2 o0 o1 o2 hb5
           have c0 := (H5.out.2.2.1.2 0 _ rfl); have c1 := (H5.out.2.2.1.2 1 _ rfl); have c2 := (H5.out.2.2.1.2 2 _ rfl); have c3 := (H5.out.2.2.1.2 3 _ rfl); have c4 := (H5.out.2.2.1.2 4 _ rfl)
           have c5 := (H5.out.2.2.1.2 5 _ rfl); have c6 := (H5.out.2.2.1.2 6 _ rfl); have c7 := (H5.out.2.2.1.2 7 _ rfl); have c8 := (H5.out.2.2.1.2 8 _ rfl)
           have m0 := (H5.out.1.2 0 _ rfl); have m1 := (H5.out.1.2 1 _ rfl); have m2 := (H5.out.1.2 2 _ rfl)
           cases F1
           · go_wp2_with fail
             go_ret
             exact ⟨rfl, H5.out.2.2.2⟩
           · have hf2 := hne.out rfl
             subst hf2
             go_wp2_with fail
             refine (HF2.out _).mono ?_
             rintro e w6 ⟨rfl, hb6⟩
             go_wp2_with fail
             go_ret
             exact ⟨rfl, H5.out.2.2.2.trans (hb6.mono H5.out.2.2.2.size)⟩)
    · skip
      go_wp2_with fail
      all_goals first
        | (go_ret; exact ⟨rfl, H4.out.2.2.2⟩)
        | (subst_vars
           have hne := Lib.hid (HFIN.out (by rintro ⟨a, b, c⟩; omega))
           refine (HF1.out _).mono ?_
           rintro e w5 ⟨rfl, hb5⟩
           have H5 := Lib.hid (And.intro (H4.out.1.below hb5 H4.out.1.1) (And.intro (H4.out.2.1.below hb5 H4.out.2.1.1) (And.intro (H4.out.2.2.1.below hb5 H4.out.2.2.1.1) (H4.out.2.2.2.trans (hb5.mono H4.out.2.2.2.size)))))
           clear c0 c1 c2 c3 c4 c5 c6 c7 c8 m0 m1 m2 o0 o1 o2 hb5
           have c0 := (H5.out.2.2.1.2 0 _ rfl); have c1 := (H5.out.2.2.1.2 1 _ rfl); have c2 := (H5.out.2.2.1.2 2 _ rfl); have c3 := (H5.out.2.2.1.2 3 _ rfl); have c4 := (H5.out.2.2.1.2 4 _ rfl)
           have c5 := (H5.out.2.2.1.2 5 _ rfl); have c6 := (H5.out.2.2.1.2 6 _ rfl); have c7 := (H5.out.2.2.1.2 7 _ rfl); have c8 := (H5.out.2.2.1.2 8 _ rfl)
           have m0 := (H5.out.1.2 0 _ rfl); have m1 := (H5.out.1.2 1 _ rfl); have m2 := (H5.out.1.2 2 _ rfl)
           cases F1
           · go_wp2_with fail
             go_ret
             exact ⟨rfl, H5.out.2.2.2⟩
           · have hf2 := hne.out rfl
             subst hf2
             go_wp2_with fail
             refine (HF2.out _).mono ?_
             rintro e w6 ⟨rfl, hb6⟩
             go_wp2_with fail
             go_ret
             exact ⟨rfl, H5.out.2.2.2.trans (hb6.mono H5.out.2.2.2.size)⟩)
  · have g1' : mo + 1 ≤ 72057594037927935 := by omega
    go_enter Try.func3, Try.ntmps3
    go_wp2_with fail
    refine (awake09_any _).mono ?_
    rintro e w1 ⟨rfl, hb1⟩
    obtain ⟨hM, hO, hE', hB0⟩ := HROWS.out
    have H1 := Lib.hid (And.intro (hM.below hb1 hM.1) (And.intro (hO.below hb1 hO.1) (And.intro (hE'.below hb1 hE'.1) (hB0.trans (hb1.mono hB0.size)))))
    have c0 := (H1.out.2.2.1.2 0 _ rfl); have c1 := (H1.out.2.2.1.2 1 _ rfl); have c2 := (H1.out.2.2.1.2 2 _ rfl); have c3 := (H1.out.2.2.1.2 3 _ rfl); have c4 := (H1.out.2.2.1.2 4 _ rfl)
    have c5 := (H1.out.2.2.1.2 5 _ rfl); have c6 := (H1.out.2.2.1.2 6 _ rfl); have c7 := (H1.out.2.2.1.2 7 _ rfl); have c8 := (H1.out.2.2.1.2 8 _ rfl)
    clear hM hO hE' hB0 hb1
    go_wp2_with fail
    refine (long_no _ _ hb).mono ?_
    rintro e w2 ⟨rfl, rfl⟩
    have m0 := (H1.out.1.2 0 _ rfl); have m1 := (H1.out.1.2 1 _ rfl); have m2 := (H1.out.1.2 2 _ rfl)
    go_wp2_with fail
    refine (HN.out _).mono ?_
    rintro e w3 ⟨rfl, hb3⟩
    clear c0 c1 c2 c3 c4 c5 c6 c7 c8 m0 m1 m2
    have H3 := Lib.hid (And.intro (H1.out.1.below hb3 H1.out.1.1) (And.intro (H1.out.2.1.below hb3 H1.out.2.1.1) (And.intro (H1.out.2.2.1.below hb3 H1.out.2.2.1.1) (H1.out.2.2.2.trans (hb3.mono H1.out.2.2.2.size)))))
    clear hb3 H1
    have c0 := (H3.out.2.2.1.2 0 _ rfl); have c1 := (H3.out.2.2.1.2 1 _ rfl); have c2 := (H3.out.2.2.1.2 2 _ rfl); have c3 := (H3.out.2.2.1.2 3 _ rfl); have c4 := (H3.out.2.2.1.2 4 _ rfl)
    have c5 := (H3.out.2.2.1.2 5 _ rfl); have c6 := (H3.out.2.2.1.2 6 _ rfl); have c7 := (H3.out.2.2.1.2 7 _ rfl); have c8 := (H3.out.2.2.1.2 8 _ rfl)
    have m0 := (H3.out.1.2 0 _ rfl); have m1 := (H3.out.1.2 1 _ rfl); have m2 := (H3.out.1.2 2 _ rfl)
    have q0 : w.heap.size < w3.heap.size := H3.out.1.1
    have q1 : w.heap.size + 1 < w3.heap.size := H3.out.2.1.1
    have q2 : w.heap.size + 1 + 1 < w3.heap.size := H3.out.2.2.1.1
    have n0 : w.heap.size ≠ w3.heap.size + 1 := by omega
    have n1 : w3.heap.size + 1 ≠ w.heap.size := by omega
    have n2 : w3.heap.size ≠ w3.heap.size + 1 := by omega
    go_wp2_with fail
    refine (HR.out _).mono ?_
    rintro e w4 ⟨rfl, hb4⟩
    have hX := ((Row.new w3 _ _ _ rfl).alloc _).below hb4 (by simp; omega)
    have H4 := Lib.hid (And.intro (((H3.out.1.alloc _).alloc _).below hb4 (by simp; omega)) (And.intro (((H3.out.2.1.alloc _).alloc _).below hb4 (by simp; omega)) (And.intro hX ((((H3.out.2.2.2.alloc H3.out.2.2.2.size _).alloc (by simp; omega) _)).trans (hb4.mono (by simp; omega))))))
    clear c0 c1 c2 c3 c4 c5 c6 c7 c8 m0 m1 m2 n0 n1 n2 hb4 hX
    have c0 := (H4.out.2.2.1.2 0 _ rfl); have c1 := (H4.out.2.2.1.2 1 _ rfl); have c2 := (H4.out.2.2.1.2 2 _ rfl); have c3 := (H4.out.2.2.1.2 3 _ rfl); have c4 := (H4.out.2.2.1.2 4 _ rfl)
    have c5 := (H4.out.2.2.1.2 5 _ rfl); have c6 := (H4.out.2.2.1.2 6 _ rfl); have c7 := (H4.out.2.2.1.2 7 _ rfl); have c8 := (H4.out.2.2.1.2 8 _ rfl)
    have m0 := (H4.out.1.2 0 _ rfl); have m1 := (H4.out.1.2 1 _ rfl); have m2 := (H4.out.1.2 2 _ rfl)
    have o0 := (H4.out.2.1.2 0 _ rfl); have o1 := (H4.out.2.1.2 1 _ rfl); have o2 := (H4.out.2.1.2 2 _ rfl)
    cases R
    · skip
      go_wp2_with fail
      all_goals first
        | (go_ret; exact ⟨rfl, H4.out.2.2.2⟩)
        | (subst_vars
           have hne := Lib.hid (HFIN.out (by rintro ⟨a, b, c⟩; omega))
           refine (HF1.out _).mono ?_
           rintro e w5 ⟨rfl, hb5⟩
           have H5 := Lib.hid (And.intro (H4.out.1.below hb5 H4.out.1.1) (And.intro (H4.out.2.1.below hb5 H4.out.2.1.1) (And.intro (H4.out.2.2.1.below hb5 H4.out.2.2.1.1) (H4.out.2.2.2.trans (hb5.mono H4.out.2.2.2.size)))))
           clear c0 c1 c2 c3 c4 c5 c6 c7 c8 m0 m1 m2 o0 o1 o2 hb5
           have c0 := (H5.out.2.2.1.2 0 _ rfl); have c1 := (H5.out.2.2.1.2 1 _ rfl); have c2 := (H5.out.2.2.1.2 2 _ rfl); have c3 := (H5.out.2.2.1.2 3 _ rfl); have c4 := (H5.out.2.2.1.2 4 _ rfl)
           have c5 := (H5.out.2.2.1.2 5 _ rfl); have c6 := (H5.out.2.2.1.2 6 _ rfl); have c7 := (H5.out.2.2.1.2 7 _ rfl); have c8 := (H5.out.2.2.1.2 8 _ rfl)
           have m0 := (H5.out.1.2 0 _ rfl); have m1 := (H5.out.1.2 1 _ rfl); have m2 := (H5.out.1.2 2 _ rfl)
           cases F1
           · go_wp2_with fail
             go_ret
             exact ⟨rfl, H5.out.2.2.2⟩
           · have hf2 := hne.out rfl
             subst hf2
             go_wp2_with fail
             refine (HF2.out _).mono ?_
             rintro e w6 ⟨rfl, hb6⟩
             go_wp2_with fail
             go_ret
             exact ⟨rfl, H5.out.2.2.2.trans (hb6.mono H5.out.2.2.2.size)⟩)
    · skip
      have hf2 := HOK.out g0 g1 rfl
      subst hf2
      go_wp2_with fail
      refine (HF2.out _).mono ?_
      rintro e w4' ⟨rfl, hb5⟩
      have H4' := Lib.hid (And.intro (H4.out.1.below hb5 H4.out.1.1) (And.intro (H4.out.2.1.below hb5 H4.out.2.1.1) (And.intro (H4.out.2.2.1.below hb5 H4.out.2.2.1.1) (H4.out.2.2.2.trans (hb5.mono H4.out.2.2.2.size)))))
      clear c0 c1 c2 c3 c4 c5 c6 c7 c8 m0 m1 m2 o0 o1 o2 hb5 H4
      have H4 := H4'
      clear H4'
      have c0 := (H4.out.2.2.1.2 0 _ rfl); have c1 := (H4.out.2.2.1.2 1 _ rfl); have c2 := (H4.out.2.2.1.2 2 _ rfl); have c3 := (H4.out.2.2.1.2 3 _ rfl); have c4 := (H4.out.2.2.1.2 4 _ rfl)
      have c5 := (H4.out.2.2.1.2 5 _ rfl); have c6 := (H4.out.2.2.1.2 6 _ rfl); have c7 := (H4.out.2.2.1.2 7 _ rfl); have c8 := (H4.out.2.2.1.2 8 _ rfl)
      have m0 := (H4.out.1.2 0 _ rfl); have m1 := (H4.out.1.2 1 _ rfl); have m2 := (H4.out.1.2 2 _ rfl)
      have o0 := (H4.out.2.1.2 0 _ rfl); have o1 := (H4.out.2.1.2 1 _ rfl); have o2 := (H4.out.2.1.2 2 _ rfl)
      go_wp2_with fail
      all_goals first
        | (go_ret; exact ⟨rfl, H4.out.2.2.2⟩)
        | (subst_vars
           have hne := Lib.hid (HFIN.out (by rintro ⟨a, b, c⟩; omega))
           refine (HF1.out _).mono ?_
           rintro e w5 ⟨rfl, hb5⟩
           have H5 := Lib.hid (And.intro (H4.out.1.below hb5 H4.out.1.1) (And.intro (H4.out.2.1.below hb5 H4.out.2.1.1) (And.intro (H4.out.2.2.1.below hb5 H4.out.2.2.1.1) (H4.out.2.2.2.trans (hb5.mono H4.out.2.2.2.size)))))
           clear c0 c1 c2 c3 c4 c5 c6 c7 c8 m0 m1 m2 o0 o1 o2 hb5
           have c0 := (H5.out.2.2.1.2 0 _ rfl); have c1 := (H5.out.2.2.1.2 1 _ rfl); have c2 := (H5.out.2.2.1.2 2 _ rfl); have c3 := (H5.out.2.2.1.2 3 _ rfl); have c4 := (H5.out.2.2.1.2 4 _ rfl)
           have c5 := (H5.out.2.2.1.2 5 _ rfl); have c6 := (H5.out.2.2.1.2 6 _ rfl); have c7 := (H5.out.2.2.1.2 7 _ rfl); have c8 := (H5.out.2.2.1.2 8 _ rfl)
           have m0 := (H5.out.1.2 0 _ rfl); have m1 := (H5.out.1.2 1 _ rfl); have m2 := (H5.out.1.2 2 _ rfl)
           cases F1
           · go_wp2_with fail
             go_ret
             exact ⟨rfl, H5.out.2.2.2⟩
           · exact absurd (hne.out rfl) (by decide))
end Go.Proofs.Ytmebodjofcomlaa

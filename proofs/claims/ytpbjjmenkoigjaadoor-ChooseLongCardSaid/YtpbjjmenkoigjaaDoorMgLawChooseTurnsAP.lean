/- Arguments opened: messages in a slice. -/
import Derived.Test.YtpbjjmenkoigjaaDoorRows
import Derived.Test.YtpbjjmenkoigjaaDoorMgLawChooseTurnsAF
import Derived.WalkKit
import Derived.OpenShut
import Derived.WideShapes
import Derived.ChangeSame
import Derived.Deep.Slices
import Derived.Deep.Fields
namespace Go.Proofs.YtpbjjmenkoigjaaDoor
open Go.ChangeShapes Go.WideShapes Go.RowKit Go.Deep
set_option linter.unusedVariables false
theorem clist_of5 (cs : List Value) (h : cs.length = 5) : ∃ e0 e1 e2 e3 e4, cs = [e0, e1, e2, e3, e4] := by
  match cs, h with
  | [e0, e1, e2, e3, e4], _ => exact ⟨e0, e1, e2, e3, e4, rfl⟩
theorem clist_of9 (cs : List Value) (h : cs.length = 9) : ∃ e0 e1 e2 e3 e4 e5 e6 e7 e8, cs = [e0, e1, e2, e3, e4, e5, e6, e7, e8] := by
  match cs, h with
  | [e0, e1, e2, e3, e4, e5, e6, e7, e8], _ => exact ⟨e0, e1, e2, e3, e4, e5, e6, e7, e8, rfl⟩
theorem clist_of15 (cs : List Value) (h : cs.length = 15) : ∃ e0 e1 e2 e3 e4 e5 e6 e7 e8 e9 e10 e11 e12 e13 e14, cs = [e0, e1, e2, e3, e4, e5, e6, e7, e8, e9, e10, e11, e12, e13, e14] := by
  match cs, h with
  | [e0, e1, e2, e3, e4, e5, e6, e7, e8, e9, e10, e11, e12, e13, e14], _ => exact ⟨e0, e1, e2, e3, e4, e5, e6, e7, e8, e9, e10, e11, e12, e13, e14, rfl⟩
theorem clist_of33 (cs : List Value) (h : cs.length = 33) : ∃ e0 e1 e2 e3 e4 e5 e6 e7 e8 e9 e10 e11 e12 e13 e14 e15 e16 e17 e18 e19 e20 e21 e22 e23 e24 e25 e26 e27 e28 e29 e30 e31 e32, cs = [e0, e1, e2, e3, e4, e5, e6, e7, e8, e9, e10, e11, e12, e13, e14, e15, e16, e17, e18, e19, e20, e21, e22, e23, e24, e25, e26, e27, e28, e29, e30, e31, e32] := by
  cases cs with
  | nil => simp at h
  | cons e0 cs =>
  cases cs with
  | nil => simp at h
  | cons e1 cs =>
  cases cs with
  | nil => simp at h
  | cons e2 cs =>
  cases cs with
  | nil => simp at h
  | cons e3 cs =>
  cases cs with
  | nil => simp at h
  | cons e4 cs =>
  cases cs with
  | nil => simp at h
  | cons e5 cs =>
  cases cs with
  | nil => simp at h
  | cons e6 cs =>
  cases cs with
  | nil => simp at h
  | cons e7 cs =>
  cases cs with
  | nil => simp at h
  | cons e8 cs =>
  cases cs with
  | nil => simp at h
  | cons e9 cs =>
  cases cs with
  | nil => simp at h
  | cons e10 cs =>
  cases cs with
  | nil => simp at h
  | cons e11 cs =>
  cases cs with
  | nil => simp at h
  | cons e12 cs =>
  cases cs with
  | nil => simp at h
  | cons e13 cs =>
  cases cs with
  | nil => simp at h
  | cons e14 cs =>
  cases cs with
  | nil => simp at h
  | cons e15 cs =>
  cases cs with
  | nil => simp at h
  | cons e16 cs =>
  cases cs with
  | nil => simp at h
  | cons e17 cs =>
  cases cs with
  | nil => simp at h
  | cons e18 cs =>
  cases cs with
  | nil => simp at h
  | cons e19 cs =>
  cases cs with
  | nil => simp at h
  | cons e20 cs =>
  cases cs with
  | nil => simp at h
  | cons e21 cs =>
  cases cs with
  | nil => simp at h
  | cons e22 cs =>
  cases cs with
  | nil => simp at h
  | cons e23 cs =>
  cases cs with
  | nil => simp at h
  | cons e24 cs =>
  cases cs with
  | nil => simp at h
  | cons e25 cs =>
  cases cs with
  | nil => simp at h
  | cons e26 cs =>
  cases cs with
  | nil => simp at h
  | cons e27 cs =>
  cases cs with
  | nil => simp at h
  | cons e28 cs =>
  cases cs with
  | nil => simp at h
  | cons e29 cs =>
  cases cs with
  | nil => simp at h
  | cons e30 cs =>
  cases cs with
  | nil => simp at h
  | cons e31 cs =>
  cases cs with
  | nil => simp at h
  | cons e32 cs =>
  cases cs with
  | cons e cs => simp at h
  | nil => exact ⟨e0, e1, e2, e3, e4, e5, e6, e7, e8, e9, e10, e11, e12, e13, e14, e15, e16, e17, e18, e19, e20, e21, e22, e23, e24, e25, e26, e27, e28, e29, e30, e31, e32, rfl⟩
theorem clist_of3 (cs : List Value) (h : cs.length = 3) : ∃ e0 e1 e2, cs = [e0, e1, e2] := by
  match cs, h with
  | [e0, e1, e2], _ => exact ⟨e0, e1, e2, rfl⟩
theorem clist_of6 (cs : List Value) (h : cs.length = 6) : ∃ e0 e1 e2 e3 e4 e5, cs = [e0, e1, e2, e3, e4, e5] := by
  match cs, h with
  | [e0, e1, e2, e3, e4, e5], _ => exact ⟨e0, e1, e2, e3, e4, e5, rfl⟩
theorem field_at {H : Type} {enc : TypeId × Value → H} {w : World} {base : Nat} {spare : Nat → Bool} {held : Bool} {P : Program} {t : TypeId} {fs : Array Field} {fuel : Nat} {cs : List Value} {x : DataW H × List MemPlace} (he : P.underlying t = some (.struct fs)) (h : DataW.trod enc P w base spare held fuel t cs = some x)
    (j : Nat) (ft : TypeId) (off k : Nat) (hj : (fs[j]?).map (fun f => (f.type, f.offset)) = some (ft, off)) (hk : P.cellsOf ft = k) : ∃ n y, DataW.trod enc P w base spare held n ft ((cs.drop off).take k) = some y := by
  obtain ⟨xs, n, _, _, _, hlen, hf⟩ := DataW.trod_struct he h
  obtain ⟨f, hfj, hfe⟩ := Option.map_eq_some_iff.1 hj
  have hft : f.type = ft := congrArg Prod.fst hfe
  have hfo : f.offset = off := congrArg Prod.snd hfe
  subst hft hfo hk
  have hlt : j < xs.length := by rw [hlen]; exact (Array.getElem?_eq_some_iff.1 hfj).1
  exact ⟨n, xs[j], (hf j f hfj).trans (List.getElem?_eq_getElem hlt)⟩
theorem addr_plain {w : World} {a : Addr} {v : Value} (h : w.cell? (a.add 0) = some v) : a.spot = none := by
  obtain ⟨b, off, spot⟩ := a
  cases spot with
  | none => rfl
  | some q =>
    simp [Addr.add, World.cell?] at h
    split at h <;> simp at h
theorem open_rows {H : Type} {enc : TypeId × Value → H} {w : World} {base : Nat} {spare : Nat → Bool} {held : Bool} {P : Program} {t e : TypeId} {fuel : Nat} {ad : Option Addr} {len cap : Nat} {x : DataW H × List MemPlace} (k : Nat) (hk : 0 < k)
    (ht : P.underlying t = some (.slice e)) (hC : P.cellsOf e = k) (h : DataW.trod enc P w base spare held fuel t [.slice ad len cap] = some x) :
    ∃ l : List (List Value), len = l.length ∧ l.length ≤ cap ∧ cap ≤ maxLen ∧ RowsAt k w ad (l.map List.toArray) ∧ ∀ r ∈ l, r.length = k ∧ ∃ n y, DataW.trod enc P w base spare held n e r = some y := by
  rcases open_slice ht h with ⟨hcs, _⟩ | ⟨a, ln, cp, m, n, D, Pl, hcs, _, hl, hm, hmm, _, hi⟩
  · simp at hcs
    obtain ⟨rfl, rfl, rfl⟩ := hcs
    exact ⟨[], rfl, Nat.le_refl _, by unfold maxLen; omega, RowsAt.nil _ _ _, fun r hr => by cases hr⟩
  · simp at hcs
    obtain ⟨rfl, rfl, rfl⟩ := hcs
    have hlm : len ≤ m := by
      rw [hmm]
      split
      · exact hl
      · exact Nat.le_refl _
    obtain ⟨F, hF⟩ : ∃ F : Nat → List Value, ∀ i, i < m → w.cells? base (a.add (i * P.cellsOf e)) (P.cellsOf e) = some (F i) ∧ DataW.trod enc P w base spare held n e (F i) = some (D i, Pl i) := by
      refine ⟨fun i => if h : i < m then (hi i h).choose else [], fun i h => ?_⟩
      simp only [dif_pos h]
      exact (hi i h).choose_spec
    rw [hC] at hF
    refine ⟨(List.range len).map F, by simp, by simp; exact hl, hm, fun i r hr => ?_, fun r hr => ?_⟩
    · rw [List.getElem?_map] at hr
      obtain ⟨r', hr', rfl⟩ := Option.map_eq_some_iff.1 hr
      rw [List.getElem?_map] at hr'
      obtain ⟨i', hi', rfl⟩ := Option.map_eq_some_iff.1 hr'
      obtain ⟨hlt, rfl⟩ := List.getElem?_eq_some_iff.1 hi'
      rw [List.length_range] at hlt
      rw [List.getElem_range] at *
      obtain ⟨hc, _⟩ := hF i (by omega)
      obtain ⟨_, hcl, hat⟩ := World.cells?_some hc
      have hc0 := (hF 0 (by omega)).1
      obtain ⟨_, hcl0, hat0⟩ := World.cells?_some hc0
      have h0 := hat0 0 hk
      rw [Nat.zero_mul] at h0
      have hsp : a.spot = none := by
        have hx : ∃ v, w.cell? ((a.add 0).add 0) = some v := ⟨_, h0.trans (List.getElem?_eq_getElem (by omega))⟩
        obtain ⟨v, hx⟩ := hx
        rw [Go.Deep.add_add] at hx
        exact addr_plain hx
      obtain ⟨b, off, spot⟩ := a
      simp only at hsp
      subst hsp
      have hadd : ∀ (o q : Nat), (⟨b, o, none⟩ : Addr).add q = ⟨b, o + q, none⟩ := by intro o q; unfold Addr.add; split <;> simp_all
      refine ⟨b, off, rfl, ?_, fun j u hu => ?_⟩
      · have := h0.trans (List.getElem?_eq_getElem (by omega))
        rw [hadd, hadd] at this
        exact cell_lt this
      · have hj : j < k := by
          have := (Array.getElem?_eq_some_iff.1 hu).1
          simp at this
          omega
        have := hat j hj
        rw [hadd, hadd] at this
        rw [this]
        simpa using hu
    · obtain ⟨i, hi', rfl⟩ := List.mem_map.1 hr
      have hlt := List.mem_range.1 hi'
      obtain ⟨hc, ht'⟩ := hF i (by omega)
      obtain ⟨_, hcl, hat⟩ := World.cells?_some hc
      exact ⟨hcl, n, _, ht'⟩
theorem cslice_cell {H : Type} {enc : TypeId × Value → H} {w : World} {base : Nat} {spare : Nat → Bool} {held : Bool} {P : Program} {t e : TypeId} {fuel : Nat} {u : Value} {y : DataW H × List MemPlace} (ht : P.underlying t = some (.slice e)) (h : DataW.trod enc P w base spare held fuel t [u] = some y) : ∃ q n c, u = .slice q n c := by
  rcases open_slice ht h with ⟨q, _⟩ | ⟨a, ln, cp, m, n, D, Pl, q, _⟩
  · exact ⟨none, 0, 0, (List.cons.inj q).1⟩
  · exact ⟨some a, ln, cp, (List.cons.inj q).1⟩
theorem open_est {H : Type} {enc : TypeId × Value → H} {w : World} {base : Nat} {spare : Nat → Bool} {held : Bool} {fuel : Nat} {cs : List Value} {x : DataW H × List MemPlace} (HT : DataW.trod enc Tryd.prog w base spare held fuel 35 cs = some x) : ∃ e : Est, cs = e.row.toList ∧ e.Ok := by
  have HE := Tryd.underlying35
  have hlen : cs.length = 9 := by
    obtain ⟨_, _, _, _, h, _⟩ := DataW.trod_struct HE HT
    rw [h]
    kernel_rfl
  obtain ⟨e0, e1, e2, e3, e4, e5, e6, e7, e8, rfl⟩ := clist_of9 cs hlen
  obtain ⟨n0, y0, t0⟩ := field_at HE HT 0 3 0 1 rfl (by kernel_rfl)
  obtain ⟨c0, q0, -, w0⟩ := DataW.trod_int Tryd.underlying3 t0
  obtain rfl := (List.cons.inj q0).1
  have b0 := bounds_i64 w0
  obtain ⟨n1, y1, t1⟩ := field_at HE HT 1 3 1 1 rfl (by kernel_rfl)
  obtain ⟨c1, q1, -, w1⟩ := DataW.trod_int Tryd.underlying3 t1
  obtain rfl := (List.cons.inj q1).1
  have b1 := bounds_i64 w1
  obtain ⟨n2, y2, t2⟩ := field_at HE HT 2 3 2 1 rfl (by kernel_rfl)
  obtain ⟨c2, q2, -, w2⟩ := DataW.trod_int Tryd.underlying3 t2
  obtain rfl := (List.cons.inj q2).1
  have b2 := bounds_i64 w2
  obtain ⟨n3, y3, t3⟩ := field_at HE HT 3 25 3 1 rfl (by kernel_rfl)
  obtain ⟨c3, q3, -, w3⟩ := DataW.trod_int Tryd.underlying25 t3
  obtain rfl := (List.cons.inj q3).1
  have b3 := bounds_u64 w3
  obtain ⟨n4, y4, t4⟩ := field_at HE HT 4 3 4 1 rfl (by kernel_rfl)
  obtain ⟨c4, q4, -, w4⟩ := DataW.trod_int Tryd.underlying3 t4
  obtain rfl := (List.cons.inj q4).1
  have b4 := bounds_i64 w4
  obtain ⟨n5, y5, t5⟩ := field_at HE HT 5 3 5 1 rfl (by kernel_rfl)
  obtain ⟨c5, q5, -, w5⟩ := DataW.trod_int Tryd.underlying3 t5
  obtain rfl := (List.cons.inj q5).1
  have b5 := bounds_i64 w5
  obtain ⟨n6, y6, t6⟩ := field_at HE HT 6 3 6 1 rfl (by kernel_rfl)
  obtain ⟨c6, q6, -, w6⟩ := DataW.trod_int Tryd.underlying3 t6
  obtain rfl := (List.cons.inj q6).1
  have b6 := bounds_i64 w6
  obtain ⟨n7, y7, t7⟩ := field_at HE HT 7 3 7 1 rfl (by kernel_rfl)
  obtain ⟨c7, q7, -, w7⟩ := DataW.trod_int Tryd.underlying3 t7
  obtain rfl := (List.cons.inj q7).1
  have b7 := bounds_i64 w7
  obtain ⟨n8, y8, t8⟩ := field_at HE HT 8 9 8 1 rfl (by kernel_rfl)
  obtain ⟨c8, q8, -⟩ := DataW.trod_string Tryd.underlying9 t8
  obtain rfl := (List.cons.inj q8).1
  exact ⟨⟨c0, c1, c2, c3, c4, c5, c6, c7, c8⟩, rfl, b1, b3⟩
theorem open_sst {H : Type} {enc : TypeId × Value → H} {w : World} {base : Nat} {spare : Nat → Bool} {held : Bool} {fuel : Nat} {cs : List Value} {x : DataW H × List MemPlace} (HT : DataW.trod enc Tryd.prog w base spare held fuel 38 cs = some x) : ∃ s : Sst, cs = s.row.toList ∧ s.Ok := by
  have HE := Tryd.underlying38
  have hlen : cs.length = 5 := by
    obtain ⟨_, _, _, _, h, _⟩ := DataW.trod_struct HE HT
    rw [h]
    kernel_rfl
  obtain ⟨e0, e1, e2, e3, e4, rfl⟩ := clist_of5 cs hlen
  obtain ⟨n0, y0, t0⟩ := field_at HE HT 0 3 0 1 rfl (by kernel_rfl)
  obtain ⟨c0, q0, -, w0⟩ := DataW.trod_int Tryd.underlying3 t0
  obtain rfl := (List.cons.inj q0).1
  have b0 := bounds_i64 w0
  obtain ⟨n1, y1, t1⟩ := field_at HE HT 1 3 1 1 rfl (by kernel_rfl)
  obtain ⟨c1, q1, -, w1⟩ := DataW.trod_int Tryd.underlying3 t1
  obtain rfl := (List.cons.inj q1).1
  have b1 := bounds_i64 w1
  obtain ⟨n2, y2, t2⟩ := field_at HE HT 2 3 2 1 rfl (by kernel_rfl)
  obtain ⟨c2, q2, -, w2⟩ := DataW.trod_int Tryd.underlying3 t2
  obtain rfl := (List.cons.inj q2).1
  have b2 := bounds_i64 w2
  obtain ⟨n3, y3, t3⟩ := field_at HE HT 3 25 3 1 rfl (by kernel_rfl)
  obtain ⟨c3, q3, -, w3⟩ := DataW.trod_int Tryd.underlying25 t3
  obtain rfl := (List.cons.inj q3).1
  have b3 := bounds_u64 w3
  obtain ⟨n4, y4, t4⟩ := field_at HE HT 4 25 4 1 rfl (by kernel_rfl)
  obtain ⟨c4, q4, -, w4⟩ := DataW.trod_int Tryd.underlying25 t4
  obtain rfl := (List.cons.inj q4).1
  have b4 := bounds_u64 w4
  exact ⟨⟨c0, c1, c2, c3, c4⟩, rfl, b0, b3, b4⟩
theorem open_ist {H : Type} {enc : TypeId × Value → H} {w : World} {base : Nat} {spare : Nat → Bool} {held : Bool} {fuel : Nat} {cs : List Value} {x : DataW H × List MemPlace} (HT : DataW.trod enc Tryd.prog w base spare held fuel 40 cs = some x) : ∃ s : Ist, cs = s.row.toList ∧ s.Ok := by
  have HE := Tryd.underlying40
  have hlen : cs.length = 15 := by
    obtain ⟨_, _, _, _, h, _⟩ := DataW.trod_struct HE HT
    rw [h]
    kernel_rfl
  obtain ⟨e0, e1, e2, e3, e4, e5, e6, e7, e8, e9, e10, e11, e12, e13, e14, rfl⟩ := clist_of15 cs hlen
  obtain ⟨n0, y0, t0⟩ := field_at HE HT 0 3 0 1 rfl (by kernel_rfl)
  obtain ⟨c0, q0, -, w0⟩ := DataW.trod_int Tryd.underlying3 t0
  obtain rfl := (List.cons.inj q0).1
  have b0 := bounds_i64 w0
  obtain ⟨n1, y1, t1⟩ := field_at HE HT 1 38 1 5 rfl (by kernel_rfl)
  obtain ⟨n6, y6, t6⟩ := field_at HE HT 2 35 6 9 rfl (by kernel_rfl)
  obtain ⟨s, hs, hso⟩ := open_sst t1
  obtain ⟨e, he, heo⟩ := open_est t6
  have hs : [e1, e2, e3, e4, e5] = [.int .i64 s.o, .int .i64 s.v, .int .i64 s.u, .int .u64 s.p, .int .u64 s.s] := hs
  have he : [e6, e7, e8, e9, e10, e11, e12, e13, e14] = [.int .i64 e.v, .int .i64 e.o, .int .i64 e.u, .int .u64 e.p, .int .i64 e.c, .int .i64 e.s, .int .i64 e.r, .int .i64 e.k, .string e.b] := he
  simp only [List.cons.injEq, and_true] at hs he
  obtain ⟨rfl, rfl, rfl, rfl, rfl⟩ := hs
  obtain ⟨rfl, rfl, rfl, rfl, rfl, rfl, rfl, rfl, rfl⟩ := he
  exact ⟨⟨c0, s, e⟩, rfl, hso, heo⟩
theorem open_mark {H : Type} {enc : TypeId × Value → H} {w : World} {base : Nat} {spare : Nat → Bool} {held : Bool} {fuel : Nat} {cs : List Value} {x : DataW H × List MemPlace} (HT : DataW.trod enc Tryd.prog w base spare held fuel 27 cs = some x) : ∃ a b c : Int, cs = [.int .i64 a, .int .i64 b, .int .u64 c] ∧ -9223372036854775808 ≤ a ∧ a ≤ 9223372036854775807 := by
  have HE := Tryd.underlying27
  have hlen : cs.length = 3 := by
    obtain ⟨_, _, _, _, h, _⟩ := DataW.trod_struct HE HT
    rw [h]
    kernel_rfl
  obtain ⟨e0, e1, e2, rfl⟩ := clist_of3 cs hlen
  obtain ⟨n0, y0, t0⟩ := field_at HE HT 0 3 0 1 rfl (by kernel_rfl)
  obtain ⟨c0, q0, -, w0⟩ := DataW.trod_int Tryd.underlying3 t0
  obtain rfl := (List.cons.inj q0).1
  have b0 := bounds_i64 w0
  obtain ⟨n1, y1, t1⟩ := field_at HE HT 1 3 1 1 rfl (by kernel_rfl)
  obtain ⟨c1, q1, -, w1⟩ := DataW.trod_int Tryd.underlying3 t1
  obtain rfl := (List.cons.inj q1).1
  have b1 := bounds_i64 w1
  obtain ⟨n2, y2, t2⟩ := field_at HE HT 2 25 2 1 rfl (by kernel_rfl)
  obtain ⟨c2, q2, -, w2⟩ := DataW.trod_int Tryd.underlying25 t2
  obtain rfl := (List.cons.inj q2).1
  have b2 := bounds_u64 w2
  exact ⟨c0, c1, c2, rfl, b0⟩
theorem open_sums {H : Type} {enc : TypeId × Value → H} {w : World} {base : Nat} {spare : Nat → Bool} {held : Bool} {fuel : Nat} {cs : List Value} {x : DataW H × List MemPlace} (HT : DataW.trod enc Tryd.prog w base spare held fuel 42 cs = some x) : ∃ a b c d e f : Int, cs = [.int .u64 a, .int .u64 b, .int .u64 c, .int .u64 d, .int .u64 e, .int .u64 f] := by
  have hu : Tryd.prog.underlying 42 = some (.array 6 25) := by kernel_rfl
  have hc : Tryd.prog.cellsOf 25 = 1 := by kernel_rfl
  obtain ⟨xs, m, _, _, hlen, hxl, hf⟩ := DataW.trod_array hu HT
  rw [show Tryd.prog.cellsOf 42 = 6 by kernel_rfl] at hlen
  obtain ⟨e0, e1, e2, e3, e4, e5, rfl⟩ := clist_of6 cs hlen
  rw [hc] at hf
  have hg : ∀ i (hi : i < 6), ∃ y, DataW.trod enc Tryd.prog w base spare held m 25 (([e0, e1, e2, e3, e4, e5].drop (i * 1)).take 1) = some y := fun i hi => ⟨xs[i]'(by omega), (hf i hi).trans (List.getElem?_eq_getElem (by omega))⟩
  obtain ⟨y0, t0⟩ := hg 0 (by decide)
  obtain ⟨c0, q0, -, _⟩ := DataW.trod_int Tryd.underlying25 t0
  obtain rfl := (List.cons.inj q0).1
  obtain ⟨y1, t1⟩ := hg 1 (by decide)
  obtain ⟨c1, q1, -, _⟩ := DataW.trod_int Tryd.underlying25 t1
  obtain rfl := (List.cons.inj q1).1
  obtain ⟨y2, t2⟩ := hg 2 (by decide)
  obtain ⟨c2, q2, -, _⟩ := DataW.trod_int Tryd.underlying25 t2
  obtain rfl := (List.cons.inj q2).1
  obtain ⟨y3, t3⟩ := hg 3 (by decide)
  obtain ⟨c3, q3, -, _⟩ := DataW.trod_int Tryd.underlying25 t3
  obtain rfl := (List.cons.inj q3).1
  obtain ⟨y4, t4⟩ := hg 4 (by decide)
  obtain ⟨c4, q4, -, _⟩ := DataW.trod_int Tryd.underlying25 t4
  obtain rfl := (List.cons.inj q4).1
  obtain ⟨y5, t5⟩ := hg 5 (by decide)
  obtain ⟨c5, q5, -, _⟩ := DataW.trod_int Tryd.underlying25 t5
  obtain rfl := (List.cons.inj q5).1
  exact ⟨c0, c1, c2, c3, c4, c5, rfl⟩
theorem open_est_all {w : World} {l : List (List Value)} (h : ∀ r ∈ l, ∃ e : Est, r = e.row.toList ∧ e.Ok) : ∃ L : List Est, l = L.map (fun e => e.row.toList) ∧ ∀ e ∈ L, e.Ok := by
  induction l with
  | nil => exact ⟨[], rfl, fun e he => by cases he⟩
  | cons r l ih =>
    obtain ⟨e, rfl, he⟩ := h r (by simp)
    obtain ⟨L, rfl, hL⟩ := ih (fun r hr => h r (by simp [hr]))
    exact ⟨e :: L, rfl, fun x hx => by rcases List.mem_cons.1 hx with rfl | hx; exact he; exact hL x hx⟩
theorem open_ist_all {w : World} {l : List (List Value)} (h : ∀ r ∈ l, ∃ e : Ist, r = e.row.toList ∧ e.Ok) : ∃ L : List Ist, l = L.map (fun e => e.row.toList) ∧ ∀ e ∈ L, e.Ok := by
  induction l with
  | nil => exact ⟨[], rfl, fun e he => by cases he⟩
  | cons r l ih =>
    obtain ⟨e, rfl, he⟩ := h r (by simp)
    obtain ⟨L, rfl, hL⟩ := ih (fun r hr => h r (by simp [hr]))
    exact ⟨e :: L, rfl, fun x hx => by rcases List.mem_cons.1 hx with rfl | hx; exact he; exact hL x hx⟩
theorem open_mst_all {w : World} {l : List (List Value)} (h : ∀ r ∈ l, ∃ m : Mst, r = m.row.toList ∧ m.In w) : ∃ L : List Mst, l = L.map (fun m => m.row.toList) ∧ ∀ m ∈ L, m.In w := by
  induction l with
  | nil => exact ⟨[], rfl, fun e he => by cases he⟩
  | cons r l ih =>
    obtain ⟨e, rfl, he⟩ := h r (by simp)
    obtain ⟨L, rfl, hL⟩ := ih (fun r hr => h r (by simp [hr]))
    exact ⟨e :: L, rfl, fun x hx => by rcases List.mem_cons.1 hx with rfl | hx; exact he; exact hL x hx⟩
theorem open_mst {H : Type} {enc : TypeId × Value → H} {w : World} {base : Nat} {spare : Nat → Bool} {held : Bool} {fuel : Nat} {cs : List Value} {x : DataW H × List MemPlace} (HT : DataW.trod enc Tryd.prog w base spare held fuel 45 cs = some x) : ∃ m : Mst, cs = m.row.toList ∧ m.In w := by
  have HE := Tryd.underlying45
  have hlen : cs.length = 33 := by
    obtain ⟨_, _, _, _, h, _⟩ := DataW.trod_struct HE HT
    rw [h]
    kernel_rfl
  obtain ⟨e0, e1, e2, e3, e4, e5, e6, e7, e8, e9, e10, e11, e12, e13, e14, e15, e16, e17, e18, e19, e20, e21, e22, e23, e24, e25, e26, e27, e28, e29, e30, e31, e32, rfl⟩ := clist_of33 cs hlen
  obtain ⟨n0, y0, t0⟩ := field_at HE HT 0 3 0 1 rfl (by kernel_rfl)
  obtain ⟨c0, q0, -, w0⟩ := DataW.trod_int Tryd.underlying3 t0
  obtain rfl := (List.cons.inj q0).1
  have b0 := bounds_i64 w0
  obtain ⟨n1, y1, t1⟩ := field_at HE HT 1 3 1 1 rfl (by kernel_rfl)
  obtain ⟨c1, q1, -, w1⟩ := DataW.trod_int Tryd.underlying3 t1
  obtain rfl := (List.cons.inj q1).1
  have b1 := bounds_i64 w1
  obtain ⟨n2, y2, t2⟩ := field_at HE HT 2 3 2 1 rfl (by kernel_rfl)
  obtain ⟨c2, q2, -, w2⟩ := DataW.trod_int Tryd.underlying3 t2
  obtain rfl := (List.cons.inj q2).1
  have b2 := bounds_i64 w2
  obtain ⟨n3, y3, t3⟩ := field_at HE HT 3 3 3 1 rfl (by kernel_rfl)
  obtain ⟨c3, q3, -, w3⟩ := DataW.trod_int Tryd.underlying3 t3
  obtain rfl := (List.cons.inj q3).1
  have b3 := bounds_i64 w3
  obtain ⟨n4, y4, t4⟩ := field_at HE HT 4 3 4 1 rfl (by kernel_rfl)
  obtain ⟨c4, q4, -, w4⟩ := DataW.trod_int Tryd.underlying3 t4
  obtain rfl := (List.cons.inj q4).1
  have b4 := bounds_i64 w4
  obtain ⟨n5, y5, t5⟩ := field_at HE HT 5 3 5 1 rfl (by kernel_rfl)
  obtain ⟨c5, q5, -, w5⟩ := DataW.trod_int Tryd.underlying3 t5
  obtain rfl := (List.cons.inj q5).1
  have b5 := bounds_i64 w5
  obtain ⟨n6, y6, t6⟩ := field_at HE HT 6 3 6 1 rfl (by kernel_rfl)
  obtain ⟨c6, q6, -, w6⟩ := DataW.trod_int Tryd.underlying3 t6
  obtain rfl := (List.cons.inj q6).1
  have b6 := bounds_i64 w6
  obtain ⟨n7, y7, t7⟩ := field_at HE HT 7 3 7 1 rfl (by kernel_rfl)
  obtain ⟨c7, q7, -, w7⟩ := DataW.trod_int Tryd.underlying3 t7
  obtain rfl := (List.cons.inj q7).1
  have b7 := bounds_i64 w7
  obtain ⟨n8, y8, t8⟩ := field_at HE HT 8 3 8 1 rfl (by kernel_rfl)
  obtain ⟨c8, q8, -, w8⟩ := DataW.trod_int Tryd.underlying3 t8
  obtain rfl := (List.cons.inj q8).1
  have b8 := bounds_i64 w8
  obtain ⟨n9, y9, t9⟩ := field_at HE HT 9 3 9 1 rfl (by kernel_rfl)
  obtain ⟨c9, q9, -, w9⟩ := DataW.trod_int Tryd.underlying3 t9
  obtain rfl := (List.cons.inj q9).1
  have b9 := bounds_i64 w9
  obtain ⟨n10, y10, t10⟩ := field_at HE HT 10 3 10 1 rfl (by kernel_rfl)
  obtain ⟨c10, q10, -, w10⟩ := DataW.trod_int Tryd.underlying3 t10
  obtain rfl := (List.cons.inj q10).1
  have b10 := bounds_i64 w10
  obtain ⟨n11, y11, t11⟩ := field_at HE HT 11 3 11 1 rfl (by kernel_rfl)
  obtain ⟨c11, q11, -, w11⟩ := DataW.trod_int Tryd.underlying3 t11
  obtain rfl := (List.cons.inj q11).1
  have b11 := bounds_i64 w11
  obtain ⟨n12, y12, t12⟩ := field_at HE HT 12 27 12 3 rfl (by kernel_rfl)
  obtain ⟨n15, y15, t15⟩ := field_at HE HT 13 42 15 6 rfl (by kernel_rfl)
  obtain ⟨n21, y21, t21⟩ := field_at HE HT 14 35 21 9 rfl (by kernel_rfl)
  obtain ⟨n30, y30, t30⟩ := field_at HE HT 15 28 30 1 rfl (by kernel_rfl)
  obtain ⟨n31, y31, t31⟩ := field_at HE HT 16 43 31 1 rfl (by kernel_rfl)
  obtain ⟨n32, y32, t32⟩ := field_at HE HT 17 9 32 1 rfl (by kernel_rfl)
  obtain ⟨c32, q32, -⟩ := DataW.trod_string Tryd.underlying9 t32
  obtain rfl := (List.cons.inj q32).1
  obtain ⟨ma, mb, mc, hm, hmo⟩ := open_mark t12
  obtain ⟨s0, s1, s2, s3, s4, s5, hsm⟩ := open_sums t15
  obtain ⟨e, he, heo⟩ := open_est t21
  obtain ⟨ea, el, ec, h30⟩ := cslice_cell Tryd.underlying28 t30
  obtain ⟨ia, il, ic, h31⟩ := cslice_cell Tryd.underlying43 t31
  have hm : [e12, e13, e14] = [.int .i64 ma, .int .i64 mb, .int .u64 mc] := hm
  have hsm : [e15, e16, e17, e18, e19, e20] = [.int .u64 s0, .int .u64 s1, .int .u64 s2, .int .u64 s3, .int .u64 s4, .int .u64 s5] := hsm
  have he : [e21, e22, e23, e24, e25, e26, e27, e28, e29] = [.int .i64 e.v, .int .i64 e.o, .int .i64 e.u, .int .u64 e.p, .int .i64 e.c, .int .i64 e.s, .int .i64 e.r, .int .i64 e.k, .string e.b] := he
  simp only [List.cons.injEq, and_true] at hm hsm he
  obtain ⟨rfl, rfl, rfl⟩ := hm
  obtain ⟨rfl, rfl, rfl, rfl, rfl, rfl⟩ := hsm
  obtain ⟨rfl, rfl, rfl, rfl, rfl, rfl, rfl, rfl, rfl⟩ := he
  subst h30 h31
  obtain ⟨le, rfl, hec, hem, her, hea⟩ := open_rows 9 (by decide) Tryd.underlying28 (by kernel_rfl) t30
  obtain ⟨li, rfl, hic, him, hir, hia⟩ := open_rows 15 (by decide) Tryd.underlying43 (by kernel_rfl) t31
  obtain ⟨LE, rfl, hLE⟩ := open_est_all (w := w) (fun r hr => by obtain ⟨_, _, _, h⟩ := hea r hr; exact open_est h)
  obtain ⟨LI, rfl, hLI⟩ := open_ist_all (w := w) (fun r hr => by obtain ⟨_, _, _, h⟩ := hia r hr; exact open_ist h)
  have hmx : maxLen = 9223372036854775807 := rfl
  refine ⟨⟨c0, c1, c2, c3, c4, c5, c6, c7, c8, c9, c10, c11, ma, mb, mc, s0, s1, s2, s3, s4, s5, e, ea, ec, LE, ia, ic, LI, c32⟩, ?_, ?_⟩
  · show _ = (Mst.row _).toList
    unfold Mst.row
    simp
  · refine ⟨?_, ?_, by simpa using hec, by simpa using hic, ?_, ?_, hLE, hLI, hmo, heo⟩
    · have : (LE.map (fun e => e.row.toList)).map List.toArray = LE.map Est.row := by rw [List.map_map]; exact List.map_congr_left (fun e _ => by simp)
      rw [← this]; exact her
    · have : (LI.map (fun e => e.row.toList)).map List.toArray = LI.map Ist.row := by rw [List.map_map]; exact List.map_congr_left (fun e _ => by simp)
      rw [← this]; exact hir
    · rw [List.length_map] at hec; show LE.length ≤ _; omega
    · rw [List.length_map] at hic; show LI.length ≤ _; omega
theorem open_msgs {H : Type} {enc : TypeId × Value → H} {w : World} {base : Nat} {spare : Nat → Bool} {held : Bool} {t : TypeId} {ad : Option Addr} {len cap : Nat} {d : DataW H} {p : List MemPlace} (ht : Tryd.prog.underlying t = some (.slice 45)) (h : DataW.Trod enc Tryd.prog w base spare held t (.slice ad len cap) d p) :
    ∃ L : List Mst, len = L.length ∧ L.length ≤ cap ∧ RowsAt 33 w ad (L.map Mst.row) ∧ ∀ m ∈ L, m.In w := by
  obtain ⟨fuel, hf⟩ := h
  obtain ⟨l, rfl, hc, hm, hr, ha⟩ := open_rows 33 (by decide) ht (by kernel_rfl) hf
  obtain ⟨L, rfl, hL⟩ := open_mst_all (w := w) (fun r hr => by obtain ⟨_, _, _, h⟩ := ha r hr; exact open_mst h)
  refine ⟨L, by simp, by simpa using hc, ?_, hL⟩
  have : (L.map (fun e => e.row.toList)).map List.toArray = L.map Mst.row := by rw [List.map_map]; exact List.map_congr_left (fun e _ => by simp)
  rw [← this]; exact hr
end Go.Proofs.YtpbjjmenkoigjaaDoor

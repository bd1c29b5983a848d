/- The reference's Take; Same; what is asked first. -/
import Derived.Test.YtnldjddmchfcoaaMailE
namespace Go.Proofs.Ytnldjddmchfcoaa
open Go.RowKit Go.Conc
set_option linter.unusedVariables false
theorem OwnC.pop3 {Y : Nat → Prop} {w : World} {b off cap : Nat} {x : Ltr} {r : List Ltr} (h : OwnC Y w (.slice (some ⟨b, off, none⟩) (x :: r).length cap) (x :: r).length 3 (lcells (x :: r))) : OwnC Y w (.slice (if cap = 1 then some ⟨b, off, none⟩ else some ⟨b, off + 3, none⟩) r.length (cap - 1)) r.length 3 (lcells r) := by
  obtain ⟨h1, h2⟩ := h
  refine ⟨lcells_length r, ?_⟩
  rcases h2 with ⟨hv, hn⟩ | ⟨b', off', cap', hv, hb, hlt, hc, h3, h4⟩
  · cases hn
  injection hv with hv1 hv2 hv3
  injection hv1 with hv1
  injection hv1 with q1 q2
  subst q1 q2 hv3
  rw [List.length_cons] at hc
  by_cases hcap : cap = 1
  · subst hcap
    have hr : r = [] := List.eq_nil_of_length_eq_zero (by omega)
    subst hr
    rw [if_pos rfl]
    exact .inr ⟨b, off, 0, rfl, hb, hlt, Nat.le_refl _, fun j u hu => by simp [lcells] at hu, fun j hj => by omega⟩
  · rw [if_neg hcap]
    refine .inr ⟨b, off + 3, cap - 1, rfl, hb, hlt, by omega, fun j u hu => ?_, fun j hj => ?_⟩
    · rw [show off + 3 + j = off + (j + 3) by omega]
      exact h3 (j + 3) u hu
    · rw [show off + 3 + j = off + (j + 3) by omega]
      exact h4 (j + 3) (by omega)
theorem Rx.popW {Z : Nat → Prop} {w : World} {g : Nat} {room : Int} {x : Ltr} {L : List Ltr} {b off cap : Nat} {V : Value} (hZ : Z g) (hB : Blk w g #[.int .i64 room, .slice (some ⟨b, off, none⟩) (x :: L).length cap]) (hO : OwnC (fun q => Z q ∧ q ≠ g) w (.slice (some ⟨b, off, none⟩) (x :: L).length cap) (x :: L).length 3 (lcells (x :: L)))
    (hV : V = .slice (if cap = 1 then some ⟨b, off, none⟩ else some ⟨b, off + 3, none⟩) L.length (cap - 1)) (o1 o2 : Obj) : Rx (fun q => Z q ∨ w.heap.size ≤ q) (((w.setCell ⟨g, 1, none⟩ V).alloc o1).alloc o2) g room L ∧ Turned Z w (((w.setCell ⟨g, 1, none⟩ V).alloc o1).alloc o2) := by
  subst hV
  have h1 : Rx Z (w.setCell ⟨g, 1, none⟩ (.slice (if cap = 1 then some ⟨b, off, none⟩ else some ⟨b, off + 3, none⟩) L.length (cap - 1))) g room L := ⟨hZ, _, hB.set_ 1 _, hO.pop3.set_other (fun q => q.2 rfl) 1 _⟩
  refine ⟨((h1.later ((Below.refl _ _).alloc (Nat.le_refl _) o1)).later ((Below.refl _ _).alloc (Nat.le_refl _) o2)).mono (fun q h => .inl h), ?_⟩
  exact ((Turned.setCell (X := Z) ⟨g, 1, none⟩ _ hZ).trans (Turned.alloc _ Z o1) (fun q h => .inl h)).trans (Turned.alloc _ Z o2) (fun q h => .inl h)
def RTakePost (Z : Nat → Prop) (w : World) (g : Nat) (room : Int) (x : Ltr) (ok : Bool) (L : List Ltr) (e : Ending) (w' : World) : Prop := e = .returned (.tuple #[x.v, .bool ok]) ∧ Rx (fun q => Z q ∨ w.heap.size ≤ q) w' g room L ∧ Turned Z w w'
def zl : Ltr := ⟨0, 0, ⟨#[]⟩⟩
theorem reftake_none {Z : Nat → Prop} {w : World} {g : Nat} {room : Int} (h : Rx Z w g room []) : Calls Try.prog 22 #[.pointer (some ⟨g, 0, none⟩)] w (RTakePost Z w g room zl false []) := by
  have HB := Lib.hid (Blk.new w #[.int .i64 0, .int .i64 0, .string ⟨#[]⟩] 40 w.heap.size rfl)
  have HX := Lib.hid (h.later ((Below.refl _ _).alloc (Nat.le_refl _) (.cells #[.int .i64 0, .int .i64 0, .string ⟨#[]⟩] 40)))
  have hT : Below w.heap.size w (w.alloc (.cells #[.int .i64 0, .int .i64 0, .string ⟨#[]⟩] 40)) := (Below.refl _ _).alloc (Nat.le_refl _) _
  have HG : Hid (∀ q, Z q ∧ q < w.heap.size → ¬ q = w.heap.size) := Lib.hid (fun q h => by omega)
  obtain ⟨_, v, hB, hO⟩ := HX.out
  obtain ⟨x0, cap, rfl⟩ := hO.shape
  have r1 : (w.alloc (.cells #[.int .i64 0, .int .i64 0, .string ⟨#[]⟩] 40)).cell? ⟨g, 1, none⟩ = some (.slice x0 0 cap) := (hB.2 1 _ rfl).1
  obtain ⟨c0, f0⟩ := HB.out.2 0 _ rfl
  obtain ⟨c1, f1⟩ := HB.out.2 1 _ rfl
  obtain ⟨c2, f2⟩ := HB.out.2 2 _ rfl
  have HL := Lib.hid (h.lt.later ((Below.refl _ _).alloc (Nat.le_refl _) (.cells #[.int .i64 0, .int .i64 0, .string ⟨#[]⟩] 40)))
  clear hB hO h
  go_enter Try.func22, Try.ntmps22
  go_wp2_with fail
  exact bodyPost_ret (v := .tuple #[.agg #[.int .i64 0, .int .i64 0, .string ⟨#[]⟩], .bool false]) (by simp [results, Try.results22, go_sem, c0, c1, c2]) rfl ⟨rfl, HX.out.mono (fun q h => .inl h), Turned.of_below _ hT⟩
theorem reftake_some {Z : Nat → Prop} {w : World} {g : Nat} {room : Int} {x : Ltr} {L : List Ltr} (h : Rx Z w g room (x :: L)) (hL : L.length ≤ 100000) : Calls Try.prog 22 #[.pointer (some ⟨g, 0, none⟩)] w (RTakePost Z w g room x true L) := by
  have HB := Lib.hid (Blk.new w #[.int .i64 0, .int .i64 0, .string ⟨#[]⟩] 40 w.heap.size rfl)
  have hT : Below w.heap.size w (w.alloc (.cells #[.int .i64 0, .int .i64 0, .string ⟨#[]⟩] 40)) := (Below.refl _ _).alloc (Nat.le_refl _) _
  have HL := Lib.hid (h.lt.later ((Below.refl _ _).alloc (Nat.le_refl _) (.cells #[.int .i64 0, .int .i64 0, .string ⟨#[]⟩] 40)))
  have hZg := Lib.hid h.1
  have hgw : g < w.heap.size := by
    obtain ⟨_, v, hB, _⟩ := h
    exact hB.1
  obtain ⟨f, t, d⟩ := x
  obtain ⟨ln, hln⟩ : ∃ ln, ln = L.length := ⟨_, rfl⟩
  have HLN := Lib.hid hln
  rw [← hln] at hL
  have HH := Lib.hid h
  obtain ⟨_, v, hB, hO⟩ := HL.out
  obtain ⟨x0, cap, rfl⟩ := hO.shape
  obtain ⟨b, off, hx, hYb, hlt, hcap, hcells⟩ : ∃ b off, x0 = some ⟨b, off, none⟩ ∧ (((Z b ∧ b < w.heap.size) ∧ b ≠ g)) ∧ b < (w.alloc (.cells #[.int .i64 0, .int .i64 0, .string ⟨#[]⟩] 40)).heap.size ∧ ((⟨f, t, d⟩ : Ltr) :: L).length ≤ cap ∧ (∀ (j : Nat) (u : Value), (lcells ((⟨f, t, d⟩ : Ltr) :: L))[j]? = some u → (w.alloc (.cells #[.int .i64 0, .int .i64 0, .string ⟨#[]⟩] 40)).cell? ⟨b, off + j, none⟩ = some u) := by
    rcases hO.2 with ⟨hv, hn⟩ | ⟨b, off, cap', hv, r1, r2, r3, r4, _⟩
    · cases hn
    · injection hv with hv1 hv2 hv3
      subst hv3
      exact ⟨b, off, hv1, r1, r2, r3, r4⟩
  subst hx
  have hcap1 : ln + 1 ≤ cap := by rw [hln]; exact hcap
  have r1 : (w.alloc (.cells #[.int .i64 0, .int .i64 0, .string ⟨#[]⟩] 40)).cell? ⟨g, 1, none⟩ = some (.slice (some ⟨b, off, none⟩) (ln + 1) cap) := by rw [hln]; exact (hB.2 1 _ rfl).1
  have e0 := hcells 0 _ rfl
  have e1 := hcells 1 _ rfl
  have e2 := hcells 2 _ rfl
  rw [Nat.add_zero] at e0
  have HB1 := HB.out.alloc (.cells #[.int .i64 f, .int .i64 t, .string d] 40)
  have hBB := hB.alloc (.cells #[.int .i64 f, .int .i64 t, .string d] 40)
  have r1' : ((w.alloc (.cells #[.int .i64 0, .int .i64 0, .string ⟨#[]⟩] 40)).alloc (.cells #[.int .i64 f, .int .i64 t, .string d] 40)).cell? ⟨g, 1, none⟩ = some (.slice (some ⟨b, off, none⟩) (ln + 1) cap) := by rw [hln]; exact (hBB.2 1 _ rfl).1
  have f1' := (hBB.2 1 _ rfl).2
  have HLK := Blk.new (w.alloc (.cells #[.int .i64 0, .int .i64 0, .string ⟨#[]⟩] 40)) #[.int .i64 f, .int .i64 t, .string d] 40 (w.heap.size + 1) (by simp)
  have HB3 := fun V : Value => HB1.other ⟨g, 1, none⟩ (show g ≠ w.heap.size by omega) V
  have HK3 := fun V : Value => HLK.other ⟨g, 1, none⟩ (show g ≠ w.heap.size + 1 by omega) V
  have l0 := fun V => ((HK3 V).2 0 _ rfl).1
  have l1 := fun V => ((HK3 V).2 1 _ rfl).1
  have l2 := fun V => ((HK3 V).2 2 _ rfl).1
  have c0 := fun V => ((HB3 V).2 0 _ rfl).1
  have c1 := fun V => ((HB3 V).2 1 _ rfl).1
  have c2 := fun V => ((HB3 V).2 2 _ rfl).1
  have f0 := fun V => ((HB3 V).2 0 _ rfl).2
  have f1 := fun V => ((HB3 V).2 1 _ rfl).2
  have f2 := fun V => ((HB3 V).2 2 _ rfl).2
  have HFIN : Hid (∀ V : Value, V = .slice (if cap = 1 then some ⟨b, off, none⟩ else some ⟨b, off + 3, none⟩) ln (cap - 1) → Rx (fun q => Z q ∨ w.heap.size ≤ q) (((w.setCell ⟨g, 1, none⟩ V).alloc (.cells #[.int .i64 f, .int .i64 t, .string d] 40)).alloc (.cells #[.int .i64 f, .int .i64 t, .string d] 40)) g room L ∧ Turned Z w (((w.setCell ⟨g, 1, none⟩ V).alloc (.cells #[.int .i64 f, .int .i64 t, .string d] 40)).alloc (.cells #[.int .i64 f, .int .i64 t, .string d] 40))) := Lib.hid (fun V hV => by
    obtain ⟨hz, v', hB', hO'⟩ := HH.out
    have hvv : v' = .slice (some ⟨b, off, none⟩) ((⟨f, t, d⟩ : Ltr) :: L).length cap := by
      have q1 := (hB'.2 1 _ rfl).1
      have q2 := (hB.2 1 _ rfl).1
      have q3 : (w.alloc (.cells #[.int .i64 0, .int .i64 0, .string ⟨#[]⟩] 40)).cell? ⟨g, 1, none⟩ = w.cell? ⟨g, 1, none⟩ := hT.cell (p := ⟨g, 1, none⟩) hgw
      rw [q3] at q2
      exact Option.some.inj (q1.symm.trans q2)
    subst hvv
    exact Rx.popW hz hB' hO' (by rw [hV, hln]) _ _)
  have HDD : Hid (∀ V : Value, Blk (((w.setCell ⟨g, 1, none⟩ V).alloc (.cells #[.int .i64 f, .int .i64 t, .string d] 40)).alloc (.cells #[.int .i64 f, .int .i64 t, .string d] 40)) w.heap.size #[.int .i64 f, .int .i64 t, .string d]) := Lib.hid (fun V => (Blk.new (w.setCell ⟨g, 1, none⟩ V) #[.int .i64 f, .int .i64 t, .string d] 40 w.heap.size (by simp)).alloc _)
  have hlnn : ¬ (ln : Int) + 1 = 0 := by omega
  clear h hln hB hO hcells HB1 hBB HLK HB3 HK3 hlt hcap
  by_cases hc1 : cap = 1
  · subst hc1
    obtain rfl : ln = 0 := by omega
    go_enter Try.func22, Try.ntmps22
    go_wp2_with fail
    have hD := HDD.out (.slice (some ⟨b, off, none⟩) 0 0)
    have hF := HFIN.out (.slice (some ⟨b, off, none⟩) 0 0) (by simp)
    have d0 := (hD.2 0 _ rfl).1
    have d1 := (hD.2 1 _ rfl).1
    have d2 := (hD.2 2 _ rfl).1
    clear c0 c1 c2 f0 f1 f2 l0 l1 l2 r1 r1' e0 e1 e2
    generalize ((w.setCell ⟨g, 1, none⟩ (.slice (some ⟨b, off, none⟩) 0 0)).alloc (.cells #[.int .i64 f, .int .i64 t, .string d] 40)).alloc (.cells #[.int .i64 f, .int .i64 t, .string d] 40) = w9 at *
    exact bodyPost_ret (v := .tuple #[.agg #[.int .i64 f, .int .i64 t, .string d], .bool true]) (by simp [results, Try.results22, go_sem, d0, d1, d2]) rfl ⟨rfl, hF.1, hF.2⟩
  · go_enter Try.func22, Try.ntmps22
    go_wp2_with fail
    have hD := HDD.out (.slice (some ⟨b, off + 3, none⟩) ln (cap - 1))
    have hF := HFIN.out (.slice (some ⟨b, off + 3, none⟩) ln (cap - 1)) (by rw [if_neg hc1])
    have d0 := (hD.2 0 _ rfl).1
    have d1 := (hD.2 1 _ rfl).1
    have d2 := (hD.2 2 _ rfl).1
    clear c0 c1 c2 f0 f1 f2 l0 l1 l2 r1 r1' e0 e1 e2
    generalize ((w.setCell ⟨g, 1, none⟩ (.slice (some ⟨b, off + 3, none⟩) ln (cap - 1))).alloc (.cells #[.int .i64 f, .int .i64 t, .string d] 40)).alloc (.cells #[.int .i64 f, .int .i64 t, .string d] 40) = w9 at *
    exact bodyPost_ret (v := .tuple #[.agg #[.int .i64 f, .int .i64 t, .string d], .bool true]) (by simp [results, Try.results22, go_sem, d0, d1, d2]) rfl ⟨rfl, hF.1, hF.2⟩
end Go.Proofs.Ytnldjddmchfcoaa

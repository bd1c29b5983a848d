/- The walk of ChooseLong. Arguments opened: entries in a slice, numbers in a slice. -/
import Derived.Test.YtpbjjmenkoigjaaDoorMgLawChooseLongLAB
import Derived.Test.YtpbjjmenkoigjaaDoorMgLawChooseLongLAC
import Derived.Test.YtpbjjmenkoigjaaDoorMgLawChooseTurnsAP
section
namespace Go.Proofs.YtpbjjmenkoigjaaDoor
open Go.RowKit
set_option linter.unusedVariables false
theorem long_walk (C : Int) (ad1 ad2 : Option Addr) (cap1 cap2 : Nat) (E0 : List Est) (H : List Int) (view : Int) (w : World) (hr : RowsAt 9 w ad1 (E0.map Est.row)) (hc1 : E0.length ≤ cap1) (hok : ∀ e ∈ E0, e.Ok) (hr2 : RowsAt 1 w ad2 (H.map (fun x => #[.int .i64 x]))) (hc2 : H.length ≤ cap2) (hl1 : E0.length ≤ 9223372036854775807) (hl2 : H.length ≤ 9223372036854775807) (hg : Gl w) : Calls Tryd.prog 7 #[.int .i64 C, .slice ad1 E0.length cap1, .slice ad2 H.length cap2, .int .i64 view] w fun e w' => e = .returned (.bool true) ∧ Below w.heap.size w w' := by
  by_cases hC : C = 3 ∨ C = 5
  rotate_left
  · exact long_count C ad1 ad2 cap1 cap2 E0 H view w hr hc1 hok hr2 hc2 hl1 hl2 hg hC
  by_cases h8 : E0.length ≤ 8
  rotate_left
  · rcases hC with h | h
    · exact long_len3 C ad1 ad2 cap1 cap2 E0 H view w hr hc1 hok hr2 hc2 hl1 hl2 hg h (by omega)
    · exact long_len5 C ad1 ad2 cap1 cap2 E0 H view w hr hc1 hok hr2 hc2 hl1 hl2 hg h (by omega)
  by_cases hv0 : view < 0
  · rcases hC with h | h
    · exact long_low3 C ad1 ad2 cap1 cap2 E0 H view w hr hc1 hok hr2 hc2 hl1 hl2 hg h h8 hv0
    · exact long_low5 C ad1 ad2 cap1 cap2 E0 H view w hr hc1 hok hr2 hc2 hl1 hl2 hg h h8 hv0
  by_cases hv1 : 72057594037927935 < view
  · rcases hC with h | h
    · exact long_high3 C ad1 ad2 cap1 cap2 E0 H view w hr hc1 hok hr2 hc2 hl1 hl2 hg h h8 (by omega) hv1
    · exact long_high5 C ad1 ad2 cap1 cap2 E0 H view w hr hc1 hok hr2 hc2 hl1 hl2 hg h h8 (by omega) hv1
  rcases hC with rfl | rfl
  · exact long_main3 ad1 ad2 cap1 cap2 E0 H view w hr hc1 hok hr2 hc2 hl1 hl2 hg h8 ⟨by omega, by omega⟩
  · exact long_main5 ad1 ad2 cap1 cap2 E0 H view w hr hc1 hok hr2 hc2 hl1 hl2 hg h8 ⟨by omega, by omega⟩
end Go.Proofs.YtpbjjmenkoigjaaDoor
end

section
namespace Go.Proofs.YtpbjjmenkoigjaaDoor
open Go.ChangeShapes Go.WideShapes Go.RowKit Go.Deep
set_option linter.unusedVariables false
theorem open_ents {H : Type} {enc : TypeId × Value → H} {w : World} {base : Nat} {spare : Nat → Bool} {held : Bool} {t : TypeId} {ad : Option Addr} {len cap : Nat} {d : DataW H} {p : List MemPlace} (ht : Tryd.prog.underlying t = some (.slice 35)) (h : DataW.Trod enc Tryd.prog w base spare held t (.slice ad len cap) d p) :
    ∃ L : List Est, len = L.length ∧ L.length ≤ cap ∧ L.length ≤ 9223372036854775807 ∧ RowsAt 9 w ad (L.map Est.row) ∧ ∀ m ∈ L, m.Ok := by
  obtain ⟨fuel, hf⟩ := h
  obtain ⟨l, rfl, hc, hm, hr, ha⟩ := open_rows 9 (by decide) ht (by kernel_rfl) hf
  obtain ⟨L, rfl, hL⟩ := open_est_all (l := l) (w := w) (fun r hr => by obtain ⟨_, _, _, h⟩ := ha r hr; exact open_est h)
  unfold maxLen at hm
  refine ⟨L, by simp, by simpa using hc, by simp at hc; omega, ?_, hL⟩
  have : (L.map (fun e => e.row.toList)).map List.toArray = L.map Est.row := by rw [List.map_map]; exact List.map_congr_left (fun e _ => by simp)
  rw [← this]; exact hr
theorem open_num_all {l : List (List Value)} (h : ∀ r ∈ l, ∃ e : Int, r = [.int .i64 e]) : ∃ L : List Int, l = L.map (fun e => [Value.int .i64 e]) := by
  induction l with
  | nil => exact ⟨[], rfl⟩
  | cons r l ih =>
    obtain ⟨e, rfl⟩ := h r (by simp)
    obtain ⟨L, rfl⟩ := ih (fun r hr => h r (by simp [hr]))
    exact ⟨e :: L, rfl⟩
theorem open_nums {H : Type} {enc : TypeId × Value → H} {w : World} {base : Nat} {spare : Nat → Bool} {held : Bool} {t : TypeId} {ad : Option Addr} {len cap : Nat} {d : DataW H} {p : List MemPlace} (ht : Tryd.prog.underlying t = some (.slice 3)) (h : DataW.Trod enc Tryd.prog w base spare held t (.slice ad len cap) d p) :
    ∃ L : List Int, len = L.length ∧ L.length ≤ cap ∧ L.length ≤ 9223372036854775807 ∧ RowsAt 1 w ad (L.map (fun x => #[.int .i64 x])) := by
  obtain ⟨fuel, hf⟩ := h
  obtain ⟨l, rfl, hc, hm, hr, ha⟩ := open_rows 1 (by decide) ht (by kernel_rfl) hf
  obtain ⟨L, rfl⟩ := open_num_all (l := l) (fun r hr => by
    obtain ⟨h1, _, _, h⟩ := ha r hr
    obtain ⟨c0, q0, -, w0⟩ := DataW.trod_int Tryd.underlying3 h
    exact ⟨_, q0⟩)
  unfold maxLen at hm
  refine ⟨L, by simp, by simpa using hc, by simp at hc; omega, ?_⟩
  have : (L.map (fun e => [Value.int .i64 e])).map List.toArray = L.map (fun x => #[Value.int .i64 x]) := by rw [List.map_map]; exact List.map_congr_left (fun e _ => by simp)
  rw [← this]; exact hr
end Go.Proofs.YtpbjjmenkoigjaaDoor
end

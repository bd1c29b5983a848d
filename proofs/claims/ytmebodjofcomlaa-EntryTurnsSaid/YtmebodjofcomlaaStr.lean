/- 'string(b)'; rows of a block; what header bytes are. -/
import Derived.Test.YtmebodjofcomlaaMine
import Derived.Test.YtmebodjofcomlaaNumG
namespace Go.Proofs.Ytmebodjofcomlaa
open Go.RowKit
theorem run_text (w : World) (p : Option Addr) (n cap : Nat) (l : List Nat) (h : Holds w (.slice p n cap) l) : (convert 44 9 (.slice p n cap)).run Try.prog w = .ok (.string (text l)) w := by
  obtain ⟨hn, hp, hc⟩ := h.cells
  subst hn
  cases p with
  | none =>
    have := hp rfl
    subst this
    exact run_convert_bytes_nil w 44 5 Try.underlying44 Try.underlying5 _ _ _ Try.underlying9
  | some ad =>
    have := run_convert_bytes_back (P := Try.prog) w 44 9 5 ad cap (u8s l) Try.underlying44 Try.underlying5 Try.underlying9 (fun j hj => by
      have hj' : j < l.length := by simpa [u8s] using hj
      have hlt := h.1 l[j] (List.getElem_mem hj')
      rw [hc ad rfl j (.int .u8 ((l[j] : Nat) : Int)) (by unfold cells8; rw [List.getElem?_map, List.getElem?_eq_getElem hj']; rfl)]
      simp only [u8s, List.getElem_map, UInt8.toNat_ofNat']
      rw [Nat.mod_eq_of_lt hlt])
    rw [u8s_length] at this
    exact this
end Go.Proofs.Ytmebodjofcomlaa

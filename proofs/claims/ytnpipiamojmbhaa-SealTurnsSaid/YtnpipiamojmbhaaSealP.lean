/- A sealed sector's bytes: what opens it, and that nothing turned or torn does. No program in sight. -/
import Derived.Test.YtnpipiamojmbhaaTxtK
import Derived.Test.YtnpipiamojmbhaaCrcC
import Derived.Test.YtnpipiamojmbhaaCrcT
namespace Go.Proofs.Ytnpipiamojmbhaa
open Go.RowKit
def sealB (g : Nat) (s : List Nat) : List Nat := [g] ++ leN s.length 2 ++ s
def sealI (g : Nat) (s : List Nat) : List Nat := sealB g s ++ List.replicate (379 - (sealB g s).length) 0
def sealL (g : Nat) (s : List Nat) : List Nat := sealI g s ++ leN (Crc.add 0 (sealI g s)) 4 ++ [g]
theorem sealB_length (g : Nat) (s : List Nat) : (sealB g s).length = 3 + s.length := by simp [sealB, leN_length]; omega
theorem sealI_length (g : Nat) (s : List Nat) (h : s.length ≤ 376) : (sealI g s).length = 379 := by
  unfold sealI
  rw [List.length_append, List.length_replicate, sealB_length]; omega
theorem sealL_length (g : Nat) (s : List Nat) (h : s.length ≤ 376) : (sealL g s).length = 384 := by
  unfold sealL
  rw [List.length_append, List.length_append, sealI_length g s h, leN_length]; rfl
theorem sealI_lt {g : Nat} {s : List Nat} (hg : g < 256) (hs : ∀ x ∈ s, x < 256) : ∀ x ∈ sealI g s, x < 256 := by
  intro x hx
  unfold sealI sealB at hx
  simp only [List.mem_append] at hx
  rcases hx with ((h | h) | h) | h
  · simp at h; omega
  · exact leN_lt _ _ x h
  · exact hs x h
  · rw [(List.mem_replicate.1 h).2]; decide
theorem sealL_lt {g : Nat} {s : List Nat} (hg : g < 256) (hs : ∀ x ∈ s, x < 256) : ∀ x ∈ sealL g s, x < 256 := by
  intro x hx
  unfold sealL at hx
  simp only [List.mem_append] at hx
  rcases hx with (h | h) | h
  · exact sealI_lt hg hs x h
  · exact leN_lt _ _ x h
  · simp at h; omega
theorem sealI_head (g : Nat) (s : List Nat) : (sealI g s)[0]? = some g := rfl
theorem sealL_head (g : Nat) (s : List Nat) : (sealL g s)[0]? = some g := rfl
theorem sealL_last (g : Nat) (s : List Nat) (h : s.length ≤ 376) : (sealL g s)[383]? = some g := by
  unfold sealL
  rw [List.getElem?_append_right (by rw [List.length_append, sealI_length g s h, leN_length]; decide), List.length_append, sealI_length g s h, leN_length]
  rfl
/-- What the bytes of a sector hold. -/
def opN (l : List Nat) : Nat := valN ((l.drop 1).take 2)
def opS (l : List Nat) : List Nat := (l.drop 3).take (opN l)
def opB (l : List Nat) : Bool := decide (l.length = 384 ∧ opN l ≤ 376 ∧ sealL (l.getD 0 0) (opS l) = l)
theorem val2 (n : Nat) (h : n < 65536) : valN (leN n 2) = n := by
  rw [valN_leN, show (256 : Nat) ^ 2 = 65536 from by decide, Nat.mod_eq_of_lt h]
theorem opN_seal (g : Nat) (s : List Nat) (h : s.length ≤ 376) : opN (sealL g s) = s.length := by
  have e : ∃ r, sealL g s = [g] ++ (leN s.length 2 ++ r) := ⟨s ++ List.replicate (379 - (sealB g s).length) 0 ++ leN (Crc.add 0 (sealI g s)) 4 ++ [g], by
    have e1 : sealI g s = [g] ++ (leN s.length 2 ++ (s ++ List.replicate (379 - (sealB g s).length) 0)) := by unfold sealI; conv => lhs; lhs; unfold sealB
                                                                                                              simp only [List.append_assoc]
    unfold sealL
    rw [e1]
    simp only [List.append_assoc]⟩
  obtain ⟨r, hr⟩ := e
  unfold opN
  rw [hr, List.drop_left' (by rfl), List.take_left' (leN_length _ _), val2 _ (by omega)]
theorem opS_seal (g : Nat) (s : List Nat) (h : s.length ≤ 376) : opS (sealL g s) = s := by
  have e : ∃ r, sealL g s = ([g] ++ leN s.length 2) ++ (s ++ r) := ⟨List.replicate (379 - (sealB g s).length) 0 ++ leN (Crc.add 0 (sealI g s)) 4 ++ [g], by
    have e1 : sealI g s = [g] ++ (leN s.length 2 ++ (s ++ List.replicate (379 - (sealB g s).length) 0)) := by unfold sealI; conv => lhs; lhs; unfold sealB
                                                                                                              simp only [List.append_assoc]
    unfold sealL
    rw [e1]
    simp only [List.append_assoc]⟩
  unfold opS
  rw [opN_seal g s h]
  obtain ⟨r, hr⟩ := e
  rw [hr, List.drop_left' (by rw [List.length_append, leN_length]; rfl), List.take_left' rfl]
theorem opB_seal (g : Nat) (s : List Nat) (h : s.length ≤ 376) : opB (sealL g s) = true := by
  refine decide_eq_true ⟨sealL_length g s h, by rw [opN_seal g s h]; exact h, ?_⟩
  rw [opS_seal g s h, List.getD_eq_getElem?_getD, sealL_head]
  rfl
theorem opS_length {l : List Nat} (h : l.length = 384) (hn : opN l ≤ 376) : (opS l).length = opN l := by
  unfold opS
  rw [List.length_take, List.length_drop]; omega
theorem opB_ends {l : List Nat} (h : opB l = true) : l[0]? = l[383]? := by
  obtain ⟨h1, h2, h3⟩ := of_decide_eq_true h
  rw [← h3, sealL_head, sealL_last _ _ (by rw [opS_length h1 h2]; exact h2)]
/-- A turned byte. -/
theorem op_turn {g : Nat} {s : List Nat} (hg : g < 256) (hs : ∀ x ∈ s, x < 256) (hl : s.length ≤ 376) (i x : Nat) (hi : i < 384) (hx : x < 256) (hne : (sealL g s)[i]? ≠ some x) : opB ((sealL g s).set i x) = false := by
  cases hb : opB ((sealL g s).set i x)
  · rfl
  exfalso
  have hend := opB_ends hb
  obtain ⟨h1, h2, h3⟩ := of_decide_eq_true hb
  have hlen := sealL_length g s hl
  obtain ⟨g', s', hs', he⟩ : ∃ g' s', s'.length ≤ 376 ∧ sealL g' s' = (sealL g s).set i x := ⟨_, opS ((sealL g s).set i x), by rw [opS_length h1 h2]; exact h2, h3⟩
  have hI := sealI_length g s hl
  have hI' := sealI_length g' s' hs'
  have hc := leN_length (Crc.add 0 (sealI g s)) 4
  have hc' := leN_length (Crc.add 0 (sealI g' s')) 4
  clear h1 h2 h3 hb
  rcases Nat.lt_or_ge i 379 with h | h
  · have es : (sealL g s).set i x = (sealI g s).set i x ++ (leN (Crc.add 0 (sealI g s)) 4 ++ [g]) := by
      unfold sealL
      rw [List.append_assoc, List.set_append_left _ _ (by omega)]
    rw [es] at he
    have e1 : sealL g' s' = sealI g' s' ++ (leN (Crc.add 0 (sealI g' s')) 4 ++ [g']) := by unfold sealL; rw [List.append_assoc]
    rw [e1] at he
    obtain ⟨p1, p2⟩ := List.append_inj he (by rw [List.length_set, hI, hI'])
    have p3 := (List.append_inj p2 (by rw [hc, hc'])).1
    have ec := leN_inj4 p3
    rw [p1] at ec
    have hlt : i < (sealI g s).length := by omega
    have := Crc.turn_at (sealI g s) i x (sealI_lt hg hs) hx hlt ec
    refine hne ?_
    unfold sealL
    rw [List.append_assoc, List.getElem?_append_left hlt, List.getElem?_eq_getElem hlt, this]
  · have e2 : ∃ c y, c.length = 4 ∧ (sealL g s).set i x = sealI g s ++ (c ++ [y]) := by
      unfold sealL
      rw [List.append_assoc, List.set_append_right _ _ (by omega)]
      rcases Nat.lt_or_ge i 383 with h' | h'
      · exact ⟨(leN (Crc.add 0 (sealI g s)) 4).set (i - (sealI g s).length) x, g, by rw [List.length_set, hc], by rw [List.set_append_left _ _ (by omega)]⟩
      · exact ⟨leN (Crc.add 0 (sealI g s)) 4, x, hc, by rw [List.set_append_right _ _ (by omega), show i - (sealI g s).length - (leN (Crc.add 0 (sealI g s)) 4).length = 0 by omega]; rfl⟩
    obtain ⟨c, y, hcl, es⟩ := e2
    have e1 : sealL g' s' = sealI g' s' ++ (leN (Crc.add 0 (sealI g' s')) 4 ++ [g']) := by unfold sealL; rw [List.append_assoc]
    have he' := he
    rw [e1, es] at he'
    obtain ⟨p1, p2⟩ := List.append_inj he' (by rw [hI, hI'])
    have hgg : g' = g := by
      have := congrArg (fun z : List Nat => z[0]?) p1
      simp only [sealI_head] at this
      injection this
    have e3 : sealL g' s' = sealL g s := by
      unfold sealL
      rw [p1, hgg]
    rw [e3] at he
    refine hne ?_
    rw [he, List.getElem?_set_self (by omega)]
/-- Torn: a beginning of one over the rest of another that ends otherwise. -/
theorem op_torn {g : Nat} {s old : List Nat} (hl : s.length ≤ 376) (hlast : old[383]? ≠ some g) (cut : Nat) (h1 : 1 ≤ cut) (h2 : cut < 384) : opB ((sealL g s).take cut ++ old.drop cut) = false := by
  cases hb : opB ((sealL g s).take cut ++ old.drop cut)
  · rfl
  exfalso
  have hend := opB_ends hb
  have hlen := sealL_length g s hl
  have ht : ((sealL g s).take cut).length = cut := by rw [List.length_take]; omega
  rw [List.getElem?_append_left (by omega), List.getElem?_take_of_lt (by omega), sealL_head, List.getElem?_append_right (by omega), ht, List.getElem?_drop, show cut + (383 - cut) = 383 by omega] at hend
  exact hlast hend.symm
/-- The program's own tests. -/
theorem op_tests (l : List Nat) (h : l.length = 384) (h8 : ∀ x ∈ l, x < 256) (hn : opN l ≤ 376) :
    opB l = true ↔ (l[0]? = l[383]? ∧ valN ((l.drop 379).take 4) = Crc.add 0 (l.take 379) ∧ (∀ x ∈ (l.drop (3 + opN l)).take (379 - (3 + opN l)), x = 0)) := by
  constructor
  · intro hb
    refine ⟨opB_ends hb, ?_⟩
    obtain ⟨_, _, h3⟩ := of_decide_eq_true hb
    have hs : (opS l).length ≤ 376 := by rw [opS_length h hn]; exact hn
    have hI := sealI_length (l.getD 0 0) (opS l) hs
    have hc := leN_length (Crc.add 0 (sealI (l.getD 0 0) (opS l))) 4
    have e1 : l.take 379 = sealI (l.getD 0 0) (opS l) := by
      conv => lhs; rw [← h3]
      unfold sealL
      rw [List.append_assoc, List.take_left' hI]
    have e2 : (l.drop 379).take 4 = leN (Crc.add 0 (sealI (l.getD 0 0) (opS l))) 4 := by
      conv => lhs; rw [← h3]
      unfold sealL
      rw [List.append_assoc, List.drop_left' hI, List.take_left' hc]
    refine ⟨?_, ?_⟩
    · rw [e1, e2, valN_leN, Nat.mod_eq_of_lt (lt4' (Crc.add_lt32 _ _))]
    · intro x hx
      have e3 : (l.drop (3 + opN l)).take (379 - (3 + opN l)) = List.replicate (379 - (sealB (l.getD 0 0) (opS l)).length) 0 := by
        rw [← List.drop_take, e1]
        have hB := sealB_length (l.getD 0 0) (opS l)
        rw [opS_length h hn] at hB
        unfold sealI
        rw [List.drop_left' hB]
      rw [e3] at hx
      exact (List.mem_replicate.1 hx).2
  · rintro ⟨hends, hsum, hz⟩
    refine decide_eq_true ⟨h, hn, ?_⟩
    obtain ⟨g, hg⟩ : ∃ g, l[0]? = some g := ⟨l[0], List.getElem?_eq_getElem (by omega)⟩
    have hgd : l.getD 0 0 = g := by rw [List.getD_eq_getElem?_getD, hg]; rfl
    have hsl := opS_length h hn
    have eI : sealI g (opS l) = l.take 379 := by
      have hB : sealB g (opS l) = l.take (3 + opN l) := by
        have q1 : l.take 1 = [g] := by
          cases l with
          | nil => simp at h
          | cons a r => simp at hg; subst hg; rfl
        have q2 : leN (opS l).length 2 = (l.drop 1).take 2 := by
          rw [hsl]
          exact leN_valN2 _ (by rw [List.length_take, List.length_drop]; omega) (fun x hx => h8 x (List.mem_of_mem_drop (List.mem_of_mem_take hx)))
        unfold sealB
        rw [q2]
        unfold opS
        rw [← q1, ← List.take_add, show 1 + 2 = 3 from rfl, ← List.take_add]
      unfold sealI
      have hBl := sealB_length g (opS l)
      rw [hsl] at hBl
      rw [hBl]
      have e : List.replicate (379 - (3 + opN l)) 0 = (l.drop (3 + opN l)).take (379 - (3 + opN l)) := by
        refine (List.eq_replicate_iff.2 ⟨?_, hz⟩).symm
        rw [List.length_take, List.length_drop]; omega
      rw [e, hB, ← List.take_add, show 3 + opN l + (379 - (3 + opN l)) = 379 by omega]
    rw [hgd]
    unfold sealL
    rw [eI]
    have e4 : leN (Crc.add 0 (l.take 379)) 4 = (l.drop 379).take 4 := by
      rw [← hsum]
      exact leN_valN4 _ (by rw [List.length_take, List.length_drop]; omega) (fun x hx => h8 x (List.mem_of_mem_drop (List.mem_of_mem_take hx)))
    have e5 : [g] = (l.drop 383).take 1 := by
      rw [hends] at hg
      have hlt : 383 < l.length := by omega
      rw [List.getElem?_eq_getElem hlt] at hg
      injection hg with hg
      rw [List.drop_eq_getElem_cons hlt, hg]; rfl
    rw [e4, ← List.take_add, e5, ← List.take_add, List.take_of_length_le (by omega)]
end Go.Proofs.Ytnpipiamojmbhaa

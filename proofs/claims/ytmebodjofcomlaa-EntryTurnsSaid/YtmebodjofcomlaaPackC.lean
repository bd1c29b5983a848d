import Derived.Test.YtmebodjofcomlaaPackB
namespace Go.Proofs.Ytmebodjofcomlaa
open Go.RowKit
theorem leN_inj {n m size : Nat} (hn : n < 256 ^ size) (hm : m < 256 ^ size) (h : leN n size = leN m size) : n = m := by
  have e := congrArg valN h
  rw [valN_leN, valN_leN, Nat.mod_eq_of_lt hn, Nat.mod_eq_of_lt hm] at e
  exact e
theorem packIn_length (k f o v p c cl se rq a b par : Nat) (body : List Nat) : (packIn k f o [v, p, c, cl, se, rq, a, b] par body).length = 124 := by
  simp [packIn, leN_length]
theorem packL_length (k f o v p c cl se rq a b par : Nat) (body : List Nat) : (packL k f o [v, p, c, cl, se, rq, a, b] par body).length = 128 + body.length := by
  unfold packL
  rw [List.length_append, List.length_append, leN_length, packIn_length]
theorem lt8 {n : Nat} (h : n < 18446744073709551616) : n < 256 ^ 8 := by
  have e : (256 : Nat) ^ 8 = 18446744073709551616 := by decide
  rw [e]; exact h
theorem packIn_inj {k f o v p c cl se rq a b par k' f' o' v' p' c' cl' se' rq' a' b' par' : Nat} {body body' : List Nat}
    (hs : v < 18446744073709551616 ∧ p < 18446744073709551616 ∧ c < 18446744073709551616 ∧ cl < 18446744073709551616 ∧ se < 18446744073709551616 ∧ rq < 18446744073709551616 ∧ a < 18446744073709551616 ∧ b < 18446744073709551616 ∧ par < 18446744073709551616)
    (hs' : v' < 18446744073709551616 ∧ p' < 18446744073709551616 ∧ c' < 18446744073709551616 ∧ cl' < 18446744073709551616 ∧ se' < 18446744073709551616 ∧ rq' < 18446744073709551616 ∧ a' < 18446744073709551616 ∧ b' < 18446744073709551616 ∧ par' < 18446744073709551616)
    (h : packIn k f o [v, p, c, cl, se, rq, a, b] par body = packIn k' f' o' [v', p', c', cl', se', rq', a', b'] par' body') :
    k = k' ∧ f = f' ∧ o = o' ∧ v = v' ∧ p = p' ∧ c = c' ∧ cl = cl' ∧ se = se' ∧ rq = rq' ∧ a = a' ∧ b = b' ∧ par = par' := by
  unfold packIn at h
  simp only [List.append_assoc, List.flatMap_cons, List.flatMap_nil, List.nil_append, List.cons_append] at h
  have h1 := (List.append_inj h (by rw [leN_length, leN_length])).2
  injection h1 with e1 h1
  injection h1 with e2 h1
  injection h1 with e3 h1
  injection h1 with _ h1
  have h2 := (List.append_inj h1 (by rw [leN_length, leN_length])).2
  obtain ⟨p1, h3⟩ := List.append_inj h2 (by rw [leN_length, leN_length])
  obtain ⟨p2, h4⟩ := List.append_inj h3 (by rw [leN_length, leN_length])
  obtain ⟨p3, h5⟩ := List.append_inj h4 (by rw [leN_length, leN_length])
  obtain ⟨p4, h6⟩ := List.append_inj h5 (by rw [leN_length, leN_length])
  obtain ⟨p5, h7⟩ := List.append_inj h6 (by rw [leN_length, leN_length])
  obtain ⟨p6, h8⟩ := List.append_inj h7 (by rw [leN_length, leN_length])
  obtain ⟨p7, h9⟩ := List.append_inj h8 (by rw [leN_length, leN_length])
  obtain ⟨p8, h10⟩ := List.append_inj h9 (by rw [leN_length, leN_length])
  obtain ⟨p9, _⟩ := List.append_inj h10 (by rw [leN_length, leN_length])
  obtain ⟨s1, s2, s3, s4, s5, s6, s7, s8, s9⟩ := hs
  obtain ⟨t1, t2, t3, t4, t5, t6, t7, t8, t9⟩ := hs'
  exact ⟨e1, e2, e3, leN_inj (lt8 s1) (lt8 t1) p2, leN_inj (lt8 s2) (lt8 t2) p3, leN_inj (lt8 s3) (lt8 t3) p4, leN_inj (lt8 s4) (lt8 t4) p5, leN_inj (lt8 s5) (lt8 t5) p6, leN_inj (lt8 s6) (lt8 t6) p7, leN_inj (lt8 s7) (lt8 t7) p8, leN_inj (lt8 s8) (lt8 t8) p9, leN_inj (lt8 s9) (lt8 t9) p1⟩
theorem packL_inj {k f o v p c cl se rq a b par k' f' o' v' p' c' cl' se' rq' a' b' par' : Nat} {body body' : List Nat}
    (h : packL k f o [v, p, c, cl, se, rq, a, b] par body = packL k' f' o' [v', p', c', cl', se', rq', a', b'] par' body') :
    packIn k f o [v, p, c, cl, se, rq, a, b] par body = packIn k' f' o' [v', p', c', cl', se', rq', a', b'] par' body' ∧ body = body' := by
  unfold packL at h
  obtain ⟨h1, h2⟩ := List.append_inj h (by rw [List.length_append, List.length_append, leN_length, leN_length, packIn_length, packIn_length])
  exact ⟨(List.append_inj h1 (by rw [leN_length, leN_length])).2, h2⟩
theorem packIn_lt {k f o : Nat} (hk : k < 256) (hf : f < 256) (ho : o < 256) (ns : List Nat) (par : Nat) (body : List Nat) : ∀ x ∈ packIn k f o ns par body, x < 256 := by
  intro x hx
  unfold packIn at hx
  simp only [List.mem_append] at hx
  rcases hx with ((((h | h) | h) | h) | h) | h
  · exact leN_lt _ _ x h
  · simp at h; omega
  · exact leN_lt _ _ x h
  · exact leN_lt _ _ x h
  · obtain ⟨n, _, h⟩ := List.mem_flatMap.1 h
    exact leN_lt _ _ x h
  · rw [(List.mem_replicate.1 h).2]; decide
theorem packL_lt {k f o : Nat} (hk : k < 256) (hf : f < 256) (ho : o < 256) (ns : List Nat) (par : Nat) (body : List Nat) (hb : ∀ x ∈ body, x < 256) : ∀ x ∈ packL k f o ns par body, x < 256 := by
  intro x hx
  unfold packL at hx
  simp only [List.mem_append] at hx
  rcases hx with (h | h) | h
  · exact leN_lt _ _ x h
  · exact packIn_lt hk hf ho ns par body x h
  · exact hb x h
/-- A header's numbers that may be are natural ones. -/
theorem headB_nat {k f o v p c cl se rq a b : Int} (h : headB k f o v p c cl se rq a b = true) : ∃ k' f' o' v' p' c' cl' se' rq' a' b' : Nat, k = k' ∧ f = f' ∧ o = o' ∧ v = v' ∧ p = p' ∧ c = c' ∧ cl = cl' ∧ se = se' ∧ rq = rq' ∧ a = a' ∧ b = b' := by
  have h := of_decide_eq_true h
  exact ⟨k.toNat, f.toNat, o.toNat, v.toNat, p.toNat, c.toNat, cl.toNat, se.toNat, rq.toNat, a.toNat, b.toNat, by omega, by omega, by omega, by omega, by omega, by omega, by omega, by omega, by omega, by omega, by omega⟩
/-- What packing gives: the bytes, and the error's number. -/
def packS (k f o v p c cl se rq a b par : Int) (body : ByteArray) : ByteArray :=
  if headB k f o v p c cl se rq a b = true ∧ body.size ≤ 3968 then text (packL k.toNat f.toNat o.toNat [v.toNat, p.toNat, c.toNat, cl.toNat, se.toNat, rq.toNat, a.toNat, b.toNat] par.toNat (nats body)) else ⟨#[]⟩
def packE (k f o v p c cl se rq a b : Int) (body : ByteArray) : Int := if headB k f o v p c cl se rq a b = true then (if body.size ≤ 3968 then 0 else 5) else 4
theorem pack_any (k f o v p c cl se rq a b par : Int) (body : ByteArray) (hpar : 0 ≤ par ∧ par ≤ 18446744073709551615) (w : World) :
    Calls Try.prog 18 #[.agg #[.int .i64 k, .int .i64 f, .int .i64 o, .int .i64 v, .int .i64 p, .int .i64 c, .int .i64 cl, .int .i64 se, .int .i64 rq, .int .i64 a, .int .i64 b, .int .u64 par], .string body] w fun e w' =>
      e = .returned (.tuple #[.string (packS k f o v p c cl se rq a b par body), .int .i64 (packE k f o v p c cl se rq a b body)]) ∧ Below w.heap.size w w' := by
  cases hh : headB k f o v p c cl se rq a b
  · have e1 : packS k f o v p c cl se rq a b par body = ⟨#[]⟩ := if_neg (by rw [hh]; simp)
    have e2 : packE k f o v p c cl se rq a b body = 4 := if_neg (by rw [hh]; simp)
    rw [e1, e2]
    exact pack_form _ _ _ _ _ _ _ _ _ _ _ _ _ _ hh
  · by_cases hl : body.size ≤ 3968
    · have e1 : packS k f o v p c cl se rq a b par body = text (packL k.toNat f.toNat o.toNat [v.toNat, p.toNat, c.toNat, cl.toNat, se.toNat, rq.toNat, a.toNat, b.toNat] par.toNat (nats body)) := if_pos ⟨hh, hl⟩
      have e2 : packE k f o v p c cl se rq a b body = 0 := by unfold packE; rw [if_pos hh, if_pos hl]
      rw [e1, e2]
      obtain ⟨k', f', o', v', p', c', cl', se', rq', a', b', rfl, rfl, rfl, rfl, rfl, rfl, rfl, rfl, rfl, rfl, rfl⟩ := headB_nat hh
      obtain ⟨par', rfl⟩ : ∃ n : Nat, par = n := ⟨par.toNat, by omega⟩
      simp only [Int.toNat_natCast]
      exact pack_ok _ _ _ _ _ _ _ _ _ _ _ _ _ _ hh hl (by omega)
    · have e1 : packS k f o v p c cl se rq a b par body = ⟨#[]⟩ := if_neg (fun h => hl h.2)
      have e2 : packE k f o v p c cl se rq a b body = 5 := by unfold packE; rw [if_pos hh, if_neg hl]
      rw [e1, e2]
      exact pack_long _ _ _ _ _ _ _ _ _ _ _ _ _ _ hh (by omega)
theorem packE_ok {k f o v p c cl se rq a b : Int} {body : ByteArray} (h : packE k f o v p c cl se rq a b body = 0) : headB k f o v p c cl se rq a b = true ∧ body.size ≤ 3968 := by
  unfold packE at h
  split at h
  · split at h
    · exact ⟨‹_›, ‹_›⟩
    · cases h
  · cases h
set_option maxHeartbeats 2000000 in
theorem packS_inj {k f o v p c cl se rq a b par k' f' o' v' p' c' cl' se' rq' a' b' par' : Int} {body body' : ByteArray} (hpar : 0 ≤ par ∧ par ≤ 18446744073709551615) (hpar' : 0 ≤ par' ∧ par' ≤ 18446744073709551615)
    (h1 : packE k f o v p c cl se rq a b body = 0) (h2 : packE k' f' o' v' p' c' cl' se' rq' a' b' body' = 0) (h : packS k f o v p c cl se rq a b par body = packS k' f' o' v' p' c' cl' se' rq' a' b' par' body') :
    (k = k' ∧ f = f' ∧ o = o' ∧ v = v' ∧ p = p' ∧ c = c' ∧ cl = cl' ∧ se = se' ∧ rq = rq' ∧ a = a' ∧ b = b' ∧ par = par') ∧ body = body' := by
  obtain ⟨hh, hl⟩ := packE_ok h1
  obtain ⟨hh', hl'⟩ := packE_ok h2
  clear h1 h2
  unfold packS at h
  rw [if_pos ⟨hh, hl⟩, if_pos ⟨hh', hl'⟩] at h
  clear hl hl'
  obtain ⟨k, f, o, v, p, c, cl, se, rq, a, b, rfl, rfl, rfl, rfl, rfl, rfl, rfl, rfl, rfl, rfl, rfl⟩ := headB_nat hh
  obtain ⟨k', f', o', v', p', c', cl', se', rq', a', b', rfl, rfl, rfl, rfl, rfl, rfl, rfl, rfl, rfl, rfl, rfl⟩ := headB_nat hh'
  obtain ⟨par, rfl⟩ : ∃ n : Nat, par = n := ⟨par.toNat, by omega⟩
  obtain ⟨par', rfl⟩ : ∃ n : Nat, par' = n := ⟨par'.toNat, by omega⟩
  simp only [Int.toNat_natCast] at h
  have b1 := of_decide_eq_true hh
  have b2 := of_decide_eq_true hh'
  clear hh hh'
  have e := congrArg nats h
  clear h
  rw [nats_text _ (packL_lt (by omega) (by omega) (by omega) _ _ _ (nats_lt body)), nats_text _ (packL_lt (by omega) (by omega) (by omega) _ _ _ (nats_lt body'))] at e
  obtain ⟨e1, e2⟩ := packL_inj e
  clear e
  obtain ⟨q1, q2, q3, q4, q5, q6, q7, q8, q9, q10, q11, q12⟩ := packIn_inj ⟨by omega, by omega, by omega, by omega, by omega, by omega, by omega, by omega, by omega⟩ ⟨by omega, by omega, by omega, by omega, by omega, by omega, by omega, by omega, by omega⟩ e1
  subst q1 q2 q3 q4 q5 q6 q7 q8 q9 q10 q11 q12
  exact ⟨⟨rfl, rfl, rfl, rfl, rfl, rfl, rfl, rfl, rfl, rfl, rfl, rfl⟩, nats_inj e2⟩
end Go.Proofs.Ytmebodjofcomlaa

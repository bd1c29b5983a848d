/- What unpacking a header's bytes comes to; no turned byte, no byte more or less, is a header's. No program in sight. -/
import Derived.Test.YtmebodjofcomlaaPackC
import Derived.Test.YtmebodjofcomlaaBlk
namespace Go.Proofs.Ytmebodjofcomlaa
open Go.RowKit
namespace Crc
theorem add_lt32 (sum : Nat) (l : List Nat) : add sum l < 4294967296 := by unfold add; omega
/-- One turned byte turns the sum. -/
theorem turn_mid (p q : List Nat) (b x : Nat) (hp : Bytes p) (hb : b < 256) (hx : x < 256) (hq : Bytes q) (h : add 0 (p ++ (x :: q)) = add 0 (p ++ (b :: q))) : x = b := by
  have hap : ∀ y, y < 256 → Bytes (p ++ (y :: q)) := fun y hy z hz => by
    rcases List.mem_append.1 hz with h | h
    · exact hp z h
    · rcases List.mem_cons.1 h with h | h
      · subst h; exact hy
      · exact hq z h
  have l1 := fold_lt _ (4294967295 - 0) (by decide) (hap x hx)
  have l2 := fold_lt _ (4294967295 - 0) (by decide) (hap b hb)
  unfold add at h
  have h3 : fold (4294967295 - 0) (p ++ (x :: q)) = fold (4294967295 - 0) (p ++ (b :: q)) := by omega
  rw [fold_append, fold_append] at h3
  generalize fold (4294967295 - 0) p = r at h3
  have e : byte r x = byte r b ^^^ bits 8 (b ^^^ x) := by
    unfold byte
    rw [← bits_xor]
    congr 1
    rw [Nat.xor_assoc, ← Nat.xor_assoc b b x, Nat.xor_self, Nat.zero_xor]
  have e1 : ∀ y, fold r (y :: q) = fold (byte r y) q := fun y => List.foldl_cons ..
  rw [e1, e1, e, fold_diff] at h3
  have h4 := xor_cancel h3
  have ht : b ^^^ x < 4294967296 := Nat.lt_of_lt_of_le (Nat.xor_lt_two_pow (n := 8) hb hx) (by decide)
  have h5 := bits_ker 8 _ ht (bits_ker _ _ (bits_lt 8 _ ht) h4)
  have h6 := congrArg (b ^^^ ·) h5
  simp only [← Nat.xor_assoc, Nat.xor_self, Nat.zero_xor, Nat.xor_zero] at h6
  exact h6
theorem turn_at (l : List Nat) (i x : Nat) (hl : Bytes l) (hx : x < 256) (hi : i < l.length) (h : add 0 (l.set i x) = add 0 l) : x = l[i] := by
  have e : l = l.take i ++ (l[i] :: l.drop (i + 1)) := by rw [← List.drop_eq_getElem_cons hi, List.take_append_drop]
  have e2 : l.set i x = l.take i ++ (x :: l.drop (i + 1)) := List.set_eq_take_append_cons_drop .. |>.trans (if_pos hi)
  have h1 : add 0 (l.set i x) = add 0 (l.take i ++ (l[i] :: l.drop (i + 1))) := h.trans (congrArg (add 0) e)
  rw [e2] at h1
  exact turn_mid _ _ _ _ (fun z hz => hl z (List.mem_of_mem_take hz)) (hl _ (List.getElem_mem hi)) hx (fun z hz => hl z (List.mem_of_mem_drop hz)) h1
end Crc
/-- What a header's bytes meet. -/
def Good (l : List Nat) : Prop := ∃ I body : List Nat, I.length = 124 ∧ (∀ x ∈ I, x < 256) ∧ (∀ x ∈ body, x < 256) ∧ body.length ≤ 3968 ∧ I.take 4 = leN (Crc.add 0 body) 4 ∧ (I.drop 8).take 4 = leN body.length 4 ∧ l = leN (Crc.add 0 I) 4 ++ I ++ body
theorem lt4 {n : Nat} (h : n < 4294967296) : n < 256 ^ 4 := by
  have e : (256 : Nat) ^ 4 = 4294967296 := by decide
  rw [e]; exact h
theorem set_three (c I body : List Nat) (i x : Nat) (hc : c.length = 4) (hI : I.length = 124) (c' I' body' : List Nat) (hc' : c'.length = 4) (hI' : I'.length = 124)
    (h : (c ++ I ++ body).set i x = c' ++ I' ++ body') :
    (i < 4 → c' = c.set i x ∧ I' = I ∧ body' = body) ∧ (4 ≤ i → i < 128 → c' = c ∧ I' = I.set (i - 4) x ∧ body' = body) ∧ (128 ≤ i → c' = c ∧ I' = I ∧ body' = body.set (i - 128) x) := by
  have e : c' = (c ++ I ++ body |>.set i x).take 4 ∧ I' = ((c ++ I ++ body |>.set i x).drop 4).take 124 ∧ body' = (c ++ I ++ body |>.set i x).drop 128 := by
    rw [h]
    refine ⟨?_, ?_, ?_⟩
    · rw [List.append_assoc, List.take_left' hc']
    · rw [List.append_assoc, List.drop_left' hc', List.take_left' hI']
    · rw [List.drop_left' (by rw [List.length_append, hc', hI'])]
  have hci : (c ++ I).length = 128 := by rw [List.length_append, hc, hI]
  obtain ⟨e1, e2, e3⟩ := e
  refine ⟨fun hi => ?_, fun hi hi2 => ?_, fun hi => ?_⟩
  · have es : (c ++ I ++ body).set i x = c.set i x ++ I ++ body := by
      rw [List.set_append_left _ _ (by omega), List.set_append_left _ _ (by omega)]
    rw [es] at e1 e2 e3
    rw [List.append_assoc, List.take_left' (by rw [List.length_set, hc])] at e1
    rw [List.append_assoc, List.drop_left' (by rw [List.length_set, hc]), List.take_left' hI] at e2
    rw [List.drop_left' (by rw [List.length_append, List.length_set, hc, hI])] at e3
    exact ⟨e1, e2, e3⟩
  · have es : (c ++ I ++ body).set i x = c ++ I.set (i - 4) x ++ body := by
      rw [List.set_append_left _ _ (by omega), List.set_append_right _ _ (by omega), hc]
    rw [es] at e1 e2 e3
    rw [List.append_assoc, List.take_left' hc] at e1
    rw [List.append_assoc, List.drop_left' hc, List.take_left' (by rw [List.length_set, hI])] at e2
    rw [List.drop_left' (by rw [List.length_append, List.length_set, hc, hI])] at e3
    exact ⟨e1, e2, e3⟩
  · have es : (c ++ I ++ body).set i x = c ++ I ++ body.set (i - 128) x := by
      rw [List.set_append_right _ _ (by omega), hci]
    rw [es] at e1 e2 e3
    rw [List.append_assoc, List.take_left' hc] at e1
    rw [List.append_assoc, List.drop_left' hc, List.take_left' hI] at e2
    rw [List.drop_left' hci] at e3
    exact ⟨e1, e2, e3⟩
theorem good_turn {l : List Nat} (h : Good l) (i x : Nat) (hi : i < l.length) (hx : x < 256) (hne : x ≠ l[i]) : ¬ Good (l.set i x) := by
  obtain ⟨I, body, hI, hI8, hb8, hbl, h4, _, hl⟩ := h
  rintro ⟨I', body', hI', _, _, _, h4', _, hl'⟩
  have hg : l[i]? = some l[i] := List.getElem?_eq_getElem hi
  have hn : (l.set i x) ≠ l := by
    intro e
    have := congrArg (fun z : List Nat => z[i]?) e
    simp only [List.getElem?_set_self hi, hg] at this
    injection this with this
    exact hne this
  have hll : l.length = 128 + body.length := by rw [hl, List.length_append, List.length_append, leN_length, hI]
  have h3 := set_three (leN (Crc.add 0 I) 4) I body i x (leN_length _ _) hI (leN (Crc.add 0 I') 4) I' body' (leN_length _ _) hI' (by rw [← hl]; exact hl')
  rcases Nat.lt_or_ge i 4 with h | h
  · obtain ⟨_, e2, e3⟩ := h3.1 h
    subst e2 e3
    exact hn (hl'.trans hl.symm)
  · rcases Nat.lt_or_ge i 128 with h' | h'
    · obtain ⟨e1, e2, e3⟩ := h3.2.1 h h'
      subst e3
      have ec := leN_inj (lt4 (Crc.add_lt32 _ _)) (lt4 (Crc.add_lt32 _ _)) e1
      rw [e2] at ec
      have := Crc.turn_at I (i - 4) x hI8 hx (by omega) ec
      refine hne (this.trans ?_)
      have : l[i]? = some I[i - 4] := by
        rw [hl, List.getElem?_append_left (by rw [List.length_append, leN_length, hI]; exact h'), List.getElem?_append_right (by rw [leN_length]; exact h), leN_length, List.getElem?_eq_getElem]
      rw [hg] at this
      injection this with this
      exact this.symm
    · obtain ⟨e1, e2, e3⟩ := h3.2.2 h'
      subst e2
      rw [h4] at h4'
      have ec := leN_inj (lt4 (Crc.add_lt32 _ _)) (lt4 (Crc.add_lt32 _ _)) h4'
      rw [e3] at ec
      clear h3 h hn hl' e1 e3
      obtain ⟨j, hj⟩ : ∃ j, i = 128 + j := ⟨i - 128, by omega⟩
      rw [show i - 128 = j by omega] at ec
      have hjb : j < body.length := by omega
      have := Crc.turn_at body j x hb8 hx hjb ec.symm
      refine hne (this.trans ?_)
      have e128 : (leN (Crc.add 0 I') 4 ++ I').length = 128 := (List.length_append ..).trans (by rw [leN_length]; omega)
      have : l[i]? = some body[j] := by
        rw [hl, List.getElem?_append_right (by rw [e128]; exact h'), e128, show i - 128 = j by omega, List.getElem?_eq_getElem hjb]
      rw [hg] at this
      injection this with this
      exact this.symm
theorem good_length {l l' : List Nat} (h : Good l) (h' : Good l') (he : l.take 128 = l'.take 128) : l.length = l'.length := by
  obtain ⟨I, body, hI, hI8, hb8, hbl, h4, hn, hl⟩ := h
  obtain ⟨I', body', hI', hI8', hb8', hbl', h4', hn', hl'⟩ := h'
  have e : leN (Crc.add 0 I) 4 ++ I = leN (Crc.add 0 I') 4 ++ I' := by
    rw [hl, hl', List.take_left' (by rw [List.length_append, leN_length, hI]), List.take_left' (by rw [List.length_append, leN_length, hI'])] at he
    exact he
  have e2 := (List.append_inj e (by rw [leN_length, leN_length])).2
  subst e2
  rw [hn] at hn'
  have ec := leN_inj (lt4 (by omega)) (lt4 (by omega)) hn'
  rw [hl, hl', List.length_append, List.length_append (bs := body'), ec]
theorem good_min {l : List Nat} (h : Good l) : 128 ≤ l.length := by
  obtain ⟨I, body, hI, _, _, _, _, _, hl⟩ := h
  rw [hl, List.length_append, List.length_append, leN_length, hI]; omega
theorem good_short {l : List Nat} (h : Good l) : ¬ Good (l.take (l.length - 1)) := by
  intro h'
  have m := good_min h
  have m' := good_min h'
  rw [List.length_take] at m'
  have := good_length h h' (by rw [List.take_take, Nat.min_eq_left (by omega)])
  rw [List.length_take] at this
  omega
theorem good_more {l : List Nat} (h : Good l) (x : Nat) : ¬ Good (l ++ [x]) := by
  intro h'
  have m := good_min h
  have := good_length h h' (by rw [List.take_append_of_le_length m])
  rw [List.length_append, List.length_singleton] at this
  omega
theorem packL_good {k f o : Nat} (hk : k < 256) (hf : f < 256) (ho : o < 256) (v p c cl se rq a b : Nat) (par : Nat) (body : List Nat) (hb : ∀ x ∈ body, x < 256) (hl : body.length ≤ 3968) : Good (packL k f o [v, p, c, cl, se, rq, a, b] par body) := by
  refine ⟨packIn k f o [v, p, c, cl, se, rq, a, b] par body, body, packIn_length .., packIn_lt hk hf ho _ _ _, hb, hl, ?_, ?_, rfl⟩
  · unfold packIn
    simp only [List.append_assoc]
    exact List.take_left' (leN_length _ _)
  · unfold packIn
    have e : leN (Crc.add 0 body) 4 ++ [k, f, o, 0] ++ leN body.length 4 ++ leN par 8 ++ [v, p, c, cl, se, rq, a, b].flatMap (leN · 8) ++ List.replicate 40 0 = (leN (Crc.add 0 body) 4 ++ [k, f, o, 0]) ++ (leN body.length 4 ++ (leN par 8 ++ [v, p, c, cl, se, rq, a, b].flatMap (leN · 8) ++ List.replicate 40 0)) := by
      simp only [List.append_assoc]
    rw [e, List.drop_left' (by rw [List.length_append, leN_length]; rfl), List.take_left' (leN_length _ _)]
/-- The fields that bytes hold. -/
def uk (l : List Nat) (i : Nat) : Int := ((l.getD (8 + i) 0 : Nat) : Int)
def up (l : List Nat) : Int := ((valN ((l.drop 16).take 8) : Nat) : Int)
def un (l : List Nat) (j : Nat) : Int := IntKind.i64.wrap ((valN ((l.drop (24 + 8 * j)).take 8) : Nat) : Int)
def unE (s : ByteArray) : Int := packE (uk (nats s) 0) (uk (nats s) 1) (uk (nats s) 2) (un (nats s) 0) (un (nats s) 1) (un (nats s) 2) (un (nats s) 3) (un (nats s) 4) (un (nats s) 5) (un (nats s) 6) (un (nats s) 7) (s.extract 128 s.size)
def unS (s : ByteArray) : ByteArray := packS (uk (nats s) 0) (uk (nats s) 1) (uk (nats s) 2) (un (nats s) 0) (un (nats s) 1) (un (nats s) 2) (un (nats s) 3) (un (nats s) 4) (un (nats s) 5) (un (nats s) 6) (un (nats s) 7) (up (nats s)) (s.extract 128 s.size)
def unOk (s : ByteArray) : Bool := decide (128 ≤ s.size ∧ unE s = 0 ∧ unS s = s)
theorem up_bd (l : List Nat) (h : ∀ x ∈ l, x < 256) : 0 ≤ up l ∧ up l ≤ 18446744073709551615 := by
  have := valN_bound ((l.drop 16).take 8) (fun b hb => h b (List.mem_of_mem_drop (List.mem_of_mem_take hb))) (by rw [List.length_take]; exact Nat.min_le_left _ _)
  unfold up; omega
theorem packS_good {k f o v p c cl se rq a b par : Int} {body : ByteArray} (h1 : packE k f o v p c cl se rq a b body = 0) : Good (nats (packS k f o v p c cl se rq a b par body)) := by
  obtain ⟨hh, hl⟩ := packE_ok h1
  unfold packS
  rw [if_pos ⟨hh, hl⟩]
  have b1 := of_decide_eq_true hh
  rw [nats_text _ (packL_lt (by omega) (by omega) (by omega) _ _ _ (nats_lt body))]
  exact packL_good (by omega) (by omega) (by omega) _ _ _ _ _ _ _ _ _ _ (nats_lt body) (by rw [nats_length]; exact hl)
theorem unOk_good {s : ByteArray} (h : unOk s = true) : Good (nats s) := by
  have h := of_decide_eq_true h
  have hg : Good (nats (unS s)) := packS_good h.2.1
  rw [h.2.2] at hg
  exact hg
theorem cut_mid (A B C : List Nat) (a b : Nat) (ha : A.length = a) (hb : B.length = b) : ((A ++ (B ++ C)).drop a).take b = B := by
  rw [List.drop_left' ha, List.take_left' hb]
theorem wrap_small (n : Nat) (h : n ≤ 72057594037927935) : IntKind.i64.wrap (n : Int) = n := by rw [IntKind.wrap_i64]; omega
theorem val8 (n : Nat) (h : n < 18446744073709551616) : valN (leN n 8) = n := by rw [valN_leN, Nat.mod_eq_of_lt (lt8 h)]
theorem un_packed {l A B C : List Nat} (j x : Nat) (hl : l = A ++ (B ++ C)) (hA : A.length = 24 + 8 * j) (hB : B = leN x 8) (hx : x ≤ 72057594037927935) : un l j = x := by
  unfold un
  rw [hl, cut_mid A B C _ 8 hA (by rw [hB, leN_length]), hB, val8 x (by omega), wrap_small x hx]
set_option maxHeartbeats 1000000 in
theorem packed_fields (k f o v p c cl se rq a b par : Nat) (body : List Nat) (hpar : par < 18446744073709551616)
    (hb : v ≤ 72057594037927935 ∧ p ≤ 72057594037927935 ∧ c ≤ 72057594037927935 ∧ cl ≤ 72057594037927935 ∧ se ≤ 72057594037927935 ∧ rq ≤ 72057594037927935 ∧ a ≤ 72057594037927935 ∧ b ≤ 72057594037927935) (l : List Nat) (hl : l = packL k f o [v, p, c, cl, se, rq, a, b] par body) :
    (uk l 0 = k ∧ uk l 1 = f ∧ uk l 2 = o) ∧ up l = par ∧ (un l 0 = v ∧ un l 1 = p ∧ un l 2 = c ∧ un l 3 = cl ∧ un l 4 = se ∧ un l 5 = rq ∧ un l 6 = a ∧ un l 7 = b) := by
  obtain ⟨h0, h1, h2, h3, h4, h5, h6, h7⟩ := hb
  obtain ⟨c0, hc0, hl⟩ : ∃ c0 : List Nat, c0.length = 4 ∧ l = c0 ++ packIn k f o [v, p, c, cl, se, rq, a, b] par body ++ body := ⟨_, leN_length _ _, hl⟩
  obtain ⟨c1, hc1, hp⟩ : ∃ c1 : List Nat, c1.length = 4 ∧ packIn k f o [v, p, c, cl, se, rq, a, b] par body = c1 ++ [k, f, o, 0] ++ leN body.length 4 ++ leN par 8 ++ [v, p, c, cl, se, rq, a, b].flatMap (leN · 8) ++ List.replicate 40 0 := ⟨_, leN_length _ _, rfl⟩
  rw [hp] at hl
  simp only [List.flatMap_cons, List.flatMap_nil, List.append_nil] at hl
  obtain ⟨d0, hd0, hl⟩ : ∃ d0 : List Nat, d0.length = 4 ∧ l = c0 ++ (c1 ++ [k, f, o, 0] ++ d0 ++ leN par 8 ++ (leN v 8 ++ (leN p 8 ++ (leN c 8 ++ (leN cl 8 ++ (leN se 8 ++ (leN rq 8 ++ (leN a 8 ++ leN b 8))))))) ++ List.replicate 40 0) ++ body := ⟨_, leN_length _ _, hl⟩
  obtain ⟨r, hl⟩ : ∃ r, l = c0 ++ (c1 ++ ([k, f, o, 0] ++ (d0 ++ (leN par 8 ++ (leN v 8 ++ (leN p 8 ++ (leN c 8 ++ (leN cl 8 ++ (leN se 8 ++ (leN rq 8 ++ (leN a 8 ++ (leN b 8 ++ r)))))))))))) := ⟨List.replicate 40 0 ++ body, by rw [hl]; simp only [List.append_assoc]⟩
  clear hp
  refine ⟨?_, ?_, ?_, ?_, ?_, ?_, ?_, ?_, ?_, ?_⟩
  · have hq : ∀ i, uk l i = (([k, f, o, 0] ++ (d0 ++ (leN par 8 ++ (leN v 8 ++ (leN p 8 ++ (leN c 8 ++ (leN cl 8 ++ (leN se 8 ++ (leN rq 8 ++ (leN a 8 ++ (leN b 8 ++ r)))))))))) : List Nat).getD i 0 : Nat) := by
      intro i
      unfold uk
      rw [hl, ← List.append_assoc c0 c1, List.getD_eq_getElem?_getD, List.getD_eq_getElem?_getD, List.getElem?_append_right (by rw [List.length_append, hc0, hc1]; omega), List.length_append, hc0, hc1, show 8 + i - (4 + 4) = i by omega]
    rw [hq, hq, hq]
    exact ⟨rfl, rfl, rfl⟩
  · unfold up
    rw [hl, show c0 ++ (c1 ++ ([k, f, o, 0] ++ (d0 ++ (leN par 8 ++ (leN v 8 ++ (leN p 8 ++ (leN c 8 ++ (leN cl 8 ++ (leN se 8 ++ (leN rq 8 ++ (leN a 8 ++ (leN b 8 ++ r))))))))))))
      = (c0 ++ (c1 ++ ([k, f, o, 0] ++ d0))) ++ (leN par 8 ++ (leN v 8 ++ (leN p 8 ++ (leN c 8 ++ (leN cl 8 ++ (leN se 8 ++ (leN rq 8 ++ (leN a 8 ++ (leN b 8 ++ r))))))))) by simp only [List.append_assoc],
      cut_mid _ _ _ 16 8 (by simp [hc0, hc1, hd0]) (leN_length _ _), val8 par hpar]
  · exact un_packed (A := c0 ++ (c1 ++ ([k, f, o, 0] ++ (d0 ++ leN par 8)))) 0 v (by rw [hl]; simp only [List.append_assoc]; rfl) (by simp [hc0, hc1, hd0, leN_length]) rfl h0
  · exact un_packed (A := c0 ++ (c1 ++ ([k, f, o, 0] ++ (d0 ++ (leN par 8 ++ leN v 8))))) 1 p (by rw [hl]; simp only [List.append_assoc]; rfl) (by simp [hc0, hc1, hd0, leN_length]) rfl h1
  · exact un_packed (A := c0 ++ (c1 ++ ([k, f, o, 0] ++ (d0 ++ (leN par 8 ++ (leN v 8 ++ leN p 8)))))) 2 c (by rw [hl]; simp only [List.append_assoc]; rfl) (by simp [hc0, hc1, hd0, leN_length]) rfl h2
  · exact un_packed (A := c0 ++ (c1 ++ ([k, f, o, 0] ++ (d0 ++ (leN par 8 ++ (leN v 8 ++ (leN p 8 ++ leN c 8))))))) 3 cl (by rw [hl]; simp only [List.append_assoc]; rfl) (by simp [hc0, hc1, hd0, leN_length]) rfl h3
  · exact un_packed (A := c0 ++ (c1 ++ ([k, f, o, 0] ++ (d0 ++ (leN par 8 ++ (leN v 8 ++ (leN p 8 ++ (leN c 8 ++ leN cl 8)))))))) 4 se (by rw [hl]; simp only [List.append_assoc]; rfl) (by simp [hc0, hc1, hd0, leN_length]) rfl h4
  · exact un_packed (A := c0 ++ (c1 ++ ([k, f, o, 0] ++ (d0 ++ (leN par 8 ++ (leN v 8 ++ (leN p 8 ++ (leN c 8 ++ (leN cl 8 ++ leN se 8))))))))) 5 rq (by rw [hl]; simp only [List.append_assoc]; rfl) (by simp [hc0, hc1, hd0, leN_length]) rfl h5
  · exact un_packed (A := c0 ++ (c1 ++ ([k, f, o, 0] ++ (d0 ++ (leN par 8 ++ (leN v 8 ++ (leN p 8 ++ (leN c 8 ++ (leN cl 8 ++ (leN se 8 ++ leN rq 8)))))))))) 6 a (by rw [hl]; simp only [List.append_assoc]; rfl) (by simp [hc0, hc1, hd0, leN_length]) rfl h6
  · exact un_packed (A := c0 ++ (c1 ++ ([k, f, o, 0] ++ (d0 ++ (leN par 8 ++ (leN v 8 ++ (leN p 8 ++ (leN c 8 ++ (leN cl 8 ++ (leN se 8 ++ (leN rq 8 ++ leN a 8))))))))))) 7 b (by rw [hl]; simp only [List.append_assoc]; rfl) (by simp [hc0, hc1, hd0, leN_length]) rfl h7
set_option maxHeartbeats 1000000 in
/-- What was packed is unpacked as it was. -/
theorem un_back {k f o v p c cl se rq a b par : Int} {body s : ByteArray} (hpar : 0 ≤ par ∧ par ≤ 18446744073709551615) (h1 : packE k f o v p c cl se rq a b body = 0) (hs : s = packS k f o v p c cl se rq a b par body) :
    unOk s = true ∧ s.extract 128 s.size = body ∧ s.size = 128 + body.size ∧ (uk (nats s) 0 = k ∧ uk (nats s) 1 = f ∧ uk (nats s) 2 = o) ∧ up (nats s) = par ∧ (un (nats s) 0 = v ∧ un (nats s) 1 = p ∧ un (nats s) 2 = c ∧ un (nats s) 3 = cl ∧ un (nats s) 4 = se ∧ un (nats s) 5 = rq ∧ un (nats s) 6 = a ∧ un (nats s) 7 = b) := by
  obtain ⟨hh, hl⟩ := packE_ok h1
  have b1 := of_decide_eq_true hh
  have hn : nats s = packL k.toNat f.toNat o.toNat [v.toNat, p.toNat, c.toNat, cl.toNat, se.toNat, rq.toNat, a.toNat, b.toNat] par.toNat (nats body) := by
    rw [hs]
    unfold packS
    rw [if_pos ⟨hh, hl⟩]
    exact nats_text _ (packL_lt (by omega) (by omega) (by omega) _ _ _ (nats_lt body))
  have hz : s.size = 128 + body.size := by rw [← nats_length, hn, packL_length, nats_length]
  have hx : s.extract 128 s.size = body := by
    apply nats_inj
    rw [nats_extract, List.take_of_length_le (by rw [nats_length]; exact Nat.le_refl _), hn]
    unfold packL
    exact List.drop_left' (by rw [List.length_append, leN_length, packIn_length])
  have hf := packed_fields k.toNat f.toNat o.toNat v.toNat p.toNat c.toNat cl.toNat se.toNat rq.toNat a.toNat b.toNat par.toNat (nats body) (by omega) ⟨by omega, by omega, by omega, by omega, by omega, by omega, by omega, by omega⟩ (nats s) hn
  have t : ∀ x : Int, 0 ≤ x → ((x.toNat : Nat) : Int) = x := fun x h => Int.toNat_of_nonneg h
  rw [t k (by omega), t f (by omega), t o (by omega), t par (by omega), t v (by omega), t p (by omega), t c (by omega), t cl (by omega), t se (by omega), t rq (by omega), t a (by omega), t b (by omega)] at hf
  refine ⟨decide_eq_true ⟨by omega, ?_, ?_⟩, hx, hz, hf⟩
  · obtain ⟨⟨e1, e2, e3⟩, e4, e5, e6, e7, e8, e9, e10, e11, e12⟩ := hf
    unfold unE
    rw [hx, e1, e2, e3, e5, e6, e7, e8, e9, e10, e11, e12]
    exact h1
  · obtain ⟨⟨e1, e2, e3⟩, e4, e5, e6, e7, e8, e9, e10, e11, e12⟩ := hf
    unfold unS
    rw [hx, e1, e2, e3, e4, e5, e6, e7, e8, e9, e10, e11, e12]
    exact hs.symm
end Go.Proofs.Ytmebodjofcomlaa

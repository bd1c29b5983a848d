import Derived.Test.YtnldjddmchfcoaaNumK
import Derived.Laws.AppendOwnNone
namespace Go.Proofs.Ytnldjddmchfcoaa
open Go.RowKit
theorem run_append_of_nil {P : Program} {w : World} (base : Nat) (t ty e : TypeId) (i : TypeInfo) (size : Nat) (ht : P.underlying t = some (.slice e)) (hi : P.info? e = some i)
    (v : Value) (n : Nat) (xs : List Value) (hown : w.ownsRow base e size v n xs) (c : Nat) : (Builtin.append_ #[t, t] ty #[v, .slice none 0 c]).run P w = .ok v w := by
  rcases hown.2 with ⟨rfl, rfl⟩ | ⟨g, cap, cur, rfl, _, _, hnc, _⟩
  · simp [Builtin.append_, run_underlying ht, sizeOf, typeInfo, hi, Builtin.lenOf, Builtin.firstCells]
  · simp [Builtin.append_, run_underlying ht, sizeOf, typeInfo, hi, Builtin.lenOf, Builtin.firstCells, hnc, storeCells]
/-- 'append(out, xs...)' of bytes, out one's own, xs any. -/
theorem appN {wr w0 : World} {B : Nat} {ops : Array Oper} {rest : List Oper} {o : Oper} {a : Act} {Q : Exit → Act → World → Prop} (hgd : o.guard = none) (s x : Operand)
    (ho : o.op = .call { callee := .builtin .append, args := #[s, x], argTypes := #[22, 22] }) (v : Value) (L : List Nat) (hs : a.eval s = v) (hO : OwnB B wr v L)
    (q : Option Addr) (m c : Nat) (T : List Nat) (hx : a.eval x = .slice q m c) (hT : Holds wr (.slice q m c) T) (hlen : L.length + T.length ≤ 140737488355328) (hb0 : Below B w0 wr) (hB : B ≤ wr.heap.size)
    (h : ∀ v' w', OwnB B w' v' (L ++ T) → Below B w0 w' → wpList Try.prog ops Q rest (a.put o.dst v') w') : wpList Try.prog ops Q (o :: rest) a wr := by
  obtain ⟨i0, hi, hz0, hz1, hz2⟩ := info_parts info_u8
  obtain ⟨hm, hn, hc⟩ := hT.cells
  subst hm
  cases q with
  | none =>
    have hT0 := hn rfl
    subst hT0
    have hrun := run_append_of_nil (P := Try.prog) B 22 o.type 5 i0 1 Try.underlying22 hi v L.length (cells8 L) hO.2 c
    refine wpList_plain hgd fun K hK => ?_
    unfold Oper.wp
    have hx' : a.eval x = .slice none 0 c := hx
    simp only [execOp, ho, resolve, invoke, builtin, Sem.run_bind, Sem.run_pure, Result.andThen_ok, List.map_toArray, List.map_cons, List.map_nil, hs, hx', hrun]
    exact hK _ _ (h v wr (by simpa using hO) hb0)
  | some ad =>
    refine wpList_append_own _ hgd s x 22 ho B 5 i0 (.int .u8 0) 1 1 Try.underlying22 hi hz0 hz1 hz2 rfl (by decide) v L.length (cells8 L) hs hO.2 ad T.length c (cells8 T) hx (by rw [cells8_length, Nat.mul_one]) (hc ad rfl)
      (cells8_one T) (by unfold maxLen; omega) (by omega) hB ?_
    intro v' w' hown hg _
    refine h v' w' ⟨fun b hb => ?_, ?_⟩ (grown_below hb0 hB hO.2 hg)
    · rcases List.mem_append.1 hb with h | h
      · exact hO.1 b h
      · exact hT.1 b h
    · rw [List.length_append]
      have e : cells8 (L ++ T) = cells8 L ++ cells8 T := by simp [cells8]
      rw [e]
      exact hown
theorem textR_back (l T : List Nat) (s : ByteArray) (most : Int) (hs : s.size ≤ 65535) :
    textR (l ++ leN s.size 2 ++ nats s ++ T) l.length most = if most < s.size then ([], 0, 5) else (nats s, (l.length : Int) + 2 + s.size, 0) := by
  have hln : (l ++ leN s.size 2 ++ nats s ++ T).length = l.length + 2 + s.size + T.length := by
    rw [List.length_append, List.length_append, List.length_append, leN_length, nats_length]
  have hd : (l ++ leN s.size 2 ++ nats s ++ T).drop l.length = leN s.size 2 ++ (nats s ++ T) := by simp [List.append_assoc]
  have hd2 : (l ++ leN s.size 2 ++ nats s ++ T).drop (l.length + 2) = nats s ++ T := by
    rw [← List.drop_drop, hd, List.drop_left' (leN_length s.size 2)]
  have ht : takeR (l ++ leN s.size 2 ++ nats s ++ T) l.length 2 = ((s.size : Int), 0) := by
    have h := takeR_ok (l ++ leN s.size 2 ++ nats s ++ T) l.length 2 (by decide) (by decide) (by rw [hln]; omega)
    rw [hd, List.take_left' (leN_length s.size 2), valN_leN, show s.size % 256 ^ 2 = s.size from Nat.mod_eq_of_lt (by omega)] at h
    exact h
  by_cases hm : most < s.size
  · rw [if_pos hm]; exact textR_long _ _ _ _ ht hm
  · rw [if_neg hm, textR_ok _ _ _ _ ht hm (by rw [hln]; omega)]
    simp only [Int.toNat_natCast, hd2]
    rw [List.take_left' (nats_length s)]
end Go.Proofs.Ytnldjddmchfcoaa

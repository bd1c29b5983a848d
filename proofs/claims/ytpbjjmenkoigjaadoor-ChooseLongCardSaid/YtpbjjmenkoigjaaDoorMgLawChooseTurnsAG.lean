/- Has a message no field? The stub of an entry. A stub that may be; its sector. May an item be? May a message's lists be? -/
import Derived.Test.YtpbjjmenkoigjaaDoorMgLawChooseTurnsAF
import Derived.Laws.RangeAny
section
namespace Go.Proofs.YtpbjjmenkoigjaaDoor
open Go.RowKit
set_option linter.unusedVariables false
/-- The numbers of a message, in the order in which they are looked at. -/
def Mst.num (m : Mst) : Nat → Int
  | 0 => m.v
  | 1 => m.lv
  | 2 => m.op
  | 3 => m.cm
  | 4 => m.cl
  | 5 => m.se
  | 6 => m.rq
  | 7 => m.pn
  | 8 => m.ix
  | _ => m.sz
def lets : ByteArray := ⟨#[118, 108, 111, 99, 119, 115, 114, 112, 105, 122]⟩
theorem num_cell (m : Mst) (j : Nat) (hj : j < 10) : m.row[2 + j]? = some (.int .i64 (m.num j)) := by
  match j, hj with
  | 0, _ => rfl
  | 1, _ => rfl
  | 2, _ => rfl
  | 3, _ => rfl
  | 4, _ => rfl
  | 5, _ => rfl
  | 6, _ => rfl
  | 7, _ => rfl
  | 8, _ => rfl
  | 9, _ => rfl
theorem lt_lit {n : Nat} (h : n < 128) : n < 128 := h
theorem lets_ascii (j : Nat) (hj : j < lets.size) : (lets[j]'hj).toNat < 128 := by
  have hj' : j < 10 := hj
  match j, hj' with
  | 0, _ => exact lt_lit (n := 118) (by decide)
  | 1, _ => exact lt_lit (n := 108) (by decide)
  | 2, _ => exact lt_lit (n := 111) (by decide)
  | 3, _ => exact lt_lit (n := 99) (by decide)
  | 4, _ => exact lt_lit (n := 119) (by decide)
  | 5, _ => exact lt_lit (n := 115) (by decide)
  | 6, _ => exact lt_lit (n := 114) (by decide)
  | 7, _ => exact lt_lit (n := 112) (by decide)
  | 8, _ => exact lt_lit (n := 105) (by decide)
  | 9, _ => exact lt_lit (n := 122) (by decide)
theorem number_j (b j : Nat) (hj : j < lets.size) (w : World) : Calls Tryd.prog 54 #[.pointer (some ⟨b, 0, none⟩), .int .i32 ((lets[j]'hj).toNat : Int)] w fun e w' => e = .returned (.pointer (some ⟨b, 2 + j, none⟩)) ∧ w = w' := by
  have hj' : j < 10 := hj
  match j, hj' with
  | 0, _ => exact number_v b w
  | 1, _ => exact number_l b w
  | 2, _ => exact number_o b w
  | 3, _ => exact number_c b w
  | 4, _ => exact number_w b w
  | 5, _ => exact number_s b w
  | 6, _ => exact number_r b w
  | 7, _ => exact number_p b w
  | 8, _ => exact number_i b w
  | 9, _ => exact number_z b w
/-- Has it none? -/
def emptyP (m : Mst) : Prop := (∀ j, j < 10 → m.num j = 0) ∧ (m.co = 0 ∧ m.cv = 0 ∧ m.cs = 0) ∧ (m.s0 = 0 ∧ m.s1 = 0 ∧ m.s2 = 0 ∧ m.s3 = 0 ∧ m.s4 = 0 ∧ m.s5 = 0) ∧ m.e = Est.zero ∧ m.es.length = 0 ∧ m.is.length = 0 ∧ m.b = ⟨#[]⟩
instance (m : Mst) : Decidable (emptyP m) := by unfold emptyP; infer_instance
def emptyB (m : Mst) : Bool := decide (emptyP m)
theorem emptyB_no (m : Mst) (h : ¬ emptyP m) : emptyB m = false := decide_eq_false h
theorem Blk.midrange {w : World} {b : Nat} {cs : Array Value} (h : Blk w b cs) (o : Nat) (sub : Array Value) (hs : ∀ k, k < sub.size → cs[o + k]? = sub[k]?) : w.rangeAt b o sub.toList := fun k v hv => by
  have hv' : sub[k]? = some v := by simpa using hv
  exact (h.2 (o + k) v ((hs k (Array.getElem?_eq_some_iff.1 hv').1).trans hv')).1
theorem bytes_isEmpty (b : ByteArray) : b.toList.isEmpty = decide (b = ⟨#[]⟩) := by
  rw [ByteArray.toList_eq]
  obtain ⟨⟨x⟩⟩ := b
  cases x <;> simp
set_option maxRecDepth 100000 in
set_option maxHeartbeats 20000000 in
theorem empty_any (m : Mst) (w : World) : Calls Tryd.prog 56 #[.agg m.row] w fun e w' => e = .returned (.bool (emptyB m)) ∧ Below w.heap.size w w' := by
  obtain ⟨R, hR⟩ : ∃ R, R = m.row := ⟨_, rfl⟩
  rw [← hR]
  have HR := Lib.hid hR
  have HI0 : Hid (It ((w.alloc (.cells R 45)).iter ⟨#[118, 108, 111, 99, 119, 115, 114, 112, 105, 122]⟩ 0) (w.heap.size + 1) lets 0) := Lib.hid (by have := World.iter_heap (w.alloc (.cells R 45)) ⟨#[118, 108, 111, 99, 119, 115, 114, 112, 105, 122]⟩ 0; rw [show (w.alloc (.cells R 45)).heap.size = w.heap.size + 1 from by simp] at this; exact this)
  have HBW : Hid (Below w.heap.size w ((w.alloc (.cells R 45)).iter ⟨#[118, 108, 111, 99, 119, 115, 114, 112, 105, 122]⟩ 0)) := Lib.hid (((Below.refl _ _).alloc (Nat.le_refl _) _).alloc (by simp) _)
  have HB : Hid (Blk ((w.alloc (.cells R 45)).iter ⟨#[118, 108, 111, 99, 119, 115, 114, 112, 105, 122]⟩ 0) w.heap.size R) := Lib.hid (Blk.alloc (Blk.new _ _ _ _ rfl) _)
  clear hR
  go_enter Tryd.func56, Tryd.ntmps56
  go_wp2_with fail
  generalize (w.alloc (.cells R 45)).iter ⟨#[118, 108, 111, 99, 119, 115, 114, 112, 105, 122]⟩ 0 = W0 at *
  go_loopw [] (fun wr => ∃ j : Nat, j ≤ 10 ∧ It wr (w.heap.size + 1) lets j ∧ Below w.heap.size w wr ∧ Blk wr w.heap.size R ∧ ∀ k, k < j → m.num k = 0) (fun wr => 10 - wr.iterPos (w.heap.size + 1))
  case atStart => exact ⟨0, by omega, HI0.out, HBW.out, HB.out, fun k hk => absurd hk (by omega)⟩
  case round =>
    clear HI0 HBW HB
    obtain ⟨j, hj, hI, hbw, hB, hpre⟩ := hrel
    have HPRE := Lib.hid hpre
    have HB := Lib.hid hB
    have HBW := Lib.hid hbw
    have HIT := Lib.hid hI
    clear hpre
    by_cases hlt : j < lets.size
    · obtain ⟨W1, hn, hI1, hT1⟩ := next_it hI hlt (lets_ascii j hlt)
      have hj10 : j < 10 := hlt
      have hB1 : Blk W1 w.heap.size R := hB.turned hT1 (by omega)
      have HI1 := Lib.hid hI1
      have HB1 := Lib.hid hB1
      have HBW1 : Hid (Below w.heap.size w W1) := Lib.hid (hbw.trans (hT1.below (fun q hq => by omega) hbw.size))
      have HNUM := Lib.hid (number_j w.heap.size j hlt)
      have c := (hB1.2 (2 + j) _ (by rw [HR.out]; exact num_cell m j hj10)).1
      have HN := Lib.hid hn
      clear hn hI1 hT1 hB1 hB hbw hI
      generalize ((lets[j]'hlt).toNat : Int) = ch at *
      by_cases h0 : m.num j = 0
      · rw [h0] at c
        go_wp2_with (first | (guard_target =~ wpList _ _ _ (⟨_, Op.next _ _, _, _, _, _⟩ :: _) _ _; refine wpList_next_eq (Operand.tmp 5) rfl rfl HN.out rfl ?_) | (go_at_call 54; refine (HNUM.out _).mono ?_; rintro e w2 ⟨rfl, rfl⟩))
        go_roundw
        case rel => exact ⟨j + 1, by omega, HI1.out, HBW1.out, HB1.out, fun k hk => by rcases Nat.lt_succ_iff_lt_or_eq.1 hk with q | q; exact HPRE.out k q; rw [q]; exact h0⟩
        case measure =>
          simp only [iterPos_of HI1.out, iterPos_of HIT.out]
          omega
      · have HNO := Lib.hid (emptyB_no m (fun q => h0 (q.1 j hj10)))
        generalize m.num j = x at *
        go_wp2_with (first | (guard_target =~ wpList _ _ _ (⟨_, Op.next _ _, _, _, _, _⟩ :: _) _ _; refine wpList_next_eq (Operand.tmp 5) rfl rfl HN.out rfl ?_) | (go_at_call 54; refine (HNUM.out _).mono ?_; rintro e w2 ⟨rfl, rfl⟩))
        go_ret
        exact ⟨by rw [HNO.out]; rfl, HBW1.out⟩
    · have he := Lib.hid (fun ty => next_end hI hlt ty)
      have hj10 : j = 10 := by have : lets.size = 10 := rfl; omega
      subst hj10
      clear hlt hI hbw
      have lM := Lib.hid (load_at (cs := #[.int .i64 m.co, .int .i64 m.cv, .int .u64 m.cs]) (o := 12) 27 _ (HB.out.midrange 12 _ (fun k hk => by rw [HR.out]; match k, hk with | 0, _ => rfl | 1, _ => rfl | 2, _ => rfl)) Tryd.underlying27 rfl (by kernel_rfl))
      have lS := Lib.hid (load_at (cs := #[.int .u64 m.s0, .int .u64 m.s1, .int .u64 m.s2, .int .u64 m.s3, .int .u64 m.s4, .int .u64 m.s5]) (o := 15) 42 _ (HB.out.midrange 15 _ (fun k hk => by rw [HR.out]; match k, hk with | 0, _ => rfl | 1, _ => rfl | 2, _ => rfl | 3, _ => rfl | 4, _ => rfl | 5, _ => rfl)) Tryd.underlying42 rfl (by kernel_rfl))
      have lE := Lib.hid (load_at (cs := m.e.row) (o := 21) 35 _ (HB.out.midrange 21 _ (fun k hk => by rw [HR.out]; match k, hk with | 0, _ => rfl | 1, _ => rfl | 2, _ => rfl | 3, _ => rfl | 4, _ => rfl | 5, _ => rfl | 6, _ => rfl | 7, _ => rfl | 8, _ => rfl)) Tryd.underlying35 rfl (by kernel_rfl))
      have eM := Lib.hid (eq_mark m.co m.cv m.cs 0 0 0)
      have eS := Lib.hid (eq_sums m.s0 m.s1 m.s2 m.s3 m.s4 m.s5 0 0 0 0 0 0)
      have eE := Lib.hid (eq_est m.e Est.zero)
      have c30 : wr.cell? ⟨w.heap.size, 30, none⟩ = some (.slice m.ea m.es.length m.ec) := (HB.out.2 30 _ (by rw [HR.out]; rfl)).1
      have c31 : wr.cell? ⟨w.heap.size, 31, none⟩ = some (.slice m.ia m.is.length m.ic) := (HB.out.2 31 _ (by rw [HR.out]; rfl)).1
      have c32 : wr.cell? ⟨w.heap.size, 32, none⟩ = some (.string m.b) := (HB.out.2 32 _ (by rw [HR.out]; rfl)).1
      have HV : Hid (emptyB m = (decide (m.co = 0 ∧ m.cv = 0 ∧ m.cs = 0) && (decide (m.s0 = 0 ∧ m.s1 = 0 ∧ m.s2 = 0 ∧ m.s3 = 0 ∧ m.s4 = 0 ∧ m.s5 = 0) && (decide (m.e = Est.zero) && (decide (m.es.length = 0) && (decide (m.is.length = 0) && decide (m.b = ⟨#[]⟩))))))) := Lib.hid (by
        have hp := HPRE.out
        unfold emptyB emptyP
        simp only [← Bool.decide_and]
        exact decide_eq_decide.2 ⟨fun q => q.2, fun q => ⟨hp, q⟩⟩)
      generalize decide (m.co = 0 ∧ m.cv = 0 ∧ m.cs = 0) = v1 at *
      generalize decide (m.s0 = 0 ∧ m.s1 = 0 ∧ m.s2 = 0 ∧ m.s3 = 0 ∧ m.s4 = 0 ∧ m.s5 = 0) = v2 at *
      generalize decide (m.e = Est.zero) = v3 at *
      cases v1
      · go_wp2_with (first | (guard_target =~ wpList _ _ _ (⟨_, Op.next _ _, _, _, _, _⟩ :: _) _ _; refine wpList_next_eq (Operand.tmp 5) rfl rfl he.out rfl ?_) | (guard_target =~ wpList _ _ _ (⟨_, Op.load _ (Operand.tmp 14), _, _, _, _⟩ :: _) _ _; refine wpList_load_w 27 (Operand.tmp 14) (by kernel_rfl) rfl lM.out rfl ?_) | (guard_target =~ wpList _ _ _ (⟨_, Op.load _ (Operand.tmp 19), _, _, _, _⟩ :: _) _ _; refine wpList_load_w 42 (Operand.tmp 19) (by kernel_rfl) rfl lS.out rfl ?_) | (guard_target =~ wpList _ _ _ (⟨_, Op.load _ (Operand.tmp 25), _, _, _, _⟩ :: _) _ _; refine wpList_load_w 35 (Operand.tmp 25) (by kernel_rfl) rfl lE.out rfl ?_) | (guard_target =~ wpList _ _ _ (⟨_, Op.binOp _ _ (Operand.tmp 15) (Operand.tmp 16) _, _, _, _, _⟩ :: _) _ _; refine wpList_eql 27 _ (Operand.tmp 15) (Operand.tmp 16) (by kernel_rfl) rfl eM.out rfl rfl ?_) | (guard_target =~ wpList _ _ _ (⟨_, Op.binOp _ _ (Operand.tmp 20) (Operand.tmp 21) _, _, _, _, _⟩ :: _) _ _; refine wpList_eql 42 _ (Operand.tmp 20) (Operand.tmp 21) (by kernel_rfl) rfl eS.out rfl rfl ?_) | (guard_target =~ wpList _ _ _ (⟨_, Op.binOp _ _ (Operand.tmp 26) (Operand.tmp 27) _, _, _, _, _⟩ :: _) _ _; refine wpList_eql 35 _ (Operand.tmp 26) (Operand.tmp 27) (by kernel_rfl) rfl eE.out rfl rfl ?_))
        go_ret
        exact ⟨by rw [HV.out]; rfl, HBW.out⟩
      · cases v2
        · go_wp2_with (first | (guard_target =~ wpList _ _ _ (⟨_, Op.next _ _, _, _, _, _⟩ :: _) _ _; refine wpList_next_eq (Operand.tmp 5) rfl rfl he.out rfl ?_) | (guard_target =~ wpList _ _ _ (⟨_, Op.load _ (Operand.tmp 14), _, _, _, _⟩ :: _) _ _; refine wpList_load_w 27 (Operand.tmp 14) (by kernel_rfl) rfl lM.out rfl ?_) | (guard_target =~ wpList _ _ _ (⟨_, Op.load _ (Operand.tmp 19), _, _, _, _⟩ :: _) _ _; refine wpList_load_w 42 (Operand.tmp 19) (by kernel_rfl) rfl lS.out rfl ?_) | (guard_target =~ wpList _ _ _ (⟨_, Op.load _ (Operand.tmp 25), _, _, _, _⟩ :: _) _ _; refine wpList_load_w 35 (Operand.tmp 25) (by kernel_rfl) rfl lE.out rfl ?_) | (guard_target =~ wpList _ _ _ (⟨_, Op.binOp _ _ (Operand.tmp 15) (Operand.tmp 16) _, _, _, _, _⟩ :: _) _ _; refine wpList_eql 27 _ (Operand.tmp 15) (Operand.tmp 16) (by kernel_rfl) rfl eM.out rfl rfl ?_) | (guard_target =~ wpList _ _ _ (⟨_, Op.binOp _ _ (Operand.tmp 20) (Operand.tmp 21) _, _, _, _, _⟩ :: _) _ _; refine wpList_eql 42 _ (Operand.tmp 20) (Operand.tmp 21) (by kernel_rfl) rfl eS.out rfl rfl ?_) | (guard_target =~ wpList _ _ _ (⟨_, Op.binOp _ _ (Operand.tmp 26) (Operand.tmp 27) _, _, _, _, _⟩ :: _) _ _; refine wpList_eql 35 _ (Operand.tmp 26) (Operand.tmp 27) (by kernel_rfl) rfl eE.out rfl rfl ?_))
          go_ret
          exact ⟨by rw [HV.out]; rfl, HBW.out⟩
        · cases v3
          · go_wp2_with (first | (guard_target =~ wpList _ _ _ (⟨_, Op.next _ _, _, _, _, _⟩ :: _) _ _; refine wpList_next_eq (Operand.tmp 5) rfl rfl he.out rfl ?_) | (guard_target =~ wpList _ _ _ (⟨_, Op.load _ (Operand.tmp 14), _, _, _, _⟩ :: _) _ _; refine wpList_load_w 27 (Operand.tmp 14) (by kernel_rfl) rfl lM.out rfl ?_) | (guard_target =~ wpList _ _ _ (⟨_, Op.load _ (Operand.tmp 19), _, _, _, _⟩ :: _) _ _; refine wpList_load_w 42 (Operand.tmp 19) (by kernel_rfl) rfl lS.out rfl ?_) | (guard_target =~ wpList _ _ _ (⟨_, Op.load _ (Operand.tmp 25), _, _, _, _⟩ :: _) _ _; refine wpList_load_w 35 (Operand.tmp 25) (by kernel_rfl) rfl lE.out rfl ?_) | (guard_target =~ wpList _ _ _ (⟨_, Op.binOp _ _ (Operand.tmp 15) (Operand.tmp 16) _, _, _, _, _⟩ :: _) _ _; refine wpList_eql 27 _ (Operand.tmp 15) (Operand.tmp 16) (by kernel_rfl) rfl eM.out rfl rfl ?_) | (guard_target =~ wpList _ _ _ (⟨_, Op.binOp _ _ (Operand.tmp 20) (Operand.tmp 21) _, _, _, _, _⟩ :: _) _ _; refine wpList_eql 42 _ (Operand.tmp 20) (Operand.tmp 21) (by kernel_rfl) rfl eS.out rfl rfl ?_) | (guard_target =~ wpList _ _ _ (⟨_, Op.binOp _ _ (Operand.tmp 26) (Operand.tmp 27) _, _, _, _, _⟩ :: _) _ _; refine wpList_eql 35 _ (Operand.tmp 26) (Operand.tmp 27) (by kernel_rfl) rfl eE.out rfl rfl ?_))
            go_ret
            exact ⟨by rw [HV.out]; rfl, HBW.out⟩
          · by_cases k1 : m.es.length = 0
            · rw [k1] at c30
              by_cases k2 : m.is.length = 0
              · rw [k2] at c31
                go_wp2_with (first | (guard_target =~ wpList _ _ _ (⟨_, Op.next _ _, _, _, _, _⟩ :: _) _ _; refine wpList_next_eq (Operand.tmp 5) rfl rfl he.out rfl ?_) | (guard_target =~ wpList _ _ _ (⟨_, Op.load _ (Operand.tmp 14), _, _, _, _⟩ :: _) _ _; refine wpList_load_w 27 (Operand.tmp 14) (by kernel_rfl) rfl lM.out rfl ?_) | (guard_target =~ wpList _ _ _ (⟨_, Op.load _ (Operand.tmp 19), _, _, _, _⟩ :: _) _ _; refine wpList_load_w 42 (Operand.tmp 19) (by kernel_rfl) rfl lS.out rfl ?_) | (guard_target =~ wpList _ _ _ (⟨_, Op.load _ (Operand.tmp 25), _, _, _, _⟩ :: _) _ _; refine wpList_load_w 35 (Operand.tmp 25) (by kernel_rfl) rfl lE.out rfl ?_) | (guard_target =~ wpList _ _ _ (⟨_, Op.binOp _ _ (Operand.tmp 15) (Operand.tmp 16) _, _, _, _, _⟩ :: _) _ _; refine wpList_eql 27 _ (Operand.tmp 15) (Operand.tmp 16) (by kernel_rfl) rfl eM.out rfl rfl ?_) | (guard_target =~ wpList _ _ _ (⟨_, Op.binOp _ _ (Operand.tmp 20) (Operand.tmp 21) _, _, _, _, _⟩ :: _) _ _; refine wpList_eql 42 _ (Operand.tmp 20) (Operand.tmp 21) (by kernel_rfl) rfl eS.out rfl rfl ?_) | (guard_target =~ wpList _ _ _ (⟨_, Op.binOp _ _ (Operand.tmp 26) (Operand.tmp 27) _, _, _, _, _⟩ :: _) _ _; refine wpList_eql 35 _ (Operand.tmp 26) (Operand.tmp 27) (by kernel_rfl) rfl eE.out rfl rfl ?_))
                go_ret
                refine ⟨?_, HBW.out⟩
                show Ending.returned (Value.bool m.b.toList.isEmpty) = _
                rw [HV.out, decide_eq_true k1, decide_eq_true k2, bytes_isEmpty]
                rfl
              · have k2b : ((m.is.length : Int) == 0) = false := beq_eq_false_iff_ne.2 (by omega)
                have k2c := Lib.hid (decide_eq_false k2)
                generalize m.is.length = x at *
                go_wp2_with (first | (guard_target =~ wpList _ _ _ (⟨_, Op.next _ _, _, _, _, _⟩ :: _) _ _; refine wpList_next_eq (Operand.tmp 5) rfl rfl he.out rfl ?_) | (guard_target =~ wpList _ _ _ (⟨_, Op.load _ (Operand.tmp 14), _, _, _, _⟩ :: _) _ _; refine wpList_load_w 27 (Operand.tmp 14) (by kernel_rfl) rfl lM.out rfl ?_) | (guard_target =~ wpList _ _ _ (⟨_, Op.load _ (Operand.tmp 19), _, _, _, _⟩ :: _) _ _; refine wpList_load_w 42 (Operand.tmp 19) (by kernel_rfl) rfl lS.out rfl ?_) | (guard_target =~ wpList _ _ _ (⟨_, Op.load _ (Operand.tmp 25), _, _, _, _⟩ :: _) _ _; refine wpList_load_w 35 (Operand.tmp 25) (by kernel_rfl) rfl lE.out rfl ?_) | (guard_target =~ wpList _ _ _ (⟨_, Op.binOp _ _ (Operand.tmp 15) (Operand.tmp 16) _, _, _, _, _⟩ :: _) _ _; refine wpList_eql 27 _ (Operand.tmp 15) (Operand.tmp 16) (by kernel_rfl) rfl eM.out rfl rfl ?_) | (guard_target =~ wpList _ _ _ (⟨_, Op.binOp _ _ (Operand.tmp 20) (Operand.tmp 21) _, _, _, _, _⟩ :: _) _ _; refine wpList_eql 42 _ (Operand.tmp 20) (Operand.tmp 21) (by kernel_rfl) rfl eS.out rfl rfl ?_) | (guard_target =~ wpList _ _ _ (⟨_, Op.binOp _ _ (Operand.tmp 26) (Operand.tmp 27) _, _, _, _, _⟩ :: _) _ _; refine wpList_eql 35 _ (Operand.tmp 26) (Operand.tmp 27) (by kernel_rfl) rfl eE.out rfl rfl ?_))
                go_ret
                exact ⟨by rw [HV.out, k2c.out]; simp, HBW.out⟩
            · have k1b : ((m.es.length : Int) == 0) = false := beq_eq_false_iff_ne.2 (by omega)
              have k1c := Lib.hid (decide_eq_false k1)
              generalize m.es.length = x at *
              go_wp2_with (first | (guard_target =~ wpList _ _ _ (⟨_, Op.next _ _, _, _, _, _⟩ :: _) _ _; refine wpList_next_eq (Operand.tmp 5) rfl rfl he.out rfl ?_) | (guard_target =~ wpList _ _ _ (⟨_, Op.load _ (Operand.tmp 14), _, _, _, _⟩ :: _) _ _; refine wpList_load_w 27 (Operand.tmp 14) (by kernel_rfl) rfl lM.out rfl ?_) | (guard_target =~ wpList _ _ _ (⟨_, Op.load _ (Operand.tmp 19), _, _, _, _⟩ :: _) _ _; refine wpList_load_w 42 (Operand.tmp 19) (by kernel_rfl) rfl lS.out rfl ?_) | (guard_target =~ wpList _ _ _ (⟨_, Op.load _ (Operand.tmp 25), _, _, _, _⟩ :: _) _ _; refine wpList_load_w 35 (Operand.tmp 25) (by kernel_rfl) rfl lE.out rfl ?_) | (guard_target =~ wpList _ _ _ (⟨_, Op.binOp _ _ (Operand.tmp 15) (Operand.tmp 16) _, _, _, _, _⟩ :: _) _ _; refine wpList_eql 27 _ (Operand.tmp 15) (Operand.tmp 16) (by kernel_rfl) rfl eM.out rfl rfl ?_) | (guard_target =~ wpList _ _ _ (⟨_, Op.binOp _ _ (Operand.tmp 20) (Operand.tmp 21) _, _, _, _, _⟩ :: _) _ _; refine wpList_eql 42 _ (Operand.tmp 20) (Operand.tmp 21) (by kernel_rfl) rfl eS.out rfl rfl ?_) | (guard_target =~ wpList _ _ _ (⟨_, Op.binOp _ _ (Operand.tmp 26) (Operand.tmp 27) _, _, _, _, _⟩ :: _) _ _; refine wpList_eql 35 _ (Operand.tmp 26) (Operand.tmp 27) (by kernel_rfl) rfl eE.out rfl rfl ?_))
              go_ret
              exact ⟨by rw [HV.out, k1c.out]; simp, HBW.out⟩
end Go.Proofs.YtpbjjmenkoigjaaDoor
end

section
namespace Go.Proofs.YtpbjjmenkoigjaaDoor
open Go.RowKit
set_option linter.unusedVariables false
def Est.B (e : Est) : Bool := entB e.v e.o e.u e.c e.s e.r e.k e.b
def Est.sum (e : Est) : Int := mkS e.v e.o e.u e.p e.c e.s e.r e.k e.b
def stubV (e : Est) : Sst := if e.B = true then ⟨e.o, e.v, e.u, e.p, e.sum⟩ else Sst.zero
theorem wp_store_eq {P : Program} {op : Oper} {a : Act} {w w' : World} {K : Act → World → Prop} {Q : Exit → Act → World → Prop} (ty : TypeId) (x y : Operand) (ho : op.op = .store ty x y)
    {p v : Value} (hl : (Instr.storeAt ty p v).run P w = .ok () w') (hx : a.eval x = p) (hy : a.eval y = v) (h : K (a.put op.dst undef) w') : op.wp P a w K Q := by
  unfold Oper.wp execOp
  simp only [ho, hx, hy, Sem.run_bind, Sem.run_pure, Result.andThen_ok, hl]
  exact h
theorem results_stub {tmps : Array Value} {w : World} {g : Nat} {s : Sst} (hp : tmps[2]?.getD undef = .pointer (some ⟨g, 0, none⟩)) (hB : Blk w g s.row) :
    (results Tryd.f16 tmps).run Tryd.prog w = .ok (.agg s.row) w := by
  have hl := run_loadVar_mid (P := Tryd.prog) w g 0 38 s.row.toList _ hB.range Tryd.underlying38 rfl (by kernel_rfl)
  rw [show results Tryd.f16 tmps = (do return (← loadVar 38 (← asAddr (tmps[2]?.getD undef)))) from by simp [results], hp]
  simp [asAddr, hl]
/-- In StubOf: the world since w. -/
structure SbI (w wr : World) (e : Est) (s : Sst) : Prop where
  below : Below w.heap.size w wr
  box : Blk wr w.heap.size #[.int .i64 e.v, .int .i64 e.o, .int .i64 e.u, .int .u64 e.p, .int .i64 e.c, .int .i64 e.s, .int .i64 e.r, .int .i64 e.k, .string e.b]
  res : Blk wr (w.heap.size + 1) s.row
theorem SbI.later {w wr w' : World} {e : Est} {s : Sst} (h : SbI w wr e s) (hb : Below wr.heap.size wr w') : SbI w w' e s := ⟨h.below.trans (hb.mono h.below.size), h.box.later hb, h.res.later hb⟩
set_option maxRecDepth 100000 in
set_option maxHeartbeats 20000000 in
theorem stubof_any (e : Est) (w : World) (he : e.Ok) : Calls Tryd.prog 16 #[.agg e.row] w fun x w' => x = .returned (.agg (stubV e).row) ∧ Below w.heap.size w w' := by
  have HRT := Lib.hid (fun W => entright_any e.v e.o e.u e.p e.c e.s e.r e.k e.b W)
  have HMK := Lib.hid (fun W => markof_any e.v e.o e.u e.c e.s e.r e.k e.p e.b he.2 W)
  have H0 : Hid (SbI w ((w.alloc (.cells #[.int .i64 e.v, .int .i64 e.o, .int .i64 e.u, .int .u64 e.p, .int .i64 e.c, .int .i64 e.s, .int .i64 e.r, .int .i64 e.k, .string e.b] 35)).alloc (.cells Sst.zero.row 38)) e Sst.zero) := Lib.hid ⟨((Below.refl _ _).alloc (Nat.le_refl _) _).alloc (by simp) _, Blk.alloc (Blk.new _ _ _ _ rfl) _, Blk.new _ _ _ _ (by simp)⟩
  have HSV := Lib.hid (show stubV e = if e.B = true then ⟨e.o, e.v, e.u, e.p, e.sum⟩ else Sst.zero from rfl)
  unfold Est.row
  go_enter Tryd.func16, Tryd.ntmps16
  go_wp2_with fail
  refine (HRT.out _).mono ?_
  rintro x w1 ⟨rfl, hb1⟩
  have H1 := Lib.hid (H0.out.later hb1)
  clear hb1 H0
  rw [show entB e.v e.o e.u e.c e.s e.r e.k e.b = e.B from rfl]
  cases hB : e.B
  · rw [hB, if_neg (by simp)] at HSV
    obtain ⟨W2, st2, hz2, hB2, hbe2, hot2⟩ := refill (cs := Sst.zero.row) 38 H1.out.res rfl (by kernel_rfl) (Sst.row_one _)
    have st2 := Lib.hid st2
    have HB2 := Lib.hid hB2
    have HBE : Hid (Below w.heap.size w W2) := Lib.hid (H1.out.below.trans (hbe2 _ (by omega) H1.out.below.size))
    clear hB2 hbe2 hot2
    go_wp2_with (first | (guard_target =~ wpList _ _ _ (⟨_, Op.store _ (Operand.tmp 2) (Operand.tmp 6), _, _, _, _⟩ :: _) _ _; refine wpList_store_eq 38 (Operand.tmp 2) (Operand.tmp 6) rfl rfl st2.out rfl rfl ?_))
    exact bodyPost_ret (results_stub rfl HB2.out) rfl ⟨by rw [HSV.out], HBE.out⟩
  · rw [hB, if_pos rfl] at HSV
    go_wp2_with fail
    refine wp_region_noPanic ?_
    refine wp_region_held_drew (S := fun W => ∃ s, SbI w W e s) (by kernel_rfl) (show ∃ s, SbI w w1.drew e s from ⟨_, H1.out.later ⟨rfl, rfl, rfl, Nat.le_refl _, fun _ _ => rfl⟩⟩) (fun hHeld => ?_)
    have hHeld : SbI w w1.drew e Sst.zero := H1.out.later ⟨rfl, rfl, rfl, Nat.le_refl _, fun _ _ => rfl⟩
    generalize w1.drew = w2 at *
    refine wpAnyH_take (i := 0) (oi := { dst := some 7, op := _, type := _, pos := _, after := _, guard := _ }) (v := ?_) rfl (by kernel_rfl) (by kernel_rfl) (by kernel_rfl) (fun _ _ _ h => h) (Or.inl ⟨by rfl, ?_⟩) ⟨_, hHeld⟩ ?_
    rotate_left
    · intro W hSw
      obtain ⟨s0, hSw⟩ := hSw
      have d0 := (hSw.box.2 0 _ rfl).1
      have d1 := (hSw.box.2 1 _ rfl).1
      have d2 := (hSw.box.2 2 _ rfl).1
      have d3 := (hSw.box.2 3 _ rfl).1
      have d4 := (hSw.box.2 4 _ rfl).1
      have d5 := (hSw.box.2 5 _ rfl).1
      have d6 := (hSw.box.2 6 _ rfl).1
      have d7 := (hSw.box.2 7 _ rfl).1
      have d8 := (hSw.box.2 8 _ rfl).1
      go_simp
      first | done | rfl
    try simp only [Act.put, List.setIfInBounds_toArray, List.set_cons_zero, List.set_cons_succ]
    refine wpAnyH_take (i := 2) (oi := { dst := some 9, op := _, type := _, pos := _, after := _, guard := _ }) (v := ?_) rfl (by kernel_rfl) (by kernel_rfl) (by kernel_rfl) (fun _ _ _ h => h) (Or.inl ⟨by rfl, ?_⟩) ⟨_, hHeld⟩ ?_
    rotate_left
    · intro W hSw
      obtain ⟨s0, hSw⟩ := hSw
      have d0 := (hSw.box.2 0 _ rfl).1
      have d1 := (hSw.box.2 1 _ rfl).1
      have d2 := (hSw.box.2 2 _ rfl).1
      have d3 := (hSw.box.2 3 _ rfl).1
      have d4 := (hSw.box.2 4 _ rfl).1
      have d5 := (hSw.box.2 5 _ rfl).1
      have d6 := (hSw.box.2 6 _ rfl).1
      have d7 := (hSw.box.2 7 _ rfl).1
      have d8 := (hSw.box.2 8 _ rfl).1
      go_simp
      first | done | rfl
    try simp only [Act.put, List.setIfInBounds_toArray, List.set_cons_zero, List.set_cons_succ]
    refine wpAnyH_take (i := 4) (oi := { dst := some 11, op := _, type := _, pos := _, after := _, guard := _ }) (v := ?_) rfl (by kernel_rfl) (by kernel_rfl) (by kernel_rfl) (fun _ _ _ h => h) (Or.inl ⟨by rfl, ?_⟩) ⟨_, hHeld⟩ ?_
    rotate_left
    · intro W hSw
      obtain ⟨s0, hSw⟩ := hSw
      have d0 := (hSw.box.2 0 _ rfl).1
      have d1 := (hSw.box.2 1 _ rfl).1
      have d2 := (hSw.box.2 2 _ rfl).1
      have d3 := (hSw.box.2 3 _ rfl).1
      have d4 := (hSw.box.2 4 _ rfl).1
      have d5 := (hSw.box.2 5 _ rfl).1
      have d6 := (hSw.box.2 6 _ rfl).1
      have d7 := (hSw.box.2 7 _ rfl).1
      have d8 := (hSw.box.2 8 _ rfl).1
      go_simp
      first | done | rfl
    try simp only [Act.put, List.setIfInBounds_toArray, List.set_cons_zero, List.set_cons_succ]
    refine wpAnyH_take (i := 6) (oi := { dst := some 13, op := _, type := _, pos := _, after := _, guard := _ }) (v := ?_) rfl (by kernel_rfl) (by kernel_rfl) (by kernel_rfl) (fun _ _ _ h => h) (Or.inl ⟨by rfl, ?_⟩) ⟨_, hHeld⟩ ?_
    rotate_left
    · intro W hSw
      obtain ⟨s0, hSw⟩ := hSw
      have d0 := (hSw.box.2 0 _ rfl).1
      have d1 := (hSw.box.2 1 _ rfl).1
      have d2 := (hSw.box.2 2 _ rfl).1
      have d3 := (hSw.box.2 3 _ rfl).1
      have d4 := (hSw.box.2 4 _ rfl).1
      have d5 := (hSw.box.2 5 _ rfl).1
      have d6 := (hSw.box.2 6 _ rfl).1
      have d7 := (hSw.box.2 7 _ rfl).1
      have d8 := (hSw.box.2 8 _ rfl).1
      go_simp
      first | done | rfl
    try simp only [Act.put, List.setIfInBounds_toArray, List.set_cons_zero, List.set_cons_succ]
    refine wpAnyH_take (i := 8) (oi := { dst := some 15, op := _, type := _, pos := _, after := _, guard := _ }) (v := ?_) rfl (by kernel_rfl) (by kernel_rfl) (by kernel_rfl) (fun _ _ _ h => h) (Or.inl ⟨by rfl, ?_⟩) ⟨_, hHeld⟩ ?_
    rotate_left
    · intro W hSw
      obtain ⟨s0, hSw⟩ := hSw
      have d0 := (hSw.box.2 0 _ rfl).1
      have d1 := (hSw.box.2 1 _ rfl).1
      have d2 := (hSw.box.2 2 _ rfl).1
      have d3 := (hSw.box.2 3 _ rfl).1
      have d4 := (hSw.box.2 4 _ rfl).1
      have d5 := (hSw.box.2 5 _ rfl).1
      have d6 := (hSw.box.2 6 _ rfl).1
      have d7 := (hSw.box.2 7 _ rfl).1
      have d8 := (hSw.box.2 8 _ rfl).1
      go_simp
      first | done | rfl
    try simp only [Act.put, List.setIfInBounds_toArray, List.set_cons_zero, List.set_cons_succ]
    refine wpAnyH_take (i := 1) (oi := { dst := some 8, op := _, type := _, pos := _, after := _, guard := _ }) (v := ?_) rfl (by kernel_rfl) (by kernel_rfl) (by kernel_rfl) (fun _ _ _ h => h) (Or.inl ⟨by rfl, ?_⟩) ⟨_, hHeld⟩ ?_
    rotate_left
    · intro W hSw
      obtain ⟨s0, hSw⟩ := hSw
      have d0 := (hSw.box.2 0 _ rfl).1
      have d1 := (hSw.box.2 1 _ rfl).1
      have d2 := (hSw.box.2 2 _ rfl).1
      have d3 := (hSw.box.2 3 _ rfl).1
      have d4 := (hSw.box.2 4 _ rfl).1
      have d5 := (hSw.box.2 5 _ rfl).1
      have d6 := (hSw.box.2 6 _ rfl).1
      have d7 := (hSw.box.2 7 _ rfl).1
      have d8 := (hSw.box.2 8 _ rfl).1
      go_simp
      first | done | rfl
    try simp only [Act.put, List.setIfInBounds_toArray, List.set_cons_zero, List.set_cons_succ]
    refine wpAnyH_take (i := 3) (oi := { dst := some 10, op := _, type := _, pos := _, after := _, guard := _ }) (v := ?_) rfl (by kernel_rfl) (by kernel_rfl) (by kernel_rfl) (fun _ _ _ h => h) (Or.inl ⟨by rfl, ?_⟩) ⟨_, hHeld⟩ ?_
    rotate_left
    · intro W hSw
      obtain ⟨s0, hSw⟩ := hSw
      have d0 := (hSw.box.2 0 _ rfl).1
      have d1 := (hSw.box.2 1 _ rfl).1
      have d2 := (hSw.box.2 2 _ rfl).1
      have d3 := (hSw.box.2 3 _ rfl).1
      have d4 := (hSw.box.2 4 _ rfl).1
      have d5 := (hSw.box.2 5 _ rfl).1
      have d6 := (hSw.box.2 6 _ rfl).1
      have d7 := (hSw.box.2 7 _ rfl).1
      have d8 := (hSw.box.2 8 _ rfl).1
      go_simp
      first | done | rfl
    try simp only [Act.put, List.setIfInBounds_toArray, List.set_cons_zero, List.set_cons_succ]
    refine wpAnyH_take (i := 5) (oi := { dst := some 12, op := _, type := _, pos := _, after := _, guard := _ }) (v := ?_) rfl (by kernel_rfl) (by kernel_rfl) (by kernel_rfl) (fun _ _ _ h => h) (Or.inl ⟨by rfl, ?_⟩) ⟨_, hHeld⟩ ?_
    rotate_left
    · intro W hSw
      obtain ⟨s0, hSw⟩ := hSw
      have d0 := (hSw.box.2 0 _ rfl).1
      have d1 := (hSw.box.2 1 _ rfl).1
      have d2 := (hSw.box.2 2 _ rfl).1
      have d3 := (hSw.box.2 3 _ rfl).1
      have d4 := (hSw.box.2 4 _ rfl).1
      have d5 := (hSw.box.2 5 _ rfl).1
      have d6 := (hSw.box.2 6 _ rfl).1
      have d7 := (hSw.box.2 7 _ rfl).1
      have d8 := (hSw.box.2 8 _ rfl).1
      go_simp
      first | done | rfl
    try simp only [Act.put, List.setIfInBounds_toArray, List.set_cons_zero, List.set_cons_succ]
    refine wpAnyH_take (i := 7) (oi := { dst := some 14, op := _, type := _, pos := _, after := _, guard := _ }) (v := ?_) rfl (by kernel_rfl) (by kernel_rfl) (by kernel_rfl) (fun _ _ _ h => h) (Or.inl ⟨by rfl, ?_⟩) ⟨_, hHeld⟩ ?_
    rotate_left
    · intro W hSw
      obtain ⟨s0, hSw⟩ := hSw
      have d0 := (hSw.box.2 0 _ rfl).1
      have d1 := (hSw.box.2 1 _ rfl).1
      have d2 := (hSw.box.2 2 _ rfl).1
      have d3 := (hSw.box.2 3 _ rfl).1
      have d4 := (hSw.box.2 4 _ rfl).1
      have d5 := (hSw.box.2 5 _ rfl).1
      have d6 := (hSw.box.2 6 _ rfl).1
      have d7 := (hSw.box.2 7 _ rfl).1
      have d8 := (hSw.box.2 8 _ rfl).1
      go_simp
      first | done | rfl
    try simp only [Act.put, List.setIfInBounds_toArray, List.set_cons_zero, List.set_cons_succ]
    refine wpAnyH_ready (rs := [9]) (by kernel_rfl) (by simp) ?_
    refine AllReadyH.cons (o := { dst := some 16, op := _, type := _, pos := _, after := _, guard := _ }) rfl (fun K hK => ?_) AllReadyH.nil
    go_simp
    refine (HMK.out _).mono ?_
    rintro e wx ⟨rfl, hbx⟩
    have hS2 := hHeld.later hbx
    clear hbx
    refine hK.out _ _ ⟨_, hS2⟩ (fun _ => ?_)
    clear hK K
    try simp only [Act.put, List.setIfInBounds_toArray, List.set_cons_zero, List.set_cons_succ]
    refine wpAnyH_take (i := 10) (oi := { dst := some 17, op := _, type := _, pos := _, after := _, guard := _ }) (v := ?_) rfl (by kernel_rfl) (by kernel_rfl) (by kernel_rfl) (fun _ _ _ h => h) (Or.inl ⟨by rfl, ?_⟩) ⟨_, hS2⟩ ?_
    rotate_left
    · intro W hSw
      obtain ⟨s0, hSw⟩ := hSw
      have d0 := (hSw.box.2 0 _ rfl).1
      have d1 := (hSw.box.2 1 _ rfl).1
      have d2 := (hSw.box.2 2 _ rfl).1
      have d3 := (hSw.box.2 3 _ rfl).1
      have d4 := (hSw.box.2 4 _ rfl).1
      have d5 := (hSw.box.2 5 _ rfl).1
      have d6 := (hSw.box.2 6 _ rfl).1
      have d7 := (hSw.box.2 7 _ rfl).1
      have d8 := (hSw.box.2 8 _ rfl).1
      go_simp
      first | done | rfl
    try simp only [Act.put, List.setIfInBounds_toArray, List.set_cons_zero, List.set_cons_succ]
    refine wpAnyH_take (i := 11) (oi := { dst := some 18, op := _, type := _, pos := _, after := _, guard := _ }) (v := ?_) rfl (by kernel_rfl) (by kernel_rfl) (by kernel_rfl) (fun _ _ _ h => h) (Or.inl ⟨by rfl, ?_⟩) ⟨_, hS2⟩ ?_
    rotate_left
    · intro W hSw
      obtain ⟨s0, hSw⟩ := hSw
      have d0 := (hSw.box.2 0 _ rfl).1
      have d1 := (hSw.box.2 1 _ rfl).1
      have d2 := (hSw.box.2 2 _ rfl).1
      have d3 := (hSw.box.2 3 _ rfl).1
      have d4 := (hSw.box.2 4 _ rfl).1
      have d5 := (hSw.box.2 5 _ rfl).1
      have d6 := (hSw.box.2 6 _ rfl).1
      have d7 := (hSw.box.2 7 _ rfl).1
      have d8 := (hSw.box.2 8 _ rfl).1
      go_simp
      first | done | rfl
    try simp only [Act.put, List.setIfInBounds_toArray, List.set_cons_zero, List.set_cons_succ]
    refine wpAnyH_ready (rs := [12]) (by kernel_rfl) (by simp) ?_
    refine AllReadyH.cons (o := { dst := none, op := _, type := _, pos := _, after := _, guard := _ }) rfl (fun K hK => ?_) AllReadyH.nil
    obtain ⟨W2, st2, hz2, hB2, hbe2, hot2⟩ := refill (cs := (⟨e.o, e.v, e.u, e.p, e.sum⟩ : Sst).row) 38 hS2.res rfl (by kernel_rfl) (Sst.row_one _)
    have hS3 : SbI w W2 e ⟨e.o, e.v, e.u, e.p, e.sum⟩ := ⟨hS2.below.trans (hbe2 _ (by omega) hS2.below.size), hot2 _ _ (by omega) hS2.box, hB2⟩
    have HBE := Lib.hid hS3.below
    clear hbe2 hot2 hz2
    refine wp_store_eq 38 (Operand.tmp 2) (Operand.tmp 18) rfl st2 rfl rfl ?_
    refine hK.out _ _ ⟨_, hS3⟩ (fun _ => ?_)
    clear hK K
    try simp only [Act.put, List.setIfInBounds_toArray, List.set_cons_zero, List.set_cons_succ]
    refine wpAnyH_done (by kernel_rfl) ?_ _
    refine NoPanic.normal ?_
    go_wp2_with fail
    exact bodyPost_ret (results_stub rfl hB2) rfl ⟨by rw [HSV.out], HBE.out⟩

end Go.Proofs.YtpbjjmenkoigjaaDoor
end

section
namespace Go.Proofs.YtpbjjmenkoigjaaDoor
open Go.RowKit
set_option linter.unusedVariables false
def Sst.B (s : Sst) : Bool := decide (1 ≤ s.o ∧ s.o ≤ 72057594037927935 ∧ 0 ≤ s.u ∧ s.u ≤ s.v ∧ s.v ≤ 72057594037927935)
set_option maxRecDepth 100000 in
set_option maxHeartbeats 20000000 in
theorem sright_any (s : Sst) (w : World) : Calls Tryd.prog 81 #[.agg s.row] w fun x w' => x = .returned (.bool s.B) ∧ Below w.heap.size w w' := by
  have HBE : Hid (Below w.heap.size w (w.alloc (.cells #[.int .i64 s.o, .int .i64 s.v, .int .i64 s.u, .int .u64 s.p, .int .u64 s.s] 38))) := Lib.hid ((Below.refl _ _).alloc (Nat.le_refl _) _)
  unfold Sst.row
  go_enter Tryd.func81, Tryd.ntmps81
  by_cases k0 : 1 ≤ s.o
  · by_cases k1 : s.o ≤ 72057594037927935
    · by_cases k2 : 0 ≤ s.u
      · by_cases k3 : s.u ≤ s.v
        · by_cases k4 : s.v ≤ 72057594037927935
          · have HV := Lib.hid (decide_eq_true (show 1 ≤ s.o ∧ s.o ≤ 72057594037927935 ∧ 0 ≤ s.u ∧ s.u ≤ s.v ∧ s.v ≤ 72057594037927935 from ⟨k0, k1, k2, k3, k4⟩))
            go_wp2_with fail
            go_ret
            exact ⟨by unfold Sst.B; rw [HV.out]; rfl, HBE.out⟩
          · have HV := Lib.hid (decide_eq_false (show ¬ (1 ≤ s.o ∧ s.o ≤ 72057594037927935 ∧ 0 ≤ s.u ∧ s.u ≤ s.v ∧ s.v ≤ 72057594037927935) from fun q => k4 q.2.2.2.2))
            go_wp2_with fail
            go_ret
            exact ⟨by unfold Sst.B; rw [HV.out]; rfl, HBE.out⟩
        · have HV := Lib.hid (decide_eq_false (show ¬ (1 ≤ s.o ∧ s.o ≤ 72057594037927935 ∧ 0 ≤ s.u ∧ s.u ≤ s.v ∧ s.v ≤ 72057594037927935) from fun q => k3 q.2.2.2.1))
          go_wp2_with fail
          go_ret
          exact ⟨by unfold Sst.B; rw [HV.out]; rfl, HBE.out⟩
      · have HV := Lib.hid (decide_eq_false (show ¬ (1 ≤ s.o ∧ s.o ≤ 72057594037927935 ∧ 0 ≤ s.u ∧ s.u ≤ s.v ∧ s.v ≤ 72057594037927935) from fun q => k2 q.2.2.1))
        go_wp2_with fail
        go_ret
        exact ⟨by unfold Sst.B; rw [HV.out]; rfl, HBE.out⟩
    · have HV := Lib.hid (decide_eq_false (show ¬ (1 ≤ s.o ∧ s.o ≤ 72057594037927935 ∧ 0 ≤ s.u ∧ s.u ≤ s.v ∧ s.v ≤ 72057594037927935) from fun q => k1 q.2.1))
      go_wp2_with fail
      go_ret
      exact ⟨by unfold Sst.B; rw [HV.out]; rfl, HBE.out⟩
  · have HV := Lib.hid (decide_eq_false (show ¬ (1 ≤ s.o ∧ s.o ≤ 72057594037927935 ∧ 0 ≤ s.u ∧ s.u ≤ s.v ∧ s.v ≤ 72057594037927935) from fun q => k0 q.1))
    go_wp2_with fail
    go_ret
    exact ⟨by unfold Sst.B; rw [HV.out]; rfl, HBE.out⟩

def headE (s : Sst) : Int := if s.B = true then 0 else 4
set_option maxRecDepth 100000 in
set_option maxHeartbeats 20000000 in
theorem sheader_any (s : Sst) (w : World) (hs : s.Ok) : Calls Tryd.prog 74 #[.string ⟨#[]⟩, .agg s.row] w fun x w' => (∃ t, x = .returned (.tuple #[.string t, .int .i64 (headE s)])) ∧ Below w.heap.size w w' := by
  have HRT := Lib.hid (fun W => sright_any s W)
  have H0 : Hid (Below w.heap.size w (w.alloc (.cells #[.int .i64 s.o, .int .i64 s.v, .int .i64 s.u, .int .u64 s.p, .int .u64 s.s] 38)) ∧ Blk (w.alloc (.cells #[.int .i64 s.o, .int .i64 s.v, .int .i64 s.u, .int .u64 s.p, .int .u64 s.s] 38)) w.heap.size #[.int .i64 s.o, .int .i64 s.v, .int .i64 s.u, .int .u64 s.p, .int .u64 s.s]) := Lib.hid ⟨(Below.refl _ _).alloc (Nat.le_refl _) _, Blk.new _ _ _ _ rfl⟩
  have HSV := Lib.hid (show headE s = if s.B = true then 0 else 4 from rfl)
  have HOK := Lib.hid hs
  clear hs
  unfold Sst.row at HRT ⊢
  go_enter Tryd.func74, Tryd.ntmps74
  go_wp2_with fail
  refine (HRT.out _).mono ?_
  rintro x w1 ⟨rfl, hb1⟩
  have H1 := Lib.hid (And.intro (H0.out.1.trans (hb1.mono H0.out.1.size)) (H0.out.2.later hb1))
  clear hb1 H0
  cases hB : s.B
  · rw [hB, if_neg (by simp)] at HSV
    go_wp2_with fail
    go_ret2
    exact ⟨⟨⟨#[]⟩, by rw [HSV.out]; rfl⟩, H1.out.1⟩
  · rw [hB, if_pos rfl] at HSV
    have hb := of_decide_eq_true hB
    have hok := HOK.out.2
    obtain ⟨o, v, u, p, c⟩ := s
    simp only at hb hok H1
    obtain ⟨o, rfl⟩ : ∃ n : Nat, o = n := ⟨o.toNat, by omega⟩
    obtain ⟨v, rfl⟩ : ∃ n : Nat, v = n := ⟨v.toNat, by omega⟩
    obtain ⟨u, rfl⟩ : ∃ n : Nat, u = n := ⟨u.toNat, by omega⟩
    obtain ⟨p, rfl⟩ : ∃ n : Nat, p = n := ⟨p.toNat, by omega⟩
    obtain ⟨c, rfl⟩ : ∃ n : Nat, c = n := ⟨c.toNat, by omega⟩
    have c0 := (H1.out.2.2 0 _ rfl).1
    have c1 := (H1.out.2.2 1 _ rfl).1
    have c2 := (H1.out.2.2 2 _ rfl).1
    have c3 := (H1.out.2.2 3 _ rfl).1
    have c4 := (H1.out.2.2 4 _ rfl).1
    have e0 := wrap_u64_of o (by omega)
    have e1 := wrap_u64_of v (by omega)
    have e2 := wrap_u64_of u (by omega)
    have H2 : Hid (Below w.heap.size w (w1.alloc (.cells #[.int .u64 o, .int .u64 v, .int .u64 u, .int .u64 p, .int .u64 c] 25)) ∧ Blk (w1.alloc (.cells #[.int .u64 o, .int .u64 v, .int .u64 u, .int .u64 p, .int .u64 c] 25)) w1.heap.size #[.int .u64 o, .int .u64 v, .int .u64 u, .int .u64 p, .int .u64 c] ∧ w.heap.size ≤ w1.heap.size) := Lib.hid ⟨H1.out.1.alloc H1.out.1.size _, Blk.new _ _ _ _ rfl, H1.out.1.size⟩
    have HRNG := Lib.hid (And.intro hb hok)
    clear hB hb hok HRT HOK
    go_wp2_with fail
    generalize w1.alloc (.cells #[.int .u64 o, .int .u64 v, .int .u64 u, .int .u64 p, .int .u64 c] 25) = w2 at *
    clear c0 c1 c2 c3 c4 e0 e1 e2 H1
    go_loopw [6, 27] (fun bv iv wr => ∃ (j cap : Nat) (ad : Option Addr) (L : List Nat), j ≤ 5 ∧ iv = .int .i64 (j : Int) ∧ bv = .slice ad L.length cap ∧ L.length = 8 * j ∧ Holds wr bv L ∧ Below w.heap.size w wr ∧ Blk wr w1.heap.size #[.int .u64 o, .int .u64 v, .int .u64 u, .int .u64 p, .int .u64 c]) (fun _ iv _ => 5 - (intOf iv).toNat)
    case atStart => exact ⟨0, 0, none, [], by omega, rfl, rfl, rfl, Holds.nil _, H2.out.1, H2.out.2.1⟩
    case round =>
      obtain ⟨j, cap, ad, L, hj, rfl, rfl, hL, hH, hb, hB⟩ := hrel
      have HH := Lib.hid hH
      have HB := Lib.hid (And.intro hb hB)
      by_cases hlt : j < 5
      · obtain ⟨x, hx, hxl⟩ : ∃ x : Nat, #[Value.int .u64 o, .int .u64 v, .int .u64 u, .int .u64 p, .int .u64 c][j]? = some (.int .u64 (x : Int)) ∧ x < 18446744073709551616 := by
          have hr := HRNG.out
          match j, hlt with
          | 0, _ => exact ⟨o, rfl, by omega⟩
          | 1, _ => exact ⟨v, rfl, by omega⟩
          | 2, _ => exact ⟨u, rfl, by omega⟩
          | 3, _ => exact ⟨p, rfl, by omega⟩
          | 4, _ => exact ⟨c, rfl, by omega⟩
        have cj := (hB.2 j _ hx).1
        have HP := Lib.hid (put_ok ad cap L x 8 wr hH hxl (by decide) (by decide) (.inl rfl) (by omega))
        clear hx hH hb hB
        obtain ⟨N, hN⟩ : ∃ N, N = L.length := ⟨_, rfl⟩
        rw [← hN] at HP ⊢
        have HN := Lib.hid hN
        have HL := Lib.hid hL
        clear hN hL
        go_wp2_with fail
        refine HP.out.mono ?_
        rintro e w3 ⟨v', rfl, hF, hb3⟩
        obtain ⟨_, cap', ad', rfl⟩ : True ∧ ∃ cap' ad', v' = .slice ad' (L ++ leN x 8).length cap' := by
          obtain ⟨_, p', cap', hv, _⟩ := hF.holds
          exact ⟨trivial, cap', p', by rw [hv, u8s_length]⟩
        have H3 := Lib.hid (And.intro hF.holds (And.intro (HB.out.1.trans (hb3.mono HB.out.1.size)) (HB.out.2.later hb3)))
        have HLN : Hid ((L ++ leN x 8).length = 8 * (j + 1)) := Lib.hid (by rw [List.length_append, leN_length, HL.out]; omega)
        clear hF hb3 HB cj
        generalize L ++ leN x 8 = L' at *
        obtain ⟨N', hN'⟩ : ∃ N, N = L'.length := ⟨_, rfl⟩
        have HN' := Lib.hid hN'
        rw [← hN']
        rw [← hN'] at H3
        clear hN'
        go_wp2_with fail
        go_roundw
        case rel => exact ⟨j + 1, cap', ad', L', by omega, by go_num, by rw [HN'.out], HLN.out, H3.out.1, H3.out.2.1, H3.out.2.2⟩
        case measure => simp [intOf]; omega
      · obtain rfl : j = 5 := by omega
        have HT := Lib.hid (run_text wr ad L.length cap L hH)
        have HSZ : Hid ((text L).size ≤ 376) := Lib.hid (by rw [text_size]; omega)
        obtain ⟨N, hN⟩ : ∃ N, N = L.length := ⟨_, rfl⟩
        rw [← hN] at HT ⊢
        have HN := Lib.hid hN
        have HSEAL := Lib.hid (seal_ok ⟨#[]⟩ (text L) wr HSZ.out (by decide))
        clear hN hL hH hB hb
        generalize text L = TX at *
        have ht := HT.out
        go_wp2_with fail
        refine HSEAL.out.mono ?_
        rintro e w3 ⟨rfl, hb3⟩
        have HBE := Lib.hid (HB.out.1.trans (hb3.mono HB.out.1.size))
        clear hb3
        go_wp2_with fail
        go_ret2
        exact ⟨⟨_, by rw [HSV.out]; rfl⟩, HBE.out⟩
end Go.Proofs.YtpbjjmenkoigjaaDoor
end

section
namespace Go.Proofs.YtpbjjmenkoigjaaDoor
open Go.RowKit
set_option linter.unusedVariables false
theorem exec_load {P : Program} {op : Oper} {a : Act} {w : World} (ty : TypeId) (x : Operand) (ho : op.op = .load ty x) {p v : Value} (hx : a.eval x = p) (hl : (Instr.loadAt ty p).run P w = .ok v w) :
    (execOp a.eval op).run P w = .ok (.value v) w := by
  unfold execOp
  simp only [ho, hx, Sem.run_bind, Sem.run_pure, Result.andThen_ok, hl]
theorem exec_eql {op : Oper} {a : Act} {w : World} (T T2 : TypeId) (x y : Operand) (ho : op.op = .binOp .eql T x y T2)
    {xs ys : Array Value} {v : Bool} (hx : a.eval x = .agg xs) (hy : a.eval y = .agg ys) (hl : EqFact T xs ys v) :
    (execOp a.eval op).run Tryd.prog w = .ok (.value (.bool v)) w := by
  unfold execOp
  have := hl x y w
  simp only [Sem.run_bind] at this
  simp only [ho, hx, hy, Sem.run_bind, Sem.run_pure, this, Result.andThen_ok]
theorem it_ldS {x : Ist} {b : Nat} {w : World} (h : Blk w b x.row) : (Instr.loadAt 38 (.pointer (some ⟨b, 1, none⟩))).run Tryd.prog w = .ok (.agg x.s.row) w :=
  load_at (cs := x.s.row) (o := 1) 38 _ (h.midrange 1 _ (fun k hk => by match k, hk with | 0, _ => rfl | 1, _ => rfl | 2, _ => rfl | 3, _ => rfl | 4, _ => rfl)) Tryd.underlying38 rfl (by kernel_rfl)
theorem it_ldE {x : Ist} {b : Nat} {w : World} (h : Blk w b x.row) : (Instr.loadAt 35 (.pointer (some ⟨b, 6, none⟩))).run Tryd.prog w = .ok (.agg x.e.row) w :=
  load_at (cs := x.e.row) (o := 6) 35 _ (h.midrange 6 _ (fun k hk => by match k, hk with | 0, _ => rfl | 1, _ => rfl | 2, _ => rfl | 3, _ => rfl | 4, _ => rfl | 5, _ => rfl | 6, _ => rfl | 7, _ => rfl | 8, _ => rfl)) Tryd.underlying35 rfl (by kernel_rfl)
def itemB (x : Ist) : Bool :=
  if x.k = 0 ∨ x.k = 3 then decide (x.s = Sst.zero) && decide (x.e = Est.zero)
  else if x.k = 1 then x.e.B && decide (stubV x.e = x.s)
  else if x.k = 2 then x.s.B && decide (x.e = Est.zero)
  else false
set_option maxRecDepth 100000 in
set_option maxHeartbeats 20000000 in
theorem item_any (x : Ist) (w : World) (hx : x.Ok) : Calls Tryd.prog 64 #[.agg x.row] w fun y w' => y = .returned (.bool (itemB x)) ∧ Below w.heap.size w w' := by
  have HRT := Lib.hid (fun W => entright_any x.e.v x.e.o x.e.u x.e.p x.e.c x.e.s x.e.r x.e.k x.e.b W)
  have HSB := Lib.hid (fun W => stubof_any x.e W hx.2)
  have HHD := Lib.hid (fun W => sheader_any x.s W hx.1)
  have H0 : Hid (Below w.heap.size w (w.alloc (.cells x.row 40)) ∧ Blk (w.alloc (.cells x.row 40)) w.heap.size x.row) := Lib.hid ⟨(Below.refl _ _).alloc (Nat.le_refl _) _, Blk.new _ _ _ _ rfl⟩
  have c0 : (w.alloc (.cells x.row 40)).cell? ⟨w.heap.size, 0, none⟩ = some (.int .i64 x.k) := (H0.out.2.2 0 _ rfl).1
  go_enter Tryd.func64, Tryd.ntmps64
  by_cases k0 : x.k = 0 ∨ x.k = 3
  · have HV : Hid (itemB x = (decide (x.s = Sst.zero) && decide (x.e = Est.zero))) := Lib.hid (if_pos k0)
    have lS := Lib.hid (it_ldS H0.out.2)
    have lE := Lib.hid (it_ldE H0.out.2)
    have eS := Lib.hid (eq_sst x.s Sst.zero)
    have eE := Lib.hid (eq_est x.e Est.zero)
    generalize decide (x.s = Sst.zero) = v1 at *
    generalize decide (x.e = Est.zero) = v2 at *
    rcases k0 with k | k
    all_goals
      rw [k] at c0
      cases v1
      · go_wp2_with (first | (guard_target =~ wpList _ _ _ (⟨_, Op.load _ (Operand.tmp 10), _, _, _, _⟩ :: _) _ _; refine wpList_load_w 38 (Operand.tmp 10) (by kernel_rfl) rfl lS.out rfl ?_) | (guard_target =~ wpList _ _ _ (⟨_, Op.load _ (Operand.tmp 15), _, _, _, _⟩ :: _) _ _; refine wpList_load_w 35 (Operand.tmp 15) (by kernel_rfl) rfl lE.out rfl ?_) | (guard_target =~ wpList _ _ _ (⟨_, Op.binOp _ _ (Operand.tmp 11) (Operand.tmp 12) _, _, _, _, _⟩ :: _) _ _; refine wpList_eql 38 _ (Operand.tmp 11) (Operand.tmp 12) (by kernel_rfl) rfl eS.out rfl rfl ?_) | (guard_target =~ wpList _ _ _ (⟨_, Op.binOp _ _ (Operand.tmp 16) (Operand.tmp 17) _, _, _, _, _⟩ :: _) _ _; refine wpList_eql 35 _ (Operand.tmp 16) (Operand.tmp 17) (by kernel_rfl) rfl eE.out rfl rfl ?_))
        go_ret
        exact ⟨by rw [HV.out]; rfl, H0.out.1⟩
      · go_wp2_with (first | (guard_target =~ wpList _ _ _ (⟨_, Op.load _ (Operand.tmp 10), _, _, _, _⟩ :: _) _ _; refine wpList_load_w 38 (Operand.tmp 10) (by kernel_rfl) rfl lS.out rfl ?_) | (guard_target =~ wpList _ _ _ (⟨_, Op.load _ (Operand.tmp 15), _, _, _, _⟩ :: _) _ _; refine wpList_load_w 35 (Operand.tmp 15) (by kernel_rfl) rfl lE.out rfl ?_) | (guard_target =~ wpList _ _ _ (⟨_, Op.binOp _ _ (Operand.tmp 11) (Operand.tmp 12) _, _, _, _, _⟩ :: _) _ _; refine wpList_eql 38 _ (Operand.tmp 11) (Operand.tmp 12) (by kernel_rfl) rfl eS.out rfl rfl ?_) | (guard_target =~ wpList _ _ _ (⟨_, Op.binOp _ _ (Operand.tmp 16) (Operand.tmp 17) _, _, _, _, _⟩ :: _) _ _; refine wpList_eql 35 _ (Operand.tmp 16) (Operand.tmp 17) (by kernel_rfl) rfl eE.out rfl rfl ?_))
        go_ret
        exact ⟨by rw [HV.out]; rfl, H0.out.1⟩
  · by_cases k1 : x.k = 1
    · have HV : Hid (itemB x = (x.e.B && decide (stubV x.e = x.s))) := Lib.hid ((if_neg k0).trans (if_pos k1))
      rw [k1] at c0
      go_wp2_with fail
      clear c0
      generalize w.alloc (.cells x.row 40) = W0 at *
      cases hB : x.e.B
      · refine wp_region_noPanic ?_
        refine wp_region_held_drew (S := fun W => Below w.heap.size w W ∧ Blk W w.heap.size x.row) (by kernel_rfl) (show Below w.heap.size w W0.drew ∧ Blk W0.drew w.heap.size x.row from ⟨H0.out.1.trans ⟨rfl, rfl, rfl, Nat.le_refl _, fun _ _ => rfl⟩, H0.out.2.later ⟨rfl, rfl, rfl, Nat.le_refl _, fun _ _ => rfl⟩⟩) (fun hHeld => ?_)
        generalize W0.drew = w2 at *
        refine wpAnyH_take (i := 0) (oi := { dst := some 22, op := _, type := _, pos := _, after := _, guard := _ }) (v := ?_) rfl (by kernel_rfl) (by kernel_rfl) (by kernel_rfl) (fun _ _ _ h => h) (Or.inl ⟨by rfl, ?_⟩) hHeld ?_
        rotate_left
        · intro W hSw
          skip
          go_simp
          first | done | rfl
        try simp only [Act.put, List.setIfInBounds_toArray, List.set_cons_zero, List.set_cons_succ]
        refine wpAnyH_take (i := 1) (oi := { dst := some 23, op := _, type := _, pos := _, after := _, guard := _ }) (v := .agg x.e.row) rfl (by kernel_rfl) (by kernel_rfl) (by kernel_rfl) (fun _ _ _ h => h) (Or.inl ⟨by rfl, ?_⟩) hHeld ?_
        · intro W hSw
          skip
          exact exec_load 35 (Operand.tmp 22) rfl rfl (it_ldE hSw.2)
        try simp only [Act.put, List.setIfInBounds_toArray, List.set_cons_zero, List.set_cons_succ]
        refine wpAnyH_ready (rs := [2]) (by kernel_rfl) (by simp) ?_
        refine AllReadyH.cons (o := { dst := some 24, op := _, type := _, pos := _, after := _, guard := _ }) rfl (fun K hK => ?_) AllReadyH.nil
        go_simp
        refine (HRT.out _).mono ?_
        rintro e wx ⟨rfl, hbx⟩
        have hS2 : Below w.heap.size w wx ∧ Blk wx w.heap.size x.row := ⟨hHeld.1.trans (hbx.mono hHeld.1.size), hHeld.2.later hbx⟩
        clear hbx
        refine hK.out _ _ hS2 (fun _ => ?_)
        rw [show entB x.e.v x.e.o x.e.u x.e.c x.e.s x.e.r x.e.k x.e.b = _ from hB]
        clear hK K
        try simp only [Act.put, List.setIfInBounds_toArray, List.set_cons_zero, List.set_cons_succ]
        refine wpAnyH_take (i := 3) (oi := { dst := some 25, op := _, type := _, pos := _, after := _, guard := _ }) (v := ?_) rfl (by kernel_rfl) (by kernel_rfl) (by kernel_rfl) (fun _ _ _ h => h) (Or.inl ⟨by rfl, ?_⟩) hS2 ?_
        rotate_left
        · intro W hSw
          skip
          go_simp
          first | done | rfl
        try simp only [Act.put, List.setIfInBounds_toArray, List.set_cons_zero, List.set_cons_succ]
        refine wpAnyH_take (i := 4) (oi := { dst := some 26, op := _, type := _, pos := _, after := _, guard := _ }) (v := undef) rfl (by kernel_rfl) (by kernel_rfl) (by kernel_rfl) (fun _ _ _ h => h) (Or.inr ⟨by rfl, rfl⟩) hS2 ?_
        try simp only [Act.put, List.setIfInBounds_toArray, List.set_cons_zero, List.set_cons_succ]
        refine wpAnyH_take (i := 7) (oi := { dst := some 29, op := _, type := _, pos := _, after := _, guard := _ }) (v := undef) rfl (by kernel_rfl) (by kernel_rfl) (by kernel_rfl) (fun _ _ _ h => h) (Or.inr ⟨by rfl, rfl⟩) hS2 ?_
        try simp only [Act.put, List.setIfInBounds_toArray, List.set_cons_zero, List.set_cons_succ]
        refine wpAnyH_take (i := 5) (oi := { dst := some 27, op := _, type := _, pos := _, after := _, guard := _ }) (v := undef) rfl (by kernel_rfl) (by kernel_rfl) (by kernel_rfl) (fun _ _ _ h => h) (Or.inr ⟨by rfl, rfl⟩) hS2 ?_
        try simp only [Act.put, List.setIfInBounds_toArray, List.set_cons_zero, List.set_cons_succ]
        refine wpAnyH_take (i := 8) (oi := { dst := some 30, op := _, type := _, pos := _, after := _, guard := _ }) (v := undef) rfl (by kernel_rfl) (by kernel_rfl) (by kernel_rfl) (fun _ _ _ h => h) (Or.inr ⟨by rfl, rfl⟩) hS2 ?_
        try simp only [Act.put, List.setIfInBounds_toArray, List.set_cons_zero, List.set_cons_succ]
        refine wpAnyH_take (i := 6) (oi := { dst := some 28, op := _, type := _, pos := _, after := _, guard := _ }) (v := undef) rfl (by kernel_rfl) (by kernel_rfl) (by kernel_rfl) (fun _ _ _ h => h) (Or.inr ⟨by rfl, rfl⟩) hS2 ?_
        try simp only [Act.put, List.setIfInBounds_toArray, List.set_cons_zero, List.set_cons_succ]
        refine wpAnyH_take (i := 9) (oi := { dst := some 31, op := _, type := _, pos := _, after := _, guard := _ }) (v := undef) rfl (by kernel_rfl) (by kernel_rfl) (by kernel_rfl) (fun _ _ _ h => h) (Or.inr ⟨by rfl, rfl⟩) hS2 ?_
        try simp only [Act.put, List.setIfInBounds_toArray, List.set_cons_zero, List.set_cons_succ]
        refine wpAnyH_take (i := 10) (oi := { dst := some 32, op := _, type := _, pos := _, after := _, guard := _ }) (v := ?_) rfl (by kernel_rfl) (by kernel_rfl) (by kernel_rfl) (fun _ _ _ h => h) (Or.inl ⟨by rfl, ?_⟩) hS2 ?_
        rotate_left
        · intro W hSw
          skip
          go_simp
          first | done | rfl
        try simp only [Act.put, List.setIfInBounds_toArray, List.set_cons_zero, List.set_cons_succ]
        refine wpAnyH_take (i := 11) (oi := { dst := some 2, op := _, type := _, pos := _, after := _, guard := _ }) (v := ?_) rfl (by kernel_rfl) (by kernel_rfl) (by kernel_rfl) (fun _ _ _ h => h) (Or.inl ⟨by rfl, ?_⟩) hS2 ?_
        rotate_left
        · intro W hSw
          skip
          go_simp
          first | done | rfl
        try simp only [Act.put, List.setIfInBounds_toArray, List.set_cons_zero, List.set_cons_succ]
        refine wpAnyH_done (by kernel_rfl) ?_ _
        refine NoPanic.normal ?_
        go_wp2_with fail
        go_ret
        exact ⟨by rw [HV.out, hB]; rfl, hS2.1⟩

      · refine wp_region_noPanic ?_
        refine wp_region_held_drew (S := fun W => Below w.heap.size w W ∧ Blk W w.heap.size x.row) (by kernel_rfl) (show Below w.heap.size w W0.drew ∧ Blk W0.drew w.heap.size x.row from ⟨H0.out.1.trans ⟨rfl, rfl, rfl, Nat.le_refl _, fun _ _ => rfl⟩, H0.out.2.later ⟨rfl, rfl, rfl, Nat.le_refl _, fun _ _ => rfl⟩⟩) (fun hHeld => ?_)
        generalize W0.drew = w2 at *
        refine wpAnyH_take (i := 0) (oi := { dst := some 22, op := _, type := _, pos := _, after := _, guard := _ }) (v := ?_) rfl (by kernel_rfl) (by kernel_rfl) (by kernel_rfl) (fun _ _ _ h => h) (Or.inl ⟨by rfl, ?_⟩) hHeld ?_
        rotate_left
        · intro W hSw
          skip
          go_simp
          first | done | rfl
        try simp only [Act.put, List.setIfInBounds_toArray, List.set_cons_zero, List.set_cons_succ]
        refine wpAnyH_take (i := 1) (oi := { dst := some 23, op := _, type := _, pos := _, after := _, guard := _ }) (v := .agg x.e.row) rfl (by kernel_rfl) (by kernel_rfl) (by kernel_rfl) (fun _ _ _ h => h) (Or.inl ⟨by rfl, ?_⟩) hHeld ?_
        · intro W hSw
          skip
          exact exec_load 35 (Operand.tmp 22) rfl rfl (it_ldE hSw.2)
        try simp only [Act.put, List.setIfInBounds_toArray, List.set_cons_zero, List.set_cons_succ]
        refine wpAnyH_ready (rs := [2]) (by kernel_rfl) (by simp) ?_
        refine AllReadyH.cons (o := { dst := some 24, op := _, type := _, pos := _, after := _, guard := _ }) rfl (fun K hK => ?_) AllReadyH.nil
        go_simp
        refine (HRT.out _).mono ?_
        rintro e wx ⟨rfl, hbx⟩
        have hS2 : Below w.heap.size w wx ∧ Blk wx w.heap.size x.row := ⟨hHeld.1.trans (hbx.mono hHeld.1.size), hHeld.2.later hbx⟩
        clear hbx
        refine hK.out _ _ hS2 (fun _ => ?_)
        rw [show entB x.e.v x.e.o x.e.u x.e.c x.e.s x.e.r x.e.k x.e.b = _ from hB]
        clear hK K
        try simp only [Act.put, List.setIfInBounds_toArray, List.set_cons_zero, List.set_cons_succ]
        refine wpAnyH_take (i := 3) (oi := { dst := some 25, op := _, type := _, pos := _, after := _, guard := _ }) (v := ?_) rfl (by kernel_rfl) (by kernel_rfl) (by kernel_rfl) (fun _ _ _ h => h) (Or.inl ⟨by rfl, ?_⟩) hS2 ?_
        rotate_left
        · intro W hSw
          skip
          go_simp
          first | done | rfl
        try simp only [Act.put, List.setIfInBounds_toArray, List.set_cons_zero, List.set_cons_succ]
        refine wpAnyH_take (i := 4) (oi := { dst := some 26, op := _, type := _, pos := _, after := _, guard := _ }) (v := ?_) rfl (by kernel_rfl) (by kernel_rfl) (by kernel_rfl) (fun _ _ _ h => h) (Or.inl ⟨by rfl, ?_⟩) hS2 ?_
        rotate_left
        · intro W hSw
          skip
          go_simp
          first | done | rfl
        try simp only [Act.put, List.setIfInBounds_toArray, List.set_cons_zero, List.set_cons_succ]
        refine wpAnyH_take (i := 7) (oi := { dst := some 29, op := _, type := _, pos := _, after := _, guard := _ }) (v := ?_) rfl (by kernel_rfl) (by kernel_rfl) (by kernel_rfl) (fun _ _ _ h => h) (Or.inl ⟨by rfl, ?_⟩) hS2 ?_
        rotate_left
        · intro W hSw
          skip
          go_simp
          first | done | rfl
        try simp only [Act.put, List.setIfInBounds_toArray, List.set_cons_zero, List.set_cons_succ]
        refine wpAnyH_take (i := 5) (oi := { dst := some 27, op := _, type := _, pos := _, after := _, guard := _ }) (v := .agg x.e.row) rfl (by kernel_rfl) (by kernel_rfl) (by kernel_rfl) (fun _ _ _ h => h) (Or.inl ⟨by rfl, ?_⟩) hS2 ?_
        · intro W hSw
          skip
          exact exec_load 35 (Operand.tmp 26) rfl rfl (it_ldE hSw.2)
        try simp only [Act.put, List.setIfInBounds_toArray, List.set_cons_zero, List.set_cons_succ]
        refine wpAnyH_take (i := 8) (oi := { dst := some 30, op := _, type := _, pos := _, after := _, guard := _ }) (v := .agg x.s.row) rfl (by kernel_rfl) (by kernel_rfl) (by kernel_rfl) (fun _ _ _ h => h) (Or.inl ⟨by rfl, ?_⟩) hS2 ?_
        · intro W hSw
          skip
          exact exec_load 38 (Operand.tmp 29) rfl rfl (it_ldS hSw.2)
        try simp only [Act.put, List.setIfInBounds_toArray, List.set_cons_zero, List.set_cons_succ]
        refine wpAnyH_ready (rs := [6]) (by kernel_rfl) (by simp) ?_
        refine AllReadyH.cons (o := { dst := some 28, op := _, type := _, pos := _, after := _, guard := _ }) rfl (fun K hK => ?_) AllReadyH.nil
        go_simp
        refine (HSB.out _).mono ?_
        rintro e wx ⟨rfl, hbx⟩
        have hS6 : Below w.heap.size w wx ∧ Blk wx w.heap.size x.row := ⟨hS2.1.trans (hbx.mono hS2.1.size), hS2.2.later hbx⟩
        clear hbx
        refine hK.out _ _ hS6 (fun _ => ?_)
        clear hK K
        try simp only [Act.put, List.setIfInBounds_toArray, List.set_cons_zero, List.set_cons_succ]
        refine wpAnyH_take (i := 9) (oi := { dst := some 31, op := _, type := _, pos := _, after := _, guard := _ }) (v := .bool (decide (stubV x.e = x.s))) rfl (by kernel_rfl) (by kernel_rfl) (by kernel_rfl) (fun _ _ _ h => h) (Or.inl ⟨by rfl, ?_⟩) hS6 ?_
        · intro W hSw
          skip
          exact exec_eql 38 _ (Operand.tmp 28) (Operand.tmp 30) rfl rfl rfl (eq_sst (stubV x.e) x.s)
        try simp only [Act.put, List.setIfInBounds_toArray, List.set_cons_zero, List.set_cons_succ]
        refine wpAnyH_take (i := 10) (oi := { dst := some 32, op := _, type := _, pos := _, after := _, guard := _ }) (v := ?_) rfl (by kernel_rfl) (by kernel_rfl) (by kernel_rfl) (fun _ _ _ h => h) (Or.inl ⟨by rfl, ?_⟩) hS6 ?_
        rotate_left
        · intro W hSw
          skip
          go_simp
          first | done | rfl
        try simp only [Act.put, List.setIfInBounds_toArray, List.set_cons_zero, List.set_cons_succ]
        refine wpAnyH_take (i := 11) (oi := { dst := some 2, op := _, type := _, pos := _, after := _, guard := _ }) (v := ?_) rfl (by kernel_rfl) (by kernel_rfl) (by kernel_rfl) (fun _ _ _ h => h) (Or.inl ⟨by rfl, ?_⟩) hS6 ?_
        rotate_left
        · intro W hSw
          skip
          go_simp
          first | done | rfl
        try simp only [Act.put, List.setIfInBounds_toArray, List.set_cons_zero, List.set_cons_succ]
        refine wpAnyH_done (by kernel_rfl) ?_ _
        refine NoPanic.normal ?_
        go_wp2_with fail
        go_ret
        exact ⟨by rw [HV.out, hB]; rfl, hS6.1⟩

    · by_cases k2 : x.k = 2
      · have HV : Hid (itemB x = (x.s.B && decide (x.e = Est.zero))) := Lib.hid (((if_neg k0).trans (if_neg k1)).trans (if_pos k2))
        rw [k2] at c0
        have lS := Lib.hid (it_ldS H0.out.2)
        have eE := Lib.hid (eq_est x.e Est.zero)
        generalize decide (x.e = Est.zero) = v2 at *
        go_wp2_with (first | (guard_target =~ wpList _ _ _ (⟨_, Op.load _ (Operand.tmp 36), _, _, _, _⟩ :: _) _ _; refine wpList_load_w 38 (Operand.tmp 36) (by kernel_rfl) rfl lS.out rfl ?_))
        generalize w.alloc (.cells x.row 40) = W0 at *
        refine (HHD.out _).mono ?_
        rintro e w2 ⟨⟨t, rfl⟩, hb2⟩
        have H2 := Lib.hid (And.intro (H0.out.1.trans (hb2.mono H0.out.1.size)) (H0.out.2.later hb2))
        have lE := Lib.hid (it_ldE H2.out.2)
        have HE : Hid (headE x.s = if x.s.B = true then 0 else 4) := Lib.hid rfl
        clear hb2 c0 lS
        cases hB : x.s.B
        · rw [hB, if_neg (by simp)] at HE
          rw [HE.out]
          go_wp2_with (first | (guard_target =~ wpList _ _ _ (⟨_, Op.load _ (Operand.tmp 44), _, _, _, _⟩ :: _) _ _; refine wpList_load_w 35 (Operand.tmp 44) (by kernel_rfl) rfl lE.out rfl ?_) | (guard_target =~ wpList _ _ _ (⟨_, Op.binOp _ _ (Operand.tmp 45) (Operand.tmp 46) _, _, _, _, _⟩ :: _) _ _; refine wpList_eql 35 _ (Operand.tmp 45) (Operand.tmp 46) (by kernel_rfl) rfl eE.out rfl rfl ?_))
          go_ret
          exact ⟨by rw [HV.out, hB]; rfl, H2.out.1⟩
        · rw [hB, if_pos rfl] at HE
          rw [HE.out]
          go_wp2_with (first | (guard_target =~ wpList _ _ _ (⟨_, Op.load _ (Operand.tmp 44), _, _, _, _⟩ :: _) _ _; refine wpList_load_w 35 (Operand.tmp 44) (by kernel_rfl) rfl lE.out rfl ?_) | (guard_target =~ wpList _ _ _ (⟨_, Op.binOp _ _ (Operand.tmp 45) (Operand.tmp 46) _, _, _, _, _⟩ :: _) _ _; refine wpList_eql 35 _ (Operand.tmp 45) (Operand.tmp 46) (by kernel_rfl) rfl eE.out rfl rfl ?_))
          go_ret
          exact ⟨by rw [HV.out, hB]; rfl, H2.out.1⟩
      · have HV : Hid (itemB x = false) := Lib.hid (((if_neg k0).trans (if_neg k1)).trans (if_neg k2))
        have q0 : (x.k == 0) = false := beq_eq_false_iff_ne.2 (fun h => k0 (.inl h))
        have q3 : (x.k == 3) = false := beq_eq_false_iff_ne.2 (fun h => k0 (.inr h))
        have q1 : (x.k == 1) = false := beq_eq_false_iff_ne.2 k1
        have q2 : (x.k == 2) = false := beq_eq_false_iff_ne.2 k2
        have k0' : ¬ x.k = 0 := fun h => k0 (.inl h)
        have k3' : ¬ x.k = 3 := fun h => k0 (.inr h)
        clear k0
        go_wp2_with fail
        go_ret
        exact ⟨by rw [HV.out]; rfl, H0.out.1⟩
end Go.Proofs.YtpbjjmenkoigjaaDoor
end

section
namespace Go.Proofs.YtpbjjmenkoigjaaDoor
open Go.RowKit
set_option linter.unusedVariables false
def listsB (m : Mst) : Bool := m.es.all Est.B && (m.is.all itemB && (decide (m.es.length ≤ 8) && (decide (m.k ≠ 7) || decide (m.is.length = 8))))
theorem all_no {α : Type} {p : α → Bool} {l : List α} {j : Nat} {x : α} (h : l[j]? = some x) (hp : p x = false) : l.all p = false := by
  rw [List.all_eq_false]
  exact ⟨x, List.mem_of_getElem? h, by rw [hp]; decide⟩
theorem all_snoc {α : Type} {p : α → Bool} {l : List α} {j : Nat} {x : α} (h : l[j]? = some x) (ha : (l.take j).all p = true) (hp : p x = true) : (l.take (j + 1)).all p = true := by
  rw [take_snoc h, List.all_append, ha]; simp [hp]
set_option maxRecDepth 100000 in
set_option maxHeartbeats 20000000 in
theorem lists_any (m : Mst) (w : World) (hin : m.In w) : Calls Tryd.prog 57 #[.agg m.row] w fun e w' => e = .returned (.bool (listsB m)) ∧ Below w.heap.size w w' := by
  obtain ⟨R, hR⟩ : ∃ R, R = m.row := ⟨_, rfl⟩
  rw [← hR]
  have H0 : Hid (Below w.heap.size w (w.alloc (.cells R 45)) ∧ Blk (w.alloc (.cells R 45)) w.heap.size R) := Lib.hid ⟨(Below.refl _ _).alloc (Nat.le_refl _) _, Blk.new _ _ _ _ rfl⟩
  have HV : Hid (listsB m = (m.es.all Est.B && (m.is.all itemB && (decide (m.es.length ≤ 8) && (decide (m.k ≠ 7) || decide (m.is.length = 8)))))) := Lib.hid rfl
  have HIN := Lib.hid hin
  have r0 : R[0]? = some (.int .i64 m.k) := by rw [hR]; rfl
  have r30 : R[30]? = some (.slice m.ea m.es.length m.ec) := by rw [hR]; rfl
  have r31 : R[31]? = some (.slice m.ia m.is.length m.ic) := by rw [hR]; rfl
  have HR := Lib.hid (And.intro r0 (And.intro r30 r31))
  have he := hin.ec
  have hi := hin.ic
  have hel := hin.el
  have hil := hin.il
  clear hR hin r0 r30 r31
  generalize hA : m.ea = ad at *
  generalize hAI : m.ia = ai at *
  have HA := Lib.hid hA
  have HAI := Lib.hid hAI
  obtain ⟨N, hN⟩ : ∃ N, N = m.es.length := ⟨_, rfl⟩
  obtain ⟨M, hM⟩ : ∃ M, M = m.is.length := ⟨_, rfl⟩
  rw [← hN] at HR he hel HV
  rw [← hM] at HR hi hil HV
  have HN := Lib.hid hN
  have HM := Lib.hid hM
  clear hA hAI hN hM
  have c30 := (H0.out.2.2 30 _ HR.out.2.1).1
  go_enter Tryd.func57, Tryd.ntmps57
  go_wp2_with fail
  generalize w.alloc (.cells R 45) = W0 at *
  clear c30
  go_loopw [10] (fun iv wr => ∃ j : Nat, j ≤ N ∧ iv = .int .i64 (j : Int) ∧ (m.es.take j).all Est.B = true ∧ Below w.heap.size w wr ∧ Blk wr w.heap.size R) (fun iv _ => N - (intOf iv).toNat)
  case atStart => exact ⟨0, by omega, rfl, by simp, H0.out.1, H0.out.2⟩
  case round =>
    clear H0
    obtain ⟨j, hj, rfl, hall, hbw, hB⟩ := hrel
    have HALL := Lib.hid hall
    have HB := Lib.hid (And.intro hbw hB)
    by_cases hlt : j < N
    · obtain ⟨x, hx⟩ : ∃ x, m.es[j]? = some x := ⟨m.es[j]'(by rw [← HN.out]; exact hlt), List.getElem?_eq_getElem _⟩
      have hLw := HIN.out.later hbw
      obtain ⟨b, off, hd, hbl, hra⟩ := hLw.es.range (i := j) (x := x.row) (by rw [List.getElem?_map, hx]; rfl)
      rw [HA.out] at hd
      subst hd
      have HX := Lib.hid hx
      have l1 := load_at 35 _ hra Tryd.underlying35 rfl (by kernel_rfl)
      obtain ⟨W1, st1, hW1, hB1, hz1⟩ := fresh wr #[.int .i64 0, .int .i64 0, .int .i64 0, .int .u64 0, .int .i64 0, .int .i64 0, .int .i64 0, .int .i64 0, .string ⟨#[]⟩] x.row 35 rfl (by kernel_rfl) (Est.row_one x)
      have l2 := load_at 35 _ hB1.range Tryd.underlying35 rfl (by kernel_rfl)
      have l1 := Lib.hid l1
      have st1 := Lib.hid st1
      have l2 := Lib.hid l2
      have H1 := Lib.hid (And.intro (hbw.trans (hW1.mono hbw.size)) (hB.later hW1))
      have HRT := Lib.hid (fun W => entright_any x.v x.o x.u x.p x.c x.s x.r x.k x.b W)
      clear hra hB1 hW1 hLw hB hbw hx hall hz1
      go_wp2_with (first | (guard_target =~ wpList _ _ _ (⟨_, Op.load _ (Operand.tmp 12), _, _, _, _⟩ :: _) _ _; refine wpList_load_eq 35 (Operand.tmp 12) rfl rfl l1.out rfl ?_) | (guard_target =~ wpList _ _ _ (⟨_, Op.store _ (Operand.tmp 4) (Operand.tmp 13), _, _, _, _⟩ :: _) _ _; refine wpList_store_eq 35 (Operand.tmp 4) (Operand.tmp 13) rfl rfl st1.out rfl rfl ?_) | (guard_target =~ wpList _ _ _ (⟨_, Op.load _ (Operand.tmp 4), _, _, _, _⟩ :: _) _ _; refine wpList_load_eq 35 (Operand.tmp 4) rfl rfl l2.out rfl ?_))
      refine (HRT.out _).mono ?_
      rintro e w2 ⟨rfl, hb2⟩
      have H2 := Lib.hid (And.intro (H1.out.1.trans (hb2.mono H1.out.1.size)) (H1.out.2.later hb2))
      clear hb2 H1
      rw [show entB x.v x.o x.u x.c x.s x.r x.k x.b = x.B from rfl]
      cases hB : x.B
      · go_wp2_with fail
        go_ret
        exact ⟨by rw [HV.out, all_no HX.out hB]; rfl, H2.out.1⟩
      · go_wp2_with fail
        go_roundw
        case rel => exact ⟨j + 1, by omega, by go_num, all_snoc HX.out HALL.out hB, H2.out.1, H2.out.2⟩
        case measure => simp [intOf]; omega
    · obtain rfl : N = j := by omega
      have HE : Hid (m.es.all Est.B = true) := Lib.hid (by have := HALL.out; rwa [HN.out, List.take_length] at this)
      have c31 := (hB.2 31 _ HR.out.2.2).1
      clear hall hbw hB HALL
      go_wp2_with fail
      clear c31
      go_loopw [21] (fun iv wr => ∃ j : Nat, j ≤ M ∧ iv = .int .i64 (j : Int) ∧ (m.is.take j).all itemB = true ∧ Below w.heap.size w wr ∧ Blk wr w.heap.size R) (fun iv _ => M - (intOf iv).toNat)
      case atStart => exact ⟨0, by omega, rfl, by simp, HB.out.1, HB.out.2⟩
      case round =>
        clear HB
        obtain ⟨j, hj, rfl, hall, hbw, hB⟩ := hrel
        have HALL := Lib.hid hall
        have HB := Lib.hid (And.intro hbw hB)
        by_cases hlt : j < M
        · obtain ⟨x, hx⟩ : ∃ x, m.is[j]? = some x := ⟨m.is[j]'(by rw [← HM.out]; exact hlt), List.getElem?_eq_getElem _⟩
          have hLw := HIN.out.later hbw
          obtain ⟨b, off, hd, hbl, hra⟩ := hLw.is.range (i := j) (x := x.row) (by rw [List.getElem?_map, hx]; rfl)
          rw [HAI.out] at hd
          subst hd
          have HX := Lib.hid hx
          have l1 := load_at 40 _ hra Tryd.underlying40 rfl (by kernel_rfl)
          obtain ⟨W1, st1, hW1, hB1, hz1⟩ := fresh wr #[.int .i64 0, .int .i64 0, .int .i64 0, .int .i64 0, .int .u64 0, .int .u64 0, .int .i64 0, .int .i64 0, .int .i64 0, .int .u64 0, .int .i64 0, .int .i64 0, .int .i64 0, .int .i64 0, .string ⟨#[]⟩] x.row 40 rfl (by kernel_rfl) (Ist.row_one x)
          have l2 := load_at 40 _ hB1.range Tryd.underlying40 rfl (by kernel_rfl)
          have l1 := Lib.hid l1
          have st1 := Lib.hid st1
          have l2 := Lib.hid l2
          have H1 := Lib.hid (And.intro (hbw.trans (hW1.mono hbw.size)) (hB.later hW1))
          have HRT := Lib.hid (fun W => item_any x W (HIN.out.iok x (List.mem_of_getElem? hx)))
          clear hra hB1 hW1 hLw hB hbw hx hall hz1
          go_wp2_with (first | (guard_target =~ wpList _ _ _ (⟨_, Op.load _ (Operand.tmp 23), _, _, _, _⟩ :: _) _ _; refine wpList_load_eq 40 (Operand.tmp 23) rfl rfl l1.out rfl ?_) | (guard_target =~ wpList _ _ _ (⟨_, Op.store _ (Operand.tmp 6) (Operand.tmp 24), _, _, _, _⟩ :: _) _ _; refine wpList_store_eq 40 (Operand.tmp 6) (Operand.tmp 24) rfl rfl st1.out rfl rfl ?_) | (guard_target =~ wpList _ _ _ (⟨_, Op.load _ (Operand.tmp 6), _, _, _, _⟩ :: _) _ _; refine wpList_load_eq 40 (Operand.tmp 6) rfl rfl l2.out rfl ?_))
          refine (HRT.out _).mono ?_
          rintro e w2 ⟨rfl, hb2⟩
          have H2 := Lib.hid (And.intro (H1.out.1.trans (hb2.mono H1.out.1.size)) (H1.out.2.later hb2))
          clear hb2 H1
          cases hB : itemB x
          · go_wp2_with fail
            go_ret
            exact ⟨by rw [HV.out, HE.out, all_no HX.out hB]; rfl, H2.out.1⟩
          · go_wp2_with fail
            go_roundw
            case rel => exact ⟨j + 1, by omega, by go_num, all_snoc HX.out HALL.out hB, H2.out.1, H2.out.2⟩
            case measure => simp [intOf]; omega
        · obtain rfl : M = j := by omega
          have HI : Hid (m.is.all itemB = true) := Lib.hid (by have := HALL.out; rwa [HM.out, List.take_length] at this)
          have c0 := (hB.2 0 _ HR.out.1).1
          have c30 := (hB.2 30 _ HR.out.2.1).1
          have c31 := (hB.2 31 _ HR.out.2.2).1
          have HBE := Lib.hid hbw
          clear hall hbw hB HALL HB
          by_cases n8 : N ≤ 8
          · have n8i : (N : Int) ≤ 8 := by omega
            by_cases k7 : m.k = 7
            · rw [k7] at c0
              by_cases m8 : M = 8
              · subst m8
                go_wp2_with fail
                go_ret
                exact ⟨by rw [HV.out, HE.out, HI.out, decide_eq_true n8, k7]; rfl, HBE.out⟩
              · have m8b : ((M : Int) == 8) = false := beq_eq_false_iff_ne.2 (by omega)
                have m8c : ¬ (M : Int) = 8 := by omega
                have HM8 := Lib.hid (decide_eq_false m8)
                clear m8
                go_wp2_with fail
                go_ret
                exact ⟨by rw [HV.out, HE.out, HI.out, decide_eq_true n8, HM8.out, k7]; rfl, HBE.out⟩
            · have k7b : (m.k == 7) = false := beq_eq_false_iff_ne.2 k7
              have HK7 := Lib.hid (decide_eq_true k7)
              go_wp2_with fail
              go_ret
              exact ⟨by rw [HV.out, HE.out, HI.out, decide_eq_true n8, HK7.out]; rfl, HBE.out⟩
          · have n8i : ¬ (N : Int) ≤ 8 := by omega
            have HN8 := Lib.hid (decide_eq_false n8)
            clear n8
            go_wp2_with fail
            go_ret
            exact ⟨by rw [HV.out, HE.out, HI.out, HN8.out]; rfl, HBE.out⟩
end Go.Proofs.YtpbjjmenkoigjaaDoor
end

/- Contracts of Go functions: each call answers what the Lean function of its name answers. Conditions: stand in each theorem. Written by this seat's own program over the kit's printer. -/
import Derived.Test.YtmblpbaefoapaaaQ0
import Derived.Test.YtmblpbaefoapaaaQxcm
import Derived.Test.YtmblpbaefoapaaaQxcomitialaw5known
import Derived.Test.YtmblpbaefoapaaaQxcomitialaw4Make
import Derived.Test.YtmblpbaefoapaaaQxcomitiaref4Out
import Derived.Test.YtmblpbaefoapaaaQxcomitiaref4In
import Derived.Test.YtmblpbaefoapaaaQxcomposeAll
namespace Go.Proofs.Ytmblpbaefoapaaa.Q
open Go.RowKit Go.Proofs.YtmblpbaefoapaaaW.PrintWords Go.Proofs.YtmblpbaefoapaaaW.PrintLast Go.Proofs.YtmblpbaefoapaaaW.PrintMore
attribute [local go_sem] max2_int min2_int max_two min_two max_three min_three max_four min_four   -- for this text's walks alone
set_option linter.unusedVariables false
set_option linter.unusedSimpArgs false

-- HAND
/-! ### comitialaw5_ComposeLengths: function 9 -/
open Go.OpM Go.Cx Go.F64

def putsS (l : List S49) : Nat := (l.map fun c => c.f2.size).sum
theorem putsS_take {l : List S49} {i : Nat} (h : i < l.length) : putsS (l.take (i + 1)) = putsS (l.take i) + l[i].f2.size := by
  rw [List.take_succ_eq_append_getElem h]; unfold putsS; rw [List.map_append, List.sum_append]; simp
theorem putsS_le (l : List S49) (i : Nat) : putsS (l.take i) ≤ putsS l := by
  have h : putsS l = putsS (l.take i) + putsS (l.drop i) := by unfold putsS; rw [← List.sum_append, ← List.map_append, List.take_append_drop]
  omega
theorem comitialaw5_ComposeLengths.all3 (k : Nat) (a0 : Int) (A : Option Addr) (c : Nat) (x0 x1 x2 : List (S49)) (t : List (S49)) (r : Int) (w : World) (hr : Kd.C (Kd.slice 49 k49) w A 3 [x0, x1, x2]) (hc : 3 ≤ c) (h : compose_All.f k a0 [x0, x1, x2] = some (t, r)) :
    Calls Try.prog 20 #[.int .i64 a0, .slice A 3 c] w fun e w' => ∃ v0_ : Value, e = .returned (.tuple #[v0_, .int .i64 r]) ∧ Kd.R k49 49 w' w.heap.size (fun _ => True) v0_ t ∧ Below w.heap.size w w' := compose_All.calls k a0 A c [x0, x1, x2] t r w hr hc h
def comitialaw5_ComposeLengths.Pure : Prop := ∀ (a0 : Int) (l1 : List Int) (l2 : List Int) (l3 : List Int), (Lit.int .i64 a0).wf = true → l1.length ≤ maxLen → l1.length * 8 ≤ 140737488351232 → (∀ x ∈ l1, (Lit.int .i64 x).wf = true) → l2.length ≤ maxLen → l2.length * 8 ≤ 140737488351232 → (∀ x ∈ l2, (Lit.int .i64 x).wf = true) → l3.length ≤ maxLen → l3.length * 8 ≤ 140737488351232 → (∀ x ∈ l3, (Lit.int .i64 x).wf = true) → ∃ (k : Nat) (m_ n ox oy oz : Int) (x y z o : List (S49)), (if Int.tmod a0 90 < 0 then 0 else Int.tmod a0 90) = m_ ∧ (if 89 < m_ then 89 else m_) = n ∧ comitialaw5_known.f = some true ∧ comitialaw4_Make.f k n l1 = some x ∧ comitiaref4_Out.f k x = some ox ∧ comitialaw4_Make.f k ox l2 = some y ∧ comitiaref4_Out.f k y = some oy ∧ comitialaw4_Make.f k oy l3 = some z ∧ compose_All.f k n [x, y, z] = some (o, 0) ∧ comitiaref4_In.f k o = some n ∧ comitiaref4_Out.f k o = some oz ∧ comitiaref4_Out.f k z = some oz ∧ comitiaref4_Out.f k z = some oz ∧ (putsS o : Int) ≤ oz ∧ o.length ≤ 1000000 ∧ putsS o ≤ 1000000
set_option maxRecDepth 100000 in
set_option maxHeartbeats 8000000 in
theorem comitialaw5_ComposeLengths.walk (P : comitialaw5_ComposeLengths.Pure) (a0 : Int) (a1 : Option Addr) (len1 cap1 : Nat) (z1 : List Int) (a2 : Option Addr) (len2 cap2 : Nat) (z2 : List Int) (a3 : Option Addr) (len3 cap3 : Nat) (z3 : List Int) (w : World) (w0 : (Lit.int .i64 a0).wf = true) (w1 : (a1 = none ∧ len1 = 0 ∧ cap1 = 0 ∧ z1 = []) ∨ ∃ x, a1 = some x ∧ len1 ≤ cap1 ∧ cap1 ≤ maxLen ∧ z1.length = cap1 ∧ (∀ i, i < z1.length → w.cell? (x.add i) = some (.int .i64 (z1.getD i 0))) ∧ ∀ n ∈ z1, (Lit.int .i64 n).wf = true) (y1 : len1 * 8 ≤ 140737488351232) (w2 : (a2 = none ∧ len2 = 0 ∧ cap2 = 0 ∧ z2 = []) ∨ ∃ x, a2 = some x ∧ len2 ≤ cap2 ∧ cap2 ≤ maxLen ∧ z2.length = cap2 ∧ (∀ i, i < z2.length → w.cell? (x.add i) = some (.int .i64 (z2.getD i 0))) ∧ ∀ n ∈ z2, (Lit.int .i64 n).wf = true) (y2 : len2 * 8 ≤ 140737488351232) (w3 : (a3 = none ∧ len3 = 0 ∧ cap3 = 0 ∧ z3 = []) ∨ ∃ x, a3 = some x ∧ len3 ≤ cap3 ∧ cap3 ≤ maxLen ∧ z3.length = cap3 ∧ (∀ i, i < z3.length → w.cell? (x.add i) = some (.int .i64 (z3.getD i 0))) ∧ ∀ n ∈ z3, (Lit.int .i64 n).wf = true) (y3 : len3 * 8 ≤ 140737488351232) :
    Calls Try.prog 9 #[.int .i64 a0, .slice a1 len1 cap1, .slice a2 len2 cap2, .slice a3 len3 cap3] w fun e w' => e = .returned (.bool true) ∧ Below w.heap.size w w' := by
  obtain ⟨l1, rfl, hr1, hm1, hw1, hc1⟩ := ReadsInt.ofRowC w1
  obtain ⟨l2, rfl, hr2, hm2, hw2, hc2⟩ := ReadsInt.ofRowC w2
  obtain ⟨l3, rfl, hr3, hm3, hw3, hc3⟩ := ReadsInt.ofRowC w3
  obtain ⟨k, m_, n, ox, oy, oz, x, y, z, o, M1, M2, A1, A2, A3, A4, A5, A6, A7, A8, A9, AA1, AA2, ML, MN, MP⟩ := P a0 l1 l2 l3 w0 hm1 y1 hw1 hm2 y2 hw2 hm3 y3 hw3
  clear w0
  have C_l1 := Aside0.mk (Kd.C_of_reads (d := (0 : Int)) (h1 := fun _ => rfl) hr1)
  have L_l1 := Aside0.mk hc1
  clear hr1 hc1 hm1 hw1 y1 w1
  have C_l2 := Aside0.mk (Kd.C_of_reads (d := (0 : Int)) (h1 := fun _ => rfl) hr2)
  have L_l2 := Aside0.mk hc2
  clear hr2 hc2 hm2 hw2 y2 w2
  have C_l3 := Aside0.mk (Kd.C_of_reads (d := (0 : Int)) (h1 := fun _ => rfl) hr3)
  have L_l3 := Aside0.mk hc3
  clear hr3 hc3 hm3 hw3 y3 w3
  replace A1 := Aside0.mk A1
  replace A2 := Aside0.mk A2
  replace A3 := Aside0.mk A3
  replace A4 := Aside0.mk A4
  replace A5 := Aside0.mk A5
  replace A6 := Aside0.mk A6
  replace A7 := Aside0.mk A7
  replace A8 := Aside0.mk A8
  replace A9 := Aside0.mk A9
  replace AA1 := Aside0.mk AA1
  replace AA2 := Aside0.mk AA2
  have HB := Aside0.mk (Below.refl w.heap.size w)
  clear P
  go_enter Try.func9, Try.ntmps9
  go_wp2_with (first
      | (go_at_call 10; have q_ := A1; refine (comitialaw5_known.calls true _ q_.out).mono ?_; rintro e w_ ⟨rfl, hb⟩; clear A1 q_; have n_l1 := Aside0.mk (Kd.C_below C_l1.out hb); have n_l2 := Aside0.mk (Kd.C_below C_l2.out hb); have n_l3 := Aside0.mk (Kd.C_below C_l3.out hb); have n_B := Aside0.mk (below_step HB.out hb); clear C_l1; have C_l1 := n_l1; clear n_l1; clear C_l2; have C_l2 := n_l2; clear n_l2; clear C_l3; have C_l3 := n_l3; clear n_l3; clear HB; have HB := n_B; clear n_B; clear hb)
      | (go_at_call 12; have q_ := A2; refine (comitialaw4_Make.calls k n _ _ l1 x _ ?s0 ?t0 q_.out).mono ?_; (case s0 => exact (by repeat (first | exact C_l1.out | (with_reducible refine Kd.C_alloc ?_ _)))); (case t0 => exact L_l1.out); rintro e w_ ⟨v_, rfl, ho, hb⟩; clear A2 q_; obtain ⟨A_x, c_x, rfl, hl, hC⟩ := Kd.R_reads ho; clear ho; have n_l1 := Aside0.mk (Kd.C_below C_l1.out hb); have n_l2 := Aside0.mk (Kd.C_below C_l2.out hb); have n_l3 := Aside0.mk (Kd.C_below C_l3.out hb); have n_B := Aside0.mk (below_step HB.out hb); clear C_l1; have C_l1 := n_l1; clear n_l1; clear C_l2; have C_l2 := n_l2; clear n_l2; clear C_l3; have C_l3 := n_l3; clear n_l3; clear HB; have HB := n_B; clear n_B; clear hb; have C_x := Aside0.mk hC; have L_x := Aside0.mk hl; clear hC hl)
      | (go_at_call 13; have q_ := A3; refine (comitiaref4_Out.calls k _ _ x ox _ ?s0 ?t0 q_.out).mono ?_; (case s0 => exact (by repeat (first | exact C_x.out | (with_reducible refine Kd.C_alloc ?_ _)))); (case t0 => exact L_x.out); rintro e w_ ⟨rfl, hd⟩; clear A3 q_; have hb := hd.below; clear hd; have n_l1 := Aside0.mk (Kd.C_below C_l1.out hb); have n_l2 := Aside0.mk (Kd.C_below C_l2.out hb); have n_l3 := Aside0.mk (Kd.C_below C_l3.out hb); have n_x := Aside0.mk (Kd.C_below C_x.out hb); have n_B := Aside0.mk (below_step HB.out hb); clear C_l1; have C_l1 := n_l1; clear n_l1; clear C_l2; have C_l2 := n_l2; clear n_l2; clear C_l3; have C_l3 := n_l3; clear n_l3; clear C_x; have C_x := n_x; clear n_x; clear HB; have HB := n_B; clear n_B; clear hb)
      | (go_at_call 12; have q_ := A4; refine (comitialaw4_Make.calls k ox _ _ l2 y _ ?s0 ?t0 q_.out).mono ?_; (case s0 => exact (by repeat (first | exact C_l2.out | (with_reducible refine Kd.C_alloc ?_ _)))); (case t0 => exact L_l2.out); rintro e w_ ⟨v_, rfl, ho, hb⟩; clear A4 q_; obtain ⟨A_y, c_y, rfl, hl, hC⟩ := Kd.R_reads ho; clear ho; have n_l1 := Aside0.mk (Kd.C_below C_l1.out hb); have n_l2 := Aside0.mk (Kd.C_below C_l2.out hb); have n_l3 := Aside0.mk (Kd.C_below C_l3.out hb); have n_x := Aside0.mk (Kd.C_below C_x.out hb); have n_B := Aside0.mk (below_step HB.out hb); clear C_l1; have C_l1 := n_l1; clear n_l1; clear C_l2; have C_l2 := n_l2; clear n_l2; clear C_l3; have C_l3 := n_l3; clear n_l3; clear C_x; have C_x := n_x; clear n_x; clear HB; have HB := n_B; clear n_B; clear hb; have C_y := Aside0.mk hC; have L_y := Aside0.mk hl; clear hC hl)
      | (go_at_call 13; have q_ := A5; refine (comitiaref4_Out.calls k _ _ y oy _ ?s0 ?t0 q_.out).mono ?_; (case s0 => exact (by repeat (first | exact C_y.out | (with_reducible refine Kd.C_alloc ?_ _)))); (case t0 => exact L_y.out); rintro e w_ ⟨rfl, hd⟩; clear A5 q_; have hb := hd.below; clear hd; have n_l1 := Aside0.mk (Kd.C_below C_l1.out hb); have n_l2 := Aside0.mk (Kd.C_below C_l2.out hb); have n_l3 := Aside0.mk (Kd.C_below C_l3.out hb); have n_x := Aside0.mk (Kd.C_below C_x.out hb); have n_y := Aside0.mk (Kd.C_below C_y.out hb); have n_B := Aside0.mk (below_step HB.out hb); clear C_l1; have C_l1 := n_l1; clear n_l1; clear C_l2; have C_l2 := n_l2; clear n_l2; clear C_l3; have C_l3 := n_l3; clear n_l3; clear C_x; have C_x := n_x; clear n_x; clear C_y; have C_y := n_y; clear n_y; clear HB; have HB := n_B; clear n_B; clear hb)
      | (go_at_call 12; have q_ := A6; refine (comitialaw4_Make.calls k oy _ _ l3 z _ ?s0 ?t0 q_.out).mono ?_; (case s0 => exact (by repeat (first | exact C_l3.out | (with_reducible refine Kd.C_alloc ?_ _)))); (case t0 => exact L_l3.out); rintro e w_ ⟨v_, rfl, ho, hb⟩; clear A6 q_; obtain ⟨A_z, c_z, rfl, hl, hC⟩ := Kd.R_reads ho; clear ho; have n_l1 := Aside0.mk (Kd.C_below C_l1.out hb); have n_l2 := Aside0.mk (Kd.C_below C_l2.out hb); have n_l3 := Aside0.mk (Kd.C_below C_l3.out hb); have n_x := Aside0.mk (Kd.C_below C_x.out hb); have n_y := Aside0.mk (Kd.C_below C_y.out hb); have n_B := Aside0.mk (below_step HB.out hb); clear C_l1; have C_l1 := n_l1; clear n_l1; clear C_l2; have C_l2 := n_l2; clear n_l2; clear C_l3; have C_l3 := n_l3; clear n_l3; clear C_x; have C_x := n_x; clear n_x; clear C_y; have C_y := n_y; clear n_y; clear HB; have HB := n_B; clear n_B; clear hb; have C_z := Aside0.mk hC; have L_z := Aside0.mk hl; clear hC hl)
      | (go_at_call 20; have q_ := A7; refine (comitialaw5_ComposeLengths.all3 k n _ _ x y z o 0 _ ?s9 ?t9 q_.out).mono ?_; (case s9 => exact lits3 C_x.out L_x.out C_y.out L_y.out C_z.out L_z.out); (case t9 => exact Nat.le_refl _); rintro e w_ ⟨v_, rfl, ho, hb⟩; clear A7 q_; obtain ⟨A_o, c_o, rfl, hl, hC⟩ := Kd.R_reads ho; clear ho; have hb := (((Ch.refl (fun _ => False) _).alloc _).f (Ch.of_below hb)).below0; have n_l1 := Aside0.mk (Kd.C_below C_l1.out hb); have n_l2 := Aside0.mk (Kd.C_below C_l2.out hb); have n_l3 := Aside0.mk (Kd.C_below C_l3.out hb); have n_x := Aside0.mk (Kd.C_below C_x.out hb); have n_y := Aside0.mk (Kd.C_below C_y.out hb); have n_z := Aside0.mk (Kd.C_below C_z.out hb); have n_B := Aside0.mk (below_step HB.out hb); clear C_l1; have C_l1 := n_l1; clear n_l1; clear C_l2; have C_l2 := n_l2; clear n_l2; clear C_l3; have C_l3 := n_l3; clear n_l3; clear C_x; have C_x := n_x; clear n_x; clear C_y; have C_y := n_y; clear n_y; clear C_z; have C_z := n_z; clear n_z; clear HB; have HB := n_B; clear n_B; clear hb; have C_o := Aside0.mk hC; have L_o := Aside0.mk hl; clear hC hl))
  have ML2 : decide ((putsS o : Int) ≤ oz) = true := decide_eq_true ML
  obtain ⟨n9, hn9⟩ : ∃ n9, n9 = o.length := ⟨_, rfl⟩
  have N9 := Aside0.mk hn9
  have MP := Aside0.mk MP
  go_loopw [14, 15] (fun v14 v15 wr => ∃ i : Nat, i ≤ n9 ∧ v14 = .int .i64 (putsS (o.take i) : Nat) ∧ v15 = .int .i64 i ∧ Hid (wr = w_)) (fun _ v15 _ => n9 - (intOf v15).toNat)
  case atStart => exact ⟨0, Nat.zero_le _, by simp [putsS], rfl, Go.Cx.hid rfl⟩
  case round =>
    obtain ⟨i, hi, rfl, rfl, HW⟩ := hrel
    have hw_ := HW.out
    subst hw_
    clear HW
    by_cases hlt : i < n9
    · have hil : i < o.length := by rw [← N9.out]; exact hlt
      have hlti : (i : Int) < n9 := by omega
      have i0 : (0 : Int) ≤ i := by omega
      obtain ⟨ad, e, x0, x1, x2⟩ := at_T49 C_o.out (i : Int) (by omega) (by omega)
      subst e
      rw [rd_get hil] at x0 x1 x2
      simp only [Int.toNat_natCast] at x0 x1 x2
      have hs := putsS_take hil
      have hle := putsS_le o (i + 1)
      have hmp := MP.out
      obtain ⟨P, hP⟩ : ∃ P, P = putsS (o.take i) := ⟨_, rfl⟩
      rw [← hP] at hs ⊢
      have hw : IntKind.i64.wrap ((P : Int) + (o[i].f2.size : Int)) = (P : Int) + (o[i].f2.size : Int) := by rw [IntKind.wrap_i64]; omega
      have HS := Go.Cx.hid hs
      have N9' := N9.out
      rw [← N9'] at C_o
      clear hs hle hmp hP N9'
      go_wp2
      go_roundw
      case rel => exact ⟨i + 1, by omega, by rw [HS.out]; rfl, by go_num, Go.Cx.hid (by trivial)⟩
      case measure => simp [intOf]; omega
    · have hin : i = o.length := by rw [← N9.out]; omega
      have htk : o.take i = o := by rw [hin]; exact List.take_length
      have hb9 : decide ((i : Int) < (n9 : Int)) = false := decide_eq_false (by omega)
      rw [htk]
      clear htk hin
      go_wp2_with (first
        | (go_at_call 19; have q_ := A8; refine (comitiaref4_In.calls k _ _ o n _ ?s0 ?t0 q_.out).mono ?_; (case s0 => exact (by repeat (first | exact C_o.out | (with_reducible refine Kd.C_alloc ?_ _)))); (case t0 => exact L_o.out); rintro e w_ ⟨rfl, hd⟩; clear A8 q_; have hb := hd.below; clear hd; have n_z := Aside0.mk (Kd.C_below C_z.out hb); have n_o := Aside0.mk (Kd.C_below C_o.out hb); have n_B := Aside0.mk (below_step HB.out hb); clear C_z; have C_z := n_z; clear n_z; clear C_o; have C_o := n_o; clear n_o; clear HB; have HB := n_B; clear n_B; clear hb)
        | (go_at_call 13; have q_ := A9; refine (comitiaref4_Out.calls k _ _ o oz _ ?s0 ?t0 q_.out).mono ?_; (case s0 => exact (by repeat (first | exact C_o.out | (with_reducible refine Kd.C_alloc ?_ _)))); (case t0 => exact L_o.out); rintro e w_ ⟨rfl, hd⟩; clear A9 q_; have hb := hd.below; clear hd; have n_z := Aside0.mk (Kd.C_below C_z.out hb); have n_o := Aside0.mk (Kd.C_below C_o.out hb); have n_B := Aside0.mk (below_step HB.out hb); clear C_z; have C_z := n_z; clear n_z; clear C_o; have C_o := n_o; clear n_o; clear HB; have HB := n_B; clear n_B; clear hb)
        | (go_at_call 13; have q_ := AA1; refine (comitiaref4_Out.calls k _ _ z oz _ ?s0 ?t0 q_.out).mono ?_; (case s0 => exact (by repeat (first | exact C_z.out | (with_reducible refine Kd.C_alloc ?_ _)))); (case t0 => exact L_z.out); rintro e w_ ⟨rfl, hd⟩; clear AA1 q_; have hb := hd.below; clear hd; have n_z := Aside0.mk (Kd.C_below C_z.out hb); have n_o := Aside0.mk (Kd.C_below C_o.out hb); have n_B := Aside0.mk (below_step HB.out hb); clear C_z; have C_z := n_z; clear n_z; clear C_o; have C_o := n_o; clear n_o; clear HB; have HB := n_B; clear n_B; clear hb)
        | (go_at_call 13; have q_ := AA2; refine (comitiaref4_Out.calls k _ _ z oz _ ?s0 ?t0 q_.out).mono ?_; (case s0 => exact (by repeat (first | exact C_z.out | (with_reducible refine Kd.C_alloc ?_ _)))); (case t0 => exact L_z.out); rintro e w_ ⟨rfl, hd⟩; clear AA2 q_; have hb := hd.below; clear hd; have n_z := Aside0.mk (Kd.C_below C_z.out hb); have n_o := Aside0.mk (Kd.C_below C_o.out hb); have n_B := Aside0.mk (below_step HB.out hb); clear C_z; have C_z := n_z; clear n_z; clear C_o; have C_o := n_o; clear n_o; clear HB; have HB := n_B; clear n_B; clear hb))
      go_ret
      exact ⟨by first | rfl | simp, HB.out⟩

end Go.Proofs.Ytmblpbaefoapaaa.Q

/- Contracts of Go functions: each call answers what the Lean function of its name answers. Conditions: stand in each theorem. Written by this seat's own program over the kit's printer. -/
import Derived.Test.YtpcgamgjgfdpaaaQ0
import Derived.Test.YtpcgamgjgfdpaaaQxcm
namespace Go.Proofs.Ytpcgamgjgfdpaaa.Q
open Go.RowKit Go.Proofs.YtpcgamgjgfdpaaaW.PrintWords Go.Proofs.YtpcgamgjgfdpaaaW.PrintLast Go.Proofs.YtpcgamgjgfdpaaaW.PrintMore
attribute [local go_sem] max2_int min2_int max_two min_two max_three min_three max_four min_four   -- for this text's walks alone
set_option linter.unusedVariables false
set_option linter.unusedSimpArgs false

/-! ### comitiaref4_check: function 60 -/
mutual
def comitiaref4_check.j0 : Nat → Int → Bool → Int → Int → ByteArray → Option (Int)
  | 0, _, _, _, _, _ => none
  | k + 1, x4, x5, x185000, x185001, x185002 => if x5 = true then (if x185001 < 1 then (some 1) else (if x185001 > 120 then (some 1) else (if x185002.toList = ([] : List UInt8) then (some 0) else (some 1)))) else (if x4 = 2 then (if x185001 = 0 then (comitiaref4_check.j1 k (x185002.toList == ([] : List UInt8)) x185000 x185001 x185002) else (comitiaref4_check.j1 k true x185000 x185001 x185002)) else (some 3))
def comitiaref4_check.j1 : Nat → Bool → Int → Int → ByteArray → Option (Int)
  | 0, _, _, _, _ => none
  | k + 1, x30, x185000, x185001, x185002 => if x30 = true then (some 1) else (if (x185002.size : Int) > 120 then (some 5) else (some 0))
end
def comitiaref4_check.f (k : Nat) (a0_0 : Int) (a0_1 : Int) (a0_2 : ByteArray) : Option (Int) := if a0_0 = 1 then (comitiaref4_check.j0 k a0_0 (a0_0 == 1) a0_0 a0_1 a0_2) else (comitiaref4_check.j0 k a0_0 (a0_0 == 3) a0_0 a0_1 a0_2)
theorem comitiaref4_check.mono_l : ∀ k, (∀ y0 y1 y2 y3 y4, LeO (comitiaref4_check.j0 k y0 y1 y2 y3 y4) (comitiaref4_check.j0 (k + 1) y0 y1 y2 y3 y4)) ∧ (∀ y0 y1 y2 y3, LeO (comitiaref4_check.j1 k y0 y1 y2 y3) (comitiaref4_check.j1 (k + 1) y0 y1 y2 y3))
  | 0 => ⟨fun _ _ _ _ _ r h => by simp [comitiaref4_check.j0] at h, fun _ _ _ _ r h => by simp [comitiaref4_check.j1] at h⟩
  | k + 1 => by
    obtain ⟨ih0, ih1⟩ := comitiaref4_check.mono_l k
    refine ⟨?_, ?_⟩
    · intro y0 y1 y2 y3 y4
      unfold comitiaref4_check.j0
      repeat' first
      | (with_reducible exact ih0 _ _ _ _ _)
      | (with_reducible exact ih1 _ _ _ _)
      | (with_reducible exact LeO.refl _)
      | (with_reducible exact LeO.none _)
      | (with_reducible refine LeO.ite ?_ ?_)
      | (with_reducible refine LeO.bind ?_ (fun _ => ?_))
      | exact ih0 _ _ _ _ _
      | exact ih1 _ _ _ _
      | exact LeO.none _
      | refine LeO.ite ?_ ?_
      | refine LeO.bind ?_ (fun _ => ?_)
    · intro y0 y1 y2 y3
      unfold comitiaref4_check.j1
      repeat' first
      | (with_reducible exact ih0 _ _ _ _ _)
      | (with_reducible exact ih1 _ _ _ _)
      | (with_reducible exact LeO.refl _)
      | (with_reducible exact LeO.none _)
      | (with_reducible refine LeO.ite ?_ ?_)
      | (with_reducible refine LeO.bind ?_ (fun _ => ?_))
      | exact ih0 _ _ _ _ _
      | exact ih1 _ _ _ _
      | exact LeO.none _
      | refine LeO.ite ?_ ?_
      | refine LeO.bind ?_ (fun _ => ?_)
theorem comitiaref4_check.mono : ∀ a0 a1 a2 k, LeO (comitiaref4_check.f k a0 a1 a2) (comitiaref4_check.f (k + 1) a0 a1 a2) := by
  intro a0 a1 a2 k
  obtain ⟨ih0, ih1⟩ := comitiaref4_check.mono_l k
  unfold comitiaref4_check.f
  repeat' first
      | (with_reducible exact ih0 _ _ _ _ _)
      | (with_reducible exact ih1 _ _ _ _)
      | (with_reducible exact LeO.refl _)
      | (with_reducible exact LeO.none _)
      | (with_reducible refine LeO.ite ?_ ?_)
      | (with_reducible refine LeO.bind ?_ (fun _ => ?_))
      | exact ih0 _ _ _ _ _
      | exact ih1 _ _ _ _
      | exact LeO.none _
      | refine LeO.ite ?_ ?_
      | refine LeO.bind ?_ (fun _ => ?_)
set_option maxHeartbeats 8000000 in
set_option maxRecDepth 100000 in
theorem comitiaref4_check.calls (k : Nat) (a0_0 : Int) (a0_1 : Int) (a0_2 : ByteArray) (r : Int) (w : World) (h : comitiaref4_check.f k a0_0 a0_1 a0_2 = some r) :
    Calls Try.prog 60 #[.agg #[.int .i64 a0_0, .int .i64 a0_1, .string a0_2]] w fun e w' => e = .returned (.int .i64 r) ∧ Below w.heap.size w w' := by
  have hu34 := Try.underlying34
  have HB := Aside0.mk (Below.refl w.heap.size w)
  have H : (if a0_0 = 1 then (comitiaref4_check.j0 k a0_0 (a0_0 == 1) a0_0 a0_1 a0_2) else (comitiaref4_check.j0 k a0_0 (a0_0 == 3) a0_0 a0_1 a0_2)) = some r := h
  clear h
  have HC2 := Aside0.mk H
  clear H
  go_enter Try.func60, Try.ntmps60
  go_upto_if 5 with (first | ((with_reducible refine gate_dst (N := 1) rfl ?_); refine box_event ?hg (N := 1) ?hd (cs := #[.int .i64 a0_0, .int .i64 a0_1, .string a0_2]) (t := 34) ?hr ?_; (case hd => rfl); (case hg => rfl); (case hr => first | (go_simp; done) | (go_simp; rfl)); intro gb184 hg w3 hbox hb; have n0_ := Aside0.mk (below_step (by repeat (first | (with_reducible first | exact HB.out | apply below_alloc | apply pw_below_drewN | apply below_drew1) | exact HB.out)) hb); have n1_ := Aside0.mk (hbox); have n2_ := Aside0.mk ((by rw [hg]; exact (below_size (by repeat (first | (with_reducible first | exact HB.out | apply below_alloc | apply pw_below_drewN | apply below_drew1) | exact HB.out))) : w.heap.size ≤ gb184)); have n3_ := Aside0.mk ((by rw [hg]; exact (below_size (by repeat (first | (with_reducible first | exact HB.out | apply below_alloc | apply pw_below_drewN | apply below_drew1) | exact HB.out))) : w.heap.size ≤ gb184)); clear HB; have HB := n0_; have BK184 := n1_; have GW184 := n2_; have GE184 := n3_; clear n0_ n1_ n2_ n3_; clear hb hbox hg; have hcz4_0 : w3.cell? ⟨gb184, 0, none⟩ = some (.int .i64 a0_0) := (blk_cell BK184.out 0).trans rfl; have hcz4_1 : w3.cell? ⟨gb184, 1, none⟩ = some (.int .i64 a0_1) := (blk_cell BK184.out 1).trans rfl; have hcz4_2 : w3.cell? ⟨gb184, 2, none⟩ = some (.string a0_2) := (blk_cell BK184.out 2).trans rfl; have hfz4_0 := blk_frozen BK184.out 0; have hfz4_1 := blk_frozen BK184.out 1; have hfz4_2 := blk_frozen BK184.out 2))
  (try simp only [Act.put, List.setIfInBounds_toArray, List.set_cons_zero, List.set_cons_succ])
  go_cut [5] (fun v5 wc => ∃ (kq : Nat) (x5_1 : Bool), v5 = .bool x5_1 ∧ Aside0 (comitiaref4_check.j0 kq a0_0 x5_1 a0_0 a0_1 a0_2 = some r) ∧ Aside0 (kq ≤ k) ∧ Aside0 (wc.heap[gb184]? = some (.cells #[.int .i64 a0_0, .int .i64 a0_1, .string a0_2] 34 (0, 0))) ∧ Aside0 (Below w.heap.size w wc))
  case first =>
    have H := HC2.out
    clear HC2
    by_cases c5 : a0_0 = 1
    · rw [if_pos c5] at H
      have c5b0 : (a0_0 == 1) = true := beq_iff_eq.mpr c5
      have c5b1 : (a0_0 != 1) = false := bne_eq_false_iff_eq.mpr c5
      clear c5
      (first | rw [c5b0] | rw [c5b1] | (simp only [i64_w, i32_w]; rw [c5b0]) | skip)
      have H' := Aside0.mk H
      clear H
      go_wp2
      go_meet
      case rel => exact ⟨_, ((a0_0 == 1)), (by first | rfl | (simp; done) | (simp [*]; done) | exact congrArg Value.bool (emp_ne _)), H', ⟨by first | omega | exact Nat.le_refl _⟩, ⟨by (with_reducible repeat (first | refine blk_drewN ?_ _ | refine blk_drew ?_ | refine blk_alloc ?_ _)); exact BK184.out⟩, ⟨by repeat (first | (with_reducible first | exact HB.out | apply below_alloc | apply pw_below_drewN | apply below_drew1 | refine below_set ?_ GE184.out) | exact HB.out)⟩⟩
    · rw [if_neg c5] at H
      have c5b0 : (a0_0 == 1) = false := beq_eq_false_iff_ne.mpr c5
      have c5b1 : (a0_0 != 1) = true := bne_iff_ne.mpr c5
      (first | rw [c5b0] | rw [c5b1] | (simp only [i64_w, i32_w]; rw [c5b0]) | skip)
      have H' := Aside0.mk H
      clear H
      go_wp2
      go_meet
      case rel => exact ⟨_, ((a0_0 == 3)), (by first | rfl | (simp; done) | (simp [*]; done) | exact congrArg Value.bool (emp_ne _)), H', ⟨by first | omega | exact Nat.le_refl _⟩, ⟨by (with_reducible repeat (first | refine blk_drewN ?_ _ | refine blk_drew ?_ | refine blk_alloc ?_ _)); exact BK184.out⟩, ⟨by repeat (first | (with_reducible first | exact HB.out | apply below_alloc | apply pw_below_drewN | apply below_drew1 | refine below_set ?_ GE184.out) | exact HB.out)⟩⟩
  case rest =>
    clear HC2
    try clear p2
    try clear c5
    try clear c5b0
    try clear c5b1
    try clear hcz4_0
    try clear hcz4_1
    try clear hcz4_2
    try clear hfz4_0
    try clear hfz4_1
    try clear hfz4_2
    obtain ⟨kq, x5_1, rfl, HA, HJ1, BK184, HB⟩ := hcut
    cases kq with
    | zero => exact absurd HA.out (by simp [comitiaref4_check.j0])
    | succ kj1 =>
      have H := HA.out
      clear HA
      simp only [comitiaref4_check.j0] at H
      by_cases c6 : x5_1 = true
      · subst c6
        have H1 : (if a0_1 < 1 then (some 1) else (if a0_1 > 120 then (some 1) else (if a0_2.toList = ([] : List UInt8) then (some 0) else (some 1)))) = some r := by rw [if_pos rfl] at H; exact H
        clear H
        have H := H1
        clear H1
        by_cases c7 : a0_1 < 1
        · rw [if_pos c7] at H
          have c7b0 : decide (a0_1 < 1) = true := decide_eq_true c7
          clear c7
          obtain rfl := Option.some.inj H
          have hcz8_0 : wc.cell? ⟨gb184, 0, none⟩ = some (.int .i64 a0_0) := (blk_cell BK184.out 0).trans rfl
          have hcz8_1 : wc.cell? ⟨gb184, 1, none⟩ = some (.int .i64 a0_1) := (blk_cell BK184.out 1).trans rfl
          have hcz8_2 : wc.cell? ⟨gb184, 2, none⟩ = some (.string a0_2) := (blk_cell BK184.out 2).trans rfl
          have hfz8_0 := blk_frozen BK184.out 0
          have hfz8_1 := blk_frozen BK184.out 1
          have hfz8_2 := blk_frozen BK184.out 2
          go_wp2
          go_ret
          exact ⟨by first | rfl | (simp [errW_none, errW_some] <;> rfl) | (simp [*, errW_none, errW_some] <;> rfl), by repeat (first | (with_reducible first | exact HB.out | apply below_alloc | apply pw_below_drewN | apply below_drew1 | refine below_set ?_ GE184.out) | exact HB.out)⟩
        · rw [if_neg c7] at H
          have c7b0 : decide (a0_1 < 1) = false := decide_eq_false c7
          clear c7
          by_cases c9 : a0_1 > 120
          · rw [if_pos c9] at H
            have c9b0 : decide (120 < a0_1) = true := decide_eq_true c9
            clear c9
            obtain rfl := Option.some.inj H
            have hcz10_0 : wc.cell? ⟨gb184, 0, none⟩ = some (.int .i64 a0_0) := (blk_cell BK184.out 0).trans rfl
            have hcz10_1 : wc.cell? ⟨gb184, 1, none⟩ = some (.int .i64 a0_1) := (blk_cell BK184.out 1).trans rfl
            have hcz10_2 : wc.cell? ⟨gb184, 2, none⟩ = some (.string a0_2) := (blk_cell BK184.out 2).trans rfl
            have hfz10_0 := blk_frozen BK184.out 0
            have hfz10_1 := blk_frozen BK184.out 1
            have hfz10_2 := blk_frozen BK184.out 2
            go_wp2
            go_ret
            exact ⟨by first | rfl | (simp [errW_none, errW_some] <;> rfl) | (simp [*, errW_none, errW_some] <;> rfl), by repeat (first | (with_reducible first | exact HB.out | apply below_alloc | apply pw_below_drewN | apply below_drew1 | refine below_set ?_ GE184.out) | exact HB.out)⟩
          · rw [if_neg c9] at H
            have c9b0 : decide (120 < a0_1) = false := decide_eq_false c9
            clear c9
            by_cases c11 : a0_2.toList = ([] : List UInt8)
            · rw [if_pos c11] at H
              have c11b0 : (a0_2.toList == ([] : List UInt8)) = true := beq_iff_eq.mpr c11
              have c11b1 : (a0_2.toList != ([] : List UInt8)) = false := bne_eq_false_iff_eq.mpr c11
              clear c11
              obtain rfl := Option.some.inj H
              have hcz12_0 : wc.cell? ⟨gb184, 0, none⟩ = some (.int .i64 a0_0) := (blk_cell BK184.out 0).trans rfl
              have hcz12_1 : wc.cell? ⟨gb184, 1, none⟩ = some (.int .i64 a0_1) := (blk_cell BK184.out 1).trans rfl
              have hcz12_2 : wc.cell? ⟨gb184, 2, none⟩ = some (.string a0_2) := (blk_cell BK184.out 2).trans rfl
              have hfz12_0 := blk_frozen BK184.out 0
              have hfz12_1 := blk_frozen BK184.out 1
              have hfz12_2 := blk_frozen BK184.out 2
              go_wp2
              go_ret
              exact ⟨by first | rfl | (simp [errW_none, errW_some] <;> rfl) | (simp [*, errW_none, errW_some] <;> rfl), by repeat (first | (with_reducible first | exact HB.out | apply below_alloc | apply pw_below_drewN | apply below_drew1 | refine below_set ?_ GE184.out) | exact HB.out)⟩
            · rw [if_neg c11] at H
              have c11b0 : (a0_2.toList == ([] : List UInt8)) = false := beq_eq_false_iff_ne.mpr c11
              have c11b1 : (a0_2.toList != ([] : List UInt8)) = true := bne_iff_ne.mpr c11
              obtain rfl := Option.some.inj H
              have hcz13_0 : wc.cell? ⟨gb184, 0, none⟩ = some (.int .i64 a0_0) := (blk_cell BK184.out 0).trans rfl
              have hcz13_1 : wc.cell? ⟨gb184, 1, none⟩ = some (.int .i64 a0_1) := (blk_cell BK184.out 1).trans rfl
              have hcz13_2 : wc.cell? ⟨gb184, 2, none⟩ = some (.string a0_2) := (blk_cell BK184.out 2).trans rfl
              have hfz13_0 := blk_frozen BK184.out 0
              have hfz13_1 := blk_frozen BK184.out 1
              have hfz13_2 := blk_frozen BK184.out 2
              go_wp2
              go_ret
              exact ⟨by first | rfl | (simp [errW_none, errW_some] <;> rfl) | (simp [*, errW_none, errW_some] <;> rfl), by repeat (first | (with_reducible first | exact HB.out | apply below_alloc | apply pw_below_drewN | apply below_drew1 | refine below_set ?_ GE184.out) | exact HB.out)⟩
      · replace c6 := Bool.eq_false_iff.mpr c6
        subst c6
        have H1 : (if a0_0 = 2 then (if a0_1 = 0 then (comitiaref4_check.j1 kj1 (a0_2.toList == ([] : List UInt8)) a0_0 a0_1 a0_2) else (comitiaref4_check.j1 kj1 true a0_0 a0_1 a0_2)) else (some 3)) = some r := by rw [if_neg (show ¬ (false = true) by decide)] at H; exact H
        clear H
        have H := H1
        clear H1
        by_cases c14 : a0_0 = 2
        · rw [if_pos c14] at H
          have c14b0 : (a0_0 == 2) = true := beq_iff_eq.mpr c14
          have c14b1 : (a0_0 != 2) = false := bne_eq_false_iff_eq.mpr c14
          clear c14
          have HC15 := Aside0.mk H
          clear H
          go_upto_region 8 with (fail)
          go_cut [30] (fun v30 wc => ∃ (kq : Nat) (x30_14 : Bool), v30 = .bool x30_14 ∧ Aside0 (comitiaref4_check.j1 kq x30_14 a0_0 a0_1 a0_2 = some r) ∧ Aside0 (kq ≤ kj1) ∧ Aside0 (wc.heap[gb184]? = some (.cells #[.int .i64 a0_0, .int .i64 a0_1, .string a0_2] 34 (0, 0))) ∧ Aside0 (Below w.heap.size w wc))
          case first =>
            have H := HC15.out
            clear HC15
            by_cases c16 : a0_1 = 0
            · rw [if_pos c16] at H
              have c16b0 : (a0_1 == 0) = true := beq_iff_eq.mpr c16
              have c16b1 : (a0_1 != 0) = false := bne_eq_false_iff_eq.mpr c16
              clear c16
              (first | rw [c16b0] | rw [c16b1] | (simp only [i64_w, i32_w]; rw [c16b0]) | skip)
              have H' := Aside0.mk H
              clear H
              have hcz17_0 : wc.cell? ⟨gb184, 0, none⟩ = some (.int .i64 a0_0) := (blk_cell BK184.out 0).trans rfl
              have hcz17_1 : wc.cell? ⟨gb184, 1, none⟩ = some (.int .i64 a0_1) := (blk_cell BK184.out 1).trans rfl
              have hcz17_2 : wc.cell? ⟨gb184, 2, none⟩ = some (.string a0_2) := (blk_cell BK184.out 2).trans rfl
              have hfz17_0 := blk_frozen BK184.out 0
              have hfz17_1 := blk_frozen BK184.out 1
              have hfz17_2 := blk_frozen BK184.out 2
              go_wp2
              go_meet
              case rel => exact ⟨_, ((a0_2.toList == ([] : List UInt8))), (by first | rfl | (simp; done) | (simp [*]; done) | exact congrArg Value.bool (emp_ne _)), H', ⟨by have := HJ1.out; first | omega | exact Nat.le_refl _⟩, ⟨by (with_reducible repeat (first | refine blk_drewN ?_ _ | refine blk_drew ?_ | refine blk_alloc ?_ _)); exact BK184.out⟩, ⟨by repeat (first | (with_reducible first | exact HB.out | apply below_alloc | apply pw_below_drewN | apply below_drew1 | refine below_set ?_ GE184.out) | exact HB.out)⟩⟩
            · rw [if_neg c16] at H
              have c16b0 : (a0_1 == 0) = false := beq_eq_false_iff_ne.mpr c16
              have c16b1 : (a0_1 != 0) = true := bne_iff_ne.mpr c16
              (first | rw [c16b0] | rw [c16b1] | (simp only [i64_w, i32_w]; rw [c16b0]) | skip)
              have H' := Aside0.mk H
              clear H
              have hcz18_0 : wc.cell? ⟨gb184, 0, none⟩ = some (.int .i64 a0_0) := (blk_cell BK184.out 0).trans rfl
              have hcz18_1 : wc.cell? ⟨gb184, 1, none⟩ = some (.int .i64 a0_1) := (blk_cell BK184.out 1).trans rfl
              have hcz18_2 : wc.cell? ⟨gb184, 2, none⟩ = some (.string a0_2) := (blk_cell BK184.out 2).trans rfl
              have hfz18_0 := blk_frozen BK184.out 0
              have hfz18_1 := blk_frozen BK184.out 1
              have hfz18_2 := blk_frozen BK184.out 2
              go_wp2
              go_meet
              case rel => exact ⟨_, (true), (by first | rfl | (simp; done) | (simp [*]; done) | exact congrArg Value.bool (emp_ne _)), H', ⟨by have := HJ1.out; first | omega | exact Nat.le_refl _⟩, ⟨by (with_reducible repeat (first | refine blk_drewN ?_ _ | refine blk_drew ?_ | refine blk_alloc ?_ _)); exact BK184.out⟩, ⟨by repeat (first | (with_reducible first | exact HB.out | apply below_alloc | apply pw_below_drewN | apply below_drew1 | refine below_set ?_ GE184.out) | exact HB.out)⟩⟩
          case rest =>
            clear HC15
            try clear c1
            try clear p2
            try clear c5
            try clear c5b0
            try clear c5b1
            try clear c6
            try clear c7
            try clear c7b0
            try clear c9
            try clear c9b0
            try clear c11
            try clear c11b0
            try clear c11b1
            try clear c14
            try clear c14b0
            try clear c14b1
            try clear c16
            try clear c16b0
            try clear c16b1
            try clear hcz10_0
            try clear hcz10_1
            try clear hcz10_2
            try clear hcz12_0
            try clear hcz12_1
            try clear hcz12_2
            try clear hcz13_0
            try clear hcz13_1
            try clear hcz13_2
            try clear hcz17_0
            try clear hcz17_1
            try clear hcz17_2
            try clear hcz18_0
            try clear hcz18_1
            try clear hcz18_2
            try clear hcz4_0
            try clear hcz4_1
            try clear hcz4_2
            try clear hcz8_0
            try clear hcz8_1
            try clear hcz8_2
            try clear hfz10_0
            try clear hfz10_1
            try clear hfz10_2
            try clear hfz12_0
            try clear hfz12_1
            try clear hfz12_2
            try clear hfz13_0
            try clear hfz13_1
            try clear hfz13_2
            try clear hfz17_0
            try clear hfz17_1
            try clear hfz17_2
            try clear hfz18_0
            try clear hfz18_1
            try clear hfz18_2
            try clear hfz4_0
            try clear hfz4_1
            try clear hfz4_2
            try clear hfz8_0
            try clear hfz8_1
            try clear hfz8_2
            try clear p2
            obtain ⟨kq, x30_14, rfl, HA, HJ14, BK184, HB⟩ := hcut
            cases kq with
            | zero => exact absurd HA.out (by simp [comitiaref4_check.j1])
            | succ kj14 =>
              have H := HA.out
              clear HA
              simp only [comitiaref4_check.j1] at H
              by_cases c19 : x30_14 = true
              · subst c19
                have H1 : (some 1) = some r := by rw [if_pos rfl] at H; exact H
                clear H
                have H := H1
                clear H1
                obtain rfl := Option.some.inj H
                go_wp2
                go_ret
                exact ⟨by first | rfl | (simp [errW_none, errW_some] <;> rfl) | (simp [*, errW_none, errW_some] <;> rfl), by repeat (first | (with_reducible first | exact HB.out | apply below_alloc | apply pw_below_drewN | apply below_drew1 | refine below_set ?_ GE184.out) | exact HB.out)⟩
              · replace c19 := Bool.eq_false_iff.mpr c19
                subst c19
                have H1 : (if (a0_2.size : Int) > 120 then (some 5) else (some 0)) = some r := by rw [if_neg (show ¬ (false = true) by decide)] at H; exact H
                clear H
                have H := H1
                clear H1
                by_cases c20 : (a0_2.size : Int) > 120
                · rw [if_pos c20] at H
                  have c20b0 : decide (120 < (a0_2.size : Int)) = true := decide_eq_true c20
                  have c20b1 : decide (120 < a0_2.size) = true := decide_eq_true (by omega)
                  clear c20
                  obtain rfl := Option.some.inj H
                  have hcz21_0 : wc.cell? ⟨gb184, 0, none⟩ = some (.int .i64 a0_0) := (blk_cell BK184.out 0).trans rfl
                  have hcz21_1 : wc.cell? ⟨gb184, 1, none⟩ = some (.int .i64 a0_1) := (blk_cell BK184.out 1).trans rfl
                  have hcz21_2 : wc.cell? ⟨gb184, 2, none⟩ = some (.string a0_2) := (blk_cell BK184.out 2).trans rfl
                  have hfz21_0 := blk_frozen BK184.out 0
                  have hfz21_1 := blk_frozen BK184.out 1
                  have hfz21_2 := blk_frozen BK184.out 2
                  go_wp2
                  go_ret
                  exact ⟨by first | rfl | (simp [errW_none, errW_some] <;> rfl) | (simp [*, errW_none, errW_some] <;> rfl), by repeat (first | (with_reducible first | exact HB.out | apply below_alloc | apply pw_below_drewN | apply below_drew1 | refine below_set ?_ GE184.out) | exact HB.out)⟩
                · rw [if_neg c20] at H
                  have c20b0 : decide (120 < (a0_2.size : Int)) = false := decide_eq_false c20
                  have c20b1 : decide (120 < a0_2.size) = false := decide_eq_false (by omega)
                  clear c20
                  obtain rfl := Option.some.inj H
                  have hcz22_0 : wc.cell? ⟨gb184, 0, none⟩ = some (.int .i64 a0_0) := (blk_cell BK184.out 0).trans rfl
                  have hcz22_1 : wc.cell? ⟨gb184, 1, none⟩ = some (.int .i64 a0_1) := (blk_cell BK184.out 1).trans rfl
                  have hcz22_2 : wc.cell? ⟨gb184, 2, none⟩ = some (.string a0_2) := (blk_cell BK184.out 2).trans rfl
                  have hfz22_0 := blk_frozen BK184.out 0
                  have hfz22_1 := blk_frozen BK184.out 1
                  have hfz22_2 := blk_frozen BK184.out 2
                  go_wp2
                  go_ret
                  exact ⟨by first | rfl | (simp [errW_none, errW_some] <;> rfl) | (simp [*, errW_none, errW_some] <;> rfl), by repeat (first | (with_reducible first | exact HB.out | apply below_alloc | apply pw_below_drewN | apply below_drew1 | refine below_set ?_ GE184.out) | exact HB.out)⟩
        · rw [if_neg c14] at H
          have c14b0 : (a0_0 == 2) = false := beq_eq_false_iff_ne.mpr c14
          have c14b1 : (a0_0 != 2) = true := bne_iff_ne.mpr c14
          obtain rfl := Option.some.inj H
          go_wp2
          go_ret
          exact ⟨by first | rfl | (simp [errW_none, errW_some] <;> rfl) | (simp [*, errW_none, errW_some] <;> rfl), by repeat (first | (with_reducible first | exact HB.out | apply below_alloc | apply pw_below_drewN | apply below_drew1 | refine below_set ?_ GE184.out) | exact HB.out)⟩

end Go.Proofs.Ytpcgamgjgfdpaaa.Q

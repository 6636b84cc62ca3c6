/- Contracts of Go functions: each call answers what the Lean function of its name answers. Conditions: stand in each theorem. Written by this seat's own program over the kit's printer. -/
import Derived.Test.YtmblpbaefoapaaaQ0
import Derived.Test.YtmblpbaefoapaaaQxcm
import Derived.Test.YtmblpbaefoapaaaQxcomitialaw4within
namespace Go.Proofs.Ytmblpbaefoapaaa.Q
open Go.RowKit Go.Proofs.YtmblpbaefoapaaaW.PrintWords Go.Proofs.YtmblpbaefoapaaaW.PrintLast Go.Proofs.YtmblpbaefoapaaaW.PrintMore
attribute [local go_sem] max2_int min2_int max_two min_two max_three min_three max_four min_four   -- for this text's walks alone
set_option linter.unusedVariables false
set_option linter.unusedSimpArgs false

/-! ### comitialaw4_Make: function 12 -/
mutual
def comitialaw4_Make.l0 : Nat → Int → List Int → List (S49) → Int → Int → Option ((List (S49)))
  | 0, _, _, _, _, _ => none
  | k + 1, x0, x1, x5, x6, x7 => if x7 < (x1.length : Int) then (if x7 < 12 then (comitialaw4_Make.j1 k x0 x1 x5 x6 x7 (decide (x0 > 0))) else (comitialaw4_Make.j1 k x0 x1 x5 x6 x7 false)) else (comitialaw4_Make.j1 k x0 x1 x5 x6 x7 false)
def comitialaw4_Make.j1 : Nat → Int → List Int → List (S49) → Int → Int → Bool → Option ((List (S49)))
  | 0, _, _, _, _, _, _ => none
  | k + 1, x0, x1, x5, x6, x7, x22 => if x22 = true then (if 0 ≤ x7 then (if x7 < (x1.length : Int) then ((comitialaw4_within.f (wrap64 (Int.tdiv (rd x1 x7) 7)) (mn x0 9)).bind fun t166 => ((comitialaw4_within.f (rd x1 x7) 4).bind fun t168 => (if t168 = 0 then (comitialaw4_Make.j2 k x0 x1 x5 x6 x7 (wrap64 (1 + t166)) t168 (t168 == 0)) else (comitialaw4_Make.j2 k x0 x1 x5 x6 x7 (wrap64 (1 + t166)) t168 (t168 == 1))))) else (none)) else (none)) else (if x0 > 0 then (if x5.length < 4398046511104 then ((some (x5 ++ [(⟨1, x0, (⟨#[]⟩ : ByteArray)⟩ : S49)] : List (S49))).bind fun y180 => (if (x1.length : Int) > 0 then (if 0 < (x1.length : Int) then ((comitialaw4_within.f (wrap64 (Int.tdiv (rd x1 0) 3)) 3).bind fun t184 => (if t184 = 0 then (if x6 ≤ 115 then (if y180.length < 4398046511104 then (some (y180 ++ [(⟨2, 0, (⟨#[122]⟩ : ByteArray)⟩ : S49)])) else (none)) else (some y180)) else (some y180))) else (none)) else (some y180))) else (none)) else (if (x1.length : Int) > 0 then (if 0 < (x1.length : Int) then ((comitialaw4_within.f (wrap64 (Int.tdiv (rd x1 0) 3)) 3).bind fun t189 => (if t189 = 0 then (if x6 ≤ 115 then (if x5.length < 4398046511104 then (some (x5 ++ [(⟨2, 0, (⟨#[122]⟩ : ByteArray)⟩ : S49)])) else (none)) else (some x5)) else (some x5))) else (none)) else (some x5)))
def comitialaw4_Make.j2 : Nat → Int → List Int → List (S49) → Int → Int → Int → Int → Bool → Option ((List (S49)))
  | 0, _, _, _, _, _, _, _, _ => none
  | k + 1, x0, x1, x5, x6, x7, x8, x38, x39 => if x39 = true then (if x5.length < 4398046511104 then (comitialaw4_Make.l0 k (wrap64 (x0 - x8)) x1 (x5 ++ [(⟨1, x8, (⟨#[]⟩ : ByteArray)⟩ : S49)]) x6 (wrap64 (x7 + 1))) else (none)) else (if x38 = 2 then (if x5.length < 4398046511104 then (comitialaw4_Make.l0 k (wrap64 (x0 - x8)) x1 (x5 ++ [(⟨3, x8, (⟨#[]⟩ : ByteArray)⟩ : S49)]) (wrap64 (x6 - x8)) (wrap64 (x7 + 1))) else (none)) else (if x38 = 3 then (if 0 ≤ x7 then (if x7 < (x1.length : Int) then ((comitialaw4_within.f (wrap64 (Int.tdiv (rd x1 x7) 7)) 5).bind fun t176 => (if 0 ≤ (wrap64 (1 + t176)) then (if (wrap64 (1 + t176)) ≤ 10 then (if (wrap64 (x6 + (((⟨#[97, 98, 99, 100, 101, 102, 103, 104, 105, 106]⟩ : ByteArray).extract 0 ((wrap64 (1 + t176)) : Int).toNat).size : Int))) ≤ 120 then (if x5.length < 4398046511104 then (comitialaw4_Make.l0 k x0 x1 (x5 ++ [(⟨2, 0, (⟨#[97, 98, 99, 100, 101, 102, 103, 104, 105, 106]⟩ : ByteArray).extract 0 ((wrap64 (1 + t176)) : Int).toNat⟩ : S49)]) (wrap64 (x6 + (((⟨#[97, 98, 99, 100, 101, 102, 103, 104, 105, 106]⟩ : ByteArray).extract 0 ((wrap64 (1 + t176)) : Int).toNat).size : Int))) (wrap64 (x7 + 1))) else (none)) else (comitialaw4_Make.l0 k x0 x1 x5 x6 (wrap64 (x7 + 1)))) else (none)) else (none))) else (none)) else (none)) else (comitialaw4_Make.l0 k x0 x1 x5 x6 (wrap64 (x7 + 1)))))
end
def comitialaw4_Make.f (k : Nat) (a0 : Int) (l1 : List Int) : Option ((List (S49))) := comitialaw4_Make.l0 k a0 l1 ([] : List (S49)) a0 0
theorem comitialaw4_Make.mono_l : ∀ k, (∀ y0 y1 y2 y3 y4, LeO (comitialaw4_Make.l0 k y0 y1 y2 y3 y4) (comitialaw4_Make.l0 (k + 1) y0 y1 y2 y3 y4)) ∧ (∀ y0 y1 y2 y3 y4 y5, LeO (comitialaw4_Make.j1 k y0 y1 y2 y3 y4 y5) (comitialaw4_Make.j1 (k + 1) y0 y1 y2 y3 y4 y5)) ∧ (∀ y0 y1 y2 y3 y4 y5 y6 y7, LeO (comitialaw4_Make.j2 k y0 y1 y2 y3 y4 y5 y6 y7) (comitialaw4_Make.j2 (k + 1) y0 y1 y2 y3 y4 y5 y6 y7))
  | 0 => ⟨fun _ _ _ _ _ r h => by simp [comitialaw4_Make.l0] at h, fun _ _ _ _ _ _ r h => by simp [comitialaw4_Make.j1] at h, fun _ _ _ _ _ _ _ _ r h => by simp [comitialaw4_Make.j2] at h⟩
  | k + 1 => by
    obtain ⟨ih0, ih1, ih2⟩ := comitialaw4_Make.mono_l k
    refine ⟨?_, ?_, ?_⟩
    · intro y0 y1 y2 y3 y4
      unfold comitialaw4_Make.l0
      repeat' first
      | (with_reducible exact ih0 _ _ _ _ _)
      | (with_reducible exact ih1 _ _ _ _ _ _)
      | (with_reducible exact ih2 _ _ _ _ _ _ _ _)
      | (with_reducible exact LeO.refl _)
      | (with_reducible exact LeO.none _)
      | (with_reducible refine LeO.ite ?_ ?_)
      | (with_reducible refine LeO.bind ?_ (fun _ => ?_))
      | exact ih0 _ _ _ _ _
      | exact ih1 _ _ _ _ _ _
      | exact ih2 _ _ _ _ _ _ _ _
      | exact LeO.none _
      | refine LeO.ite ?_ ?_
      | refine LeO.bind ?_ (fun _ => ?_)
    · intro y0 y1 y2 y3 y4 y5
      unfold comitialaw4_Make.j1
      repeat' first
      | (with_reducible exact ih0 _ _ _ _ _)
      | (with_reducible exact ih1 _ _ _ _ _ _)
      | (with_reducible exact ih2 _ _ _ _ _ _ _ _)
      | (with_reducible exact LeO.refl _)
      | (with_reducible exact LeO.none _)
      | (with_reducible refine LeO.ite ?_ ?_)
      | (with_reducible refine LeO.bind ?_ (fun _ => ?_))
      | exact ih0 _ _ _ _ _
      | exact ih1 _ _ _ _ _ _
      | exact ih2 _ _ _ _ _ _ _ _
      | exact LeO.none _
      | refine LeO.ite ?_ ?_
      | refine LeO.bind ?_ (fun _ => ?_)
    · intro y0 y1 y2 y3 y4 y5 y6 y7
      unfold comitialaw4_Make.j2
      repeat' first
      | (with_reducible exact ih0 _ _ _ _ _)
      | (with_reducible exact ih1 _ _ _ _ _ _)
      | (with_reducible exact ih2 _ _ _ _ _ _ _ _)
      | (with_reducible exact LeO.refl _)
      | (with_reducible exact LeO.none _)
      | (with_reducible refine LeO.ite ?_ ?_)
      | (with_reducible refine LeO.bind ?_ (fun _ => ?_))
      | exact ih0 _ _ _ _ _
      | exact ih1 _ _ _ _ _ _
      | exact ih2 _ _ _ _ _ _ _ _
      | exact LeO.none _
      | refine LeO.ite ?_ ?_
      | refine LeO.bind ?_ (fun _ => ?_)
theorem comitialaw4_Make.mono : ∀ a0 a1 k, LeO (comitialaw4_Make.f k a0 a1) (comitialaw4_Make.f (k + 1) a0 a1) := by
  intro a0 a1 k
  obtain ⟨ih0, ih1, ih2⟩ := comitialaw4_Make.mono_l k
  unfold comitialaw4_Make.f
  repeat' first
      | (with_reducible exact ih0 _ _ _ _ _)
      | (with_reducible exact ih1 _ _ _ _ _ _)
      | (with_reducible exact ih2 _ _ _ _ _ _ _ _)
      | (with_reducible exact LeO.refl _)
      | (with_reducible exact LeO.none _)
      | (with_reducible refine LeO.ite ?_ ?_)
      | (with_reducible refine LeO.bind ?_ (fun _ => ?_))
      | exact ih0 _ _ _ _ _
      | exact ih1 _ _ _ _ _ _
      | exact ih2 _ _ _ _ _ _ _ _
      | exact LeO.none _
      | refine LeO.ite ?_ ?_
      | refine LeO.bind ?_ (fun _ => ?_)
set_option maxHeartbeats 8000000 in
set_option maxRecDepth 100000 in
theorem comitialaw4_Make.calls (k : Nat) (a0 : Int) (A1 : Option Addr) (c1 : Nat) (l1 : List Int) (r : List (S49)) (w : World) (hr1 : Kd.C (Kd.int .i64) w A1 l1.length l1) (hc1 : l1.length ≤ c1) (h : comitialaw4_Make.f k a0 l1 = some r) :
    Calls Try.prog 12 #[.int .i64 a0, .slice A1 l1.length c1] w fun e w' => ∃ v0_ : Value, e = .returned (v0_) ∧ Kd.R k49 49 w' w.heap.size (fun _ => True) v0_ r ∧ Below w.heap.size w w' := by
  have hu49 := Try.underlying49
  have HR1 := Aside0.mk hr1
  have HC1 := Aside0.mk hc1
  clear hr1 hc1
  have HB := Aside0.mk (Below.refl w.heap.size w)
  have H : (comitialaw4_Make.l0 k a0 l1 ([] : List (S49)) a0 0) = some r := h
  clear h
  have H' := Aside0.mk H
  clear H
  go_enter Try.func12, Try.ntmps12
  go_wp2
  go_loopg [0, 5, 6, 7] k (fun kq v0 v5 v6 v7 w' => ∃ (x0_1 : Int) (x5_1 : List (S49)) (x6_1 : Int) (x7_1 : Int), v0 = .int .i64 x0_1 ∧ v6 = .int .i64 x6_1 ∧ v7 = .int .i64 x7_1 ∧ Aside0 (comitialaw4_Make.l0 kq x0_1 l1 x5_1 x6_1 x7_1 = some r) ∧ Aside0 (kq ≤ k) ∧ Aside0 (Kd.R k49 49 w' w.heap.size (fun _ => True) v5 x5_1) ∧ Aside0 (Below w.heap.size w w'))
  case atStart => exact ⟨(a0), (([] : List (S49))), (a0), (0), (by first | rfl | (simp; done) | (simp [*]; done) | exact congrArg Value.bool (emp_ne _)), (by first | rfl | (simp; done) | (simp [*]; done) | exact congrArg Value.bool (emp_ne _)), (by first | rfl | (simp; done) | (simp [*]; done) | exact congrArg Value.bool (emp_ne _)), H', ⟨Nat.le_refl _⟩, ⟨by first | exact Kd.R_nil _ _ _ _ _ | exact Kd.N_nil _ _ _ _ _ | exact Kd.V_nil _ _ _ _ _ | exact Kd.Q_nil _ _ _ _ _ | exact Kd.S_nil _ _ _ _ _⟩, ⟨by repeat (first | (with_reducible first | exact HB.out | apply below_alloc | apply pw_below_drewN | apply below_drew1) | exact HB.out)⟩⟩
  case round =>
    clear H'
    try clear c1
    try clear p2
    obtain ⟨x0_1, x5_1, x6_1, x7_1, rfl, rfl, rfl, HA, HK1, HO_5, HB⟩ := hrel
    cases gk with
    | zero => exact absurd HA.out (by simp [comitialaw4_Make.l0])
    | succ k1 =>
      have H := HA.out
      clear HA
      simp only [comitialaw4_Make.l0] at H
      have HC3 := Aside0.mk H
      clear H
      go_upto_region 4 with (fail)
      go_cut [22] (fun v22 wc => ∃ (kq : Nat) (x22_2 : Bool), v22 = .bool x22_2 ∧ Aside0 (comitialaw4_Make.j1 kq x0_1 l1 x5_1 x6_1 x7_1 x22_2 = some r) ∧ Aside0 (kq ≤ k1) ∧ Aside0 (Kd.R k49 49 wc w.heap.size (fun _ => True) u5 x5_1) ∧ Aside0 (Below w.heap.size w wc))
      case first =>
        have H := HC3.out
        clear HC3
        by_cases c4 : x7_1 < (l1.length : Int)
        · rw [if_pos c4] at H
          have c4b0 : decide (x7_1 < (l1.length : Int)) = true := decide_eq_true c4
          clear c4
          (first | rw [c4b0] | rw [c4b1] | (simp only [i64_w, i32_w]; rw [c4b0]) | skip)
          by_cases c5 : x7_1 < 12
          · rw [if_pos c5] at H
            have c5b0 : decide (x7_1 < 12) = true := decide_eq_true c5
            clear c5
            have H' := Aside0.mk H
            clear H
            go_wp2
            go_meet
            case rel => exact ⟨_, (decide (x0_1 > 0)), (by first | rfl | (simp; done) | (simp [*]; done) | exact congrArg Value.bool (emp_ne _)), H', ⟨by have := HK1.out; first | omega | exact Nat.le_refl _⟩, ⟨by (with_reducible repeat (first | apply Kd.R_alloc | apply Kd.R_drewN | apply Kd.R_drew)); exact HO_5.out⟩, ⟨by repeat (first | (with_reducible first | exact HB.out | apply below_alloc | apply pw_below_drewN | apply below_drew1) | exact HB.out)⟩⟩
          · rw [if_neg c5] at H
            have c5b0 : decide (x7_1 < 12) = false := decide_eq_false c5
            clear c5
            have H' := Aside0.mk H
            clear H
            go_wp2
            go_meet
            case rel => exact ⟨_, (false), (by first | rfl | (simp; done) | (simp [*]; done) | exact congrArg Value.bool (emp_ne _)), H', ⟨by have := HK1.out; first | omega | exact Nat.le_refl _⟩, ⟨by (with_reducible repeat (first | apply Kd.R_alloc | apply Kd.R_drewN | apply Kd.R_drew)); exact HO_5.out⟩, ⟨by repeat (first | (with_reducible first | exact HB.out | apply below_alloc | apply pw_below_drewN | apply below_drew1) | exact HB.out)⟩⟩
        · rw [if_neg c4] at H
          have c4b0 : decide (x7_1 < (l1.length : Int)) = false := decide_eq_false c4
          clear c4
          (first | rw [c4b0] | rw [c4b1] | (simp only [i64_w, i32_w]; rw [c4b0]) | skip)
          have H' := Aside0.mk H
          clear H
          go_wp2
          go_meet
          case rel => exact ⟨_, (false), (by first | rfl | (simp; done) | (simp [*]; done) | exact congrArg Value.bool (emp_ne _)), H', ⟨by have := HK1.out; first | omega | exact Nat.le_refl _⟩, ⟨by (with_reducible repeat (first | apply Kd.R_alloc | apply Kd.R_drewN | apply Kd.R_drew)); exact HO_5.out⟩, ⟨by repeat (first | (with_reducible first | exact HB.out | apply below_alloc | apply pw_below_drewN | apply below_drew1) | exact HB.out)⟩⟩
      case rest =>
        clear HC3
        try clear c1
        try clear p2
        try clear c4
        try clear c4b0
        try clear c5
        try clear c5b0
        try clear p2
        obtain ⟨kq, x22_2, rfl, HA, HJ2, HO_5, HB⟩ := hcut
        cases kq with
        | zero => exact absurd HA.out (by simp [comitialaw4_Make.j1])
        | succ kj2 =>
          have H := HA.out
          clear HA
          simp only [comitialaw4_Make.j1] at H
          by_cases c6 : x22_2 = true
          · subst c6
            have H1 : (if 0 ≤ x7_1 then (if x7_1 < (l1.length : Int) then ((comitialaw4_within.f (wrap64 (Int.tdiv (rd l1 x7_1) 7)) (mn x0_1 9)).bind fun t166 => ((comitialaw4_within.f (rd l1 x7_1) 4).bind fun t168 => (if t168 = 0 then (comitialaw4_Make.j2 kj2 x0_1 l1 x5_1 x6_1 x7_1 (wrap64 (1 + t166)) t168 (t168 == 0)) else (comitialaw4_Make.j2 kj2 x0_1 l1 x5_1 x6_1 x7_1 (wrap64 (1 + t166)) t168 (t168 == 1))))) else (none)) else (none)) = some r := by rw [if_pos rfl] at H; exact H
            clear H
            have H := H1
            clear H1
            by_cases c7 : 0 ≤ x7_1
            · rw [if_pos c7] at H
              have c7b0 : decide (0 ≤ x7_1) = true := decide_eq_true c7
              clear c7
              by_cases c8 : x7_1 < (l1.length : Int)
              · rw [if_pos c8] at H
                have c8b0 : decide (x7_1 < (l1.length : Int)) = true := decide_eq_true c8
                clear c8
                obtain ⟨ji9, hji9⟩ : ∃ j_ : Int, (mn x0_1 9) = j_ := ⟨_, rfl⟩
                replace H : ((comitialaw4_within.f (wrap64 (Int.tdiv (rd l1 x7_1) 7)) (ji9)).bind fun t166 => ((comitialaw4_within.f (rd l1 x7_1) 4).bind fun t168 => (if t168 = 0 then (comitialaw4_Make.j2 kj2 x0_1 l1 x5_1 x6_1 x7_1 (wrap64 (1 + t166)) t168 (t168 == 0)) else (comitialaw4_Make.j2 kj2 x0_1 l1 x5_1 x6_1 x7_1 (wrap64 (1 + t166)) t168 (t168 == 1))))) = some r := by first | (rw [hji9] at H; exact H) | (simp only [hji9] at H ⊢; exact H)
                have hji9_ : (if 9 < x0_1 then 9 else x0_1) = ji9 := hji9
                replace H := Option.bind_eq_some_iff.mp H
                obtain ⟨t166, A100, H⟩ := H
                replace H : ((comitialaw4_within.f (rd l1 x7_1) 4).bind fun t168 => (if t168 = 0 then (comitialaw4_Make.j2 kj2 x0_1 l1 x5_1 x6_1 x7_1 (wrap64 (1 + t166)) t168 (t168 == 0)) else (comitialaw4_Make.j2 kj2 x0_1 l1 x5_1 x6_1 x7_1 (wrap64 (1 + t166)) t168 (t168 == 1)))) = some r := H
                have A10 := Aside0.mk A100
                clear A100
                replace H := Option.bind_eq_some_iff.mp H
                obtain ⟨t168, A110, H⟩ := H
                replace H : (if t168 = 0 then (comitialaw4_Make.j2 kj2 x0_1 l1 x5_1 x6_1 x7_1 (wrap64 (1 + t166)) t168 (t168 == 0)) else (comitialaw4_Make.j2 kj2 x0_1 l1 x5_1 x6_1 x7_1 (wrap64 (1 + t166)) t168 (t168 == 1))) = some r := H
                have A11 := Aside0.mk A110
                clear A110
                have HC12 := Aside0.mk H
                clear H
                have p165 : 0 ≤ (x7_1 : Int) := of_decide_eq_true (by first | (with_reducible assumption) | assumption)
                have q165 : x7_1 < (l1.length : Int) := of_decide_eq_true (by first | (with_reducible assumption) | assumption)
                obtain ⟨ad165, e165, hx165_0⟩ := Kd.at_int HR1.out x7_1 p165 q165
                cases e165
                replace hx165_0 := (HB.out.cell (World.block_lt_of_cell? w _ hx165_0)).trans hx165_0
                replace p165 := eq_true p165
                replace q165 := eq_true q165
                go_upto_if 39 with (first | ((with_reducible refine gate_callee (f := 23) rfl ?_); refine goesL_ (some 32) rfl rfl Try.func23 (by kernel_rfl) rfl #[.int .i64 (wrap64 (Int.tdiv (rd l1 x7_1) 7)), .int .i64 ji9] rfl (by (try simp only [List.map_toArray, List.map_cons, List.map_nil]); first | done | (simp only [hji9]; rfl) | rfl | (simp only [List.length_drop, List.length_take]; rfl)) ?_; (with_reducible refine (comitialaw4_within.calls (wrap64 (Int.tdiv (rd l1 x7_1) 7)) ji9 t166 _ A10.out).mono ?_); rintro e w' ⟨rfl, ⟨nd, rfl⟩⟩; refine ⟨_, rfl, ?_⟩; have p167 : 0 ≤ (x7_1 : Int) := of_decide_eq_true (by first | (with_reducible assumption) | assumption); have q167 : x7_1 < (l1.length : Int) := of_decide_eq_true (by first | (with_reducible assumption) | assumption); obtain ⟨ad167, e167, hx167_0⟩ := Kd.at_int HR1.out x7_1 p167 q167; obtain rfl : ad165 = ad167 := (by injection e167); replace hx167_0 := (HB.out.cell (World.block_lt_of_cell? w _ hx167_0)).trans hx167_0; replace p167 := eq_true p167; replace q167 := eq_true q167) | ((with_reducible refine gate_callee (f := 23) rfl ?_); refine goesL_ (some 38) rfl rfl Try.func23 (by kernel_rfl) rfl #[.int .i64 (rd l1 x7_1), .int .i64 4] rfl (by (try simp only [List.map_toArray, List.map_cons, List.map_nil]); first | done | rfl | (simp only [List.length_drop, List.length_take]; rfl)) ?_; (with_reducible refine (comitialaw4_within.calls (rd l1 x7_1) 4 t168 _ A11.out).mono ?_); rintro e w' ⟨rfl, ⟨nd, rfl⟩⟩; refine ⟨_, rfl, ?_⟩))
                (try simp only [Act.put, List.setIfInBounds_toArray, List.set_cons_zero, List.set_cons_succ])
                go_cut [39] (fun v39 wc => ∃ (kq : Nat) (x39_11 : Bool), v39 = .bool x39_11 ∧ Aside0 (comitialaw4_Make.j2 kq x0_1 l1 x5_1 x6_1 x7_1 (wrap64 (1 + t166)) t168 x39_11 = some r) ∧ Aside0 (kq ≤ kj2) ∧ Aside0 (Kd.R k49 49 wc w.heap.size (fun _ => True) u5 x5_1) ∧ Aside0 (Below w.heap.size w wc))
                case first =>
                  have H := HC12.out
                  clear HC12
                  by_cases c13 : t168 = 0
                  · rw [if_pos c13] at H
                    have c13b0 : (t168 == 0) = true := beq_iff_eq.mpr c13
                    have c13b1 : (t168 != 0) = false := bne_eq_false_iff_eq.mpr c13
                    clear c13
                    (first | rw [c13b0] | rw [c13b1] | (simp only [i64_w, i32_w]; rw [c13b0]) | skip)
                    have H' := Aside0.mk H
                    clear H
                    go_wp2
                    go_meet
                    case rel => exact ⟨_, ((t168 == 0)), (by first | rfl | (simp; done) | (simp [*]; done) | exact congrArg Value.bool (emp_ne _)), H', ⟨by have := HK1.out; have := HJ2.out; first | omega | exact Nat.le_refl _⟩, ⟨by (with_reducible repeat (first | apply Kd.R_alloc | apply Kd.R_drewN | apply Kd.R_drew)); exact HO_5.out⟩, ⟨by repeat (first | (with_reducible first | exact HB.out | apply below_alloc | apply pw_below_drewN | apply below_drew1) | exact HB.out)⟩⟩
                  · rw [if_neg c13] at H
                    have c13b0 : (t168 == 0) = false := beq_eq_false_iff_ne.mpr c13
                    have c13b1 : (t168 != 0) = true := bne_iff_ne.mpr c13
                    (first | rw [c13b0] | rw [c13b1] | (simp only [i64_w, i32_w]; rw [c13b0]) | skip)
                    have H' := Aside0.mk H
                    clear H
                    go_wp2
                    go_meet
                    case rel => exact ⟨_, ((t168 == 1)), (by first | rfl | (simp; done) | (simp [*]; done) | exact congrArg Value.bool (emp_ne _)), H', ⟨by have := HK1.out; have := HJ2.out; first | omega | exact Nat.le_refl _⟩, ⟨by (with_reducible repeat (first | apply Kd.R_alloc | apply Kd.R_drewN | apply Kd.R_drew)); exact HO_5.out⟩, ⟨by repeat (first | (with_reducible first | exact HB.out | apply below_alloc | apply pw_below_drewN | apply below_drew1) | exact HB.out)⟩⟩
                case rest =>
                  clear HC12
                  try clear c1
                  try clear p1
                  try clear q1
                  try clear hx1
                  try clear c2
                  try clear p2
                  try clear c4
                  try clear c4b0
                  try clear c5
                  try clear c5b0
                  try clear c6
                  try clear p6
                  try clear c7
                  try clear c7b0
                  try clear c8
                  try clear c8b0
                  try clear c12
                  try clear c13
                  try clear c13b0
                  try clear c13b1
                  try clear hx165_0
                  try clear hx167_0
                  try clear p165
                  try clear p167
                  try clear p2
                  try clear q165
                  try clear q167
                  obtain ⟨kq, x39_11, rfl, HA, HJ11, HO_5, HB⟩ := hcut
                  cases kq with
                  | zero => exact absurd HA.out (by simp [comitialaw4_Make.j2])
                  | succ kj11 =>
                    have H := HA.out
                    clear HA
                    simp only [comitialaw4_Make.j2] at H
                    by_cases c14 : x39_11 = true
                    · subst c14
                      have H1 : (if x5_1.length < 4398046511104 then (comitialaw4_Make.l0 kj11 (wrap64 (x0_1 - (wrap64 (1 + t166)))) l1 (x5_1 ++ [(⟨1, (wrap64 (1 + t166)), (⟨#[]⟩ : ByteArray)⟩ : S49)]) x6_1 (wrap64 (x7_1 + 1))) else (none)) = some r := by rw [if_pos rfl] at H; exact H
                      clear H
                      have H := H1
                      clear H1
                      by_cases c15 : x5_1.length < 4398046511104
                      · rw [if_pos c15] at H
                        have LMc15 := Aside0.mk c15
                        clear c15
                        obtain ⟨y169, hy169⟩ : ∃ y_ : List (S49), y_ = (x5_1 ++ [(⟨1, (wrap64 (1 + t166)), (⟨#[]⟩ : ByteArray)⟩ : S49)]) := ⟨_, rfl⟩
                        replace H : (comitialaw4_Make.l0 kj11 (wrap64 (x0_1 - (wrap64 (1 + t166)))) l1 y169 x6_1 (wrap64 (x7_1 + 1))) = some r := by first | (rw [hy169]; with_reducible exact H) | (have H2_ := (Option.bind_some _ _).symm.trans H; rw [hy169]; with_reducible exact H2_) | (have H2_ := (Option.bind_some _ _).symm.trans H; with_reducible exact H2_) | with_reducible exact H | (rw [hy169]; exact H) | exact H
                        have Ny169 := Aside0.mk hy169
                        clear hy169
                        have H' := Aside0.mk H
                        clear H
                        go_wp2_with (first | ((with_reducible refine gate_builtin (b := .append) (xs := #[.tmp 42, .tmp 45]) rfl ?_); at_builtin; refine Kd.R_append k49 (w0 := w) w.heap.size rfl (.tmp 42) (.tmp 45) 27 49 (.agg #[(.int .i64 0), (.int .i64 0), (.string ⟨#[]⟩)]) 32 rfl Try.underlying27 info49 rfl (by decide) (by omega) u5 x5_1 (⟨1, (wrap64 (1 + t166)), (⟨#[]⟩ : ByteArray)⟩ : S49) [.int .i64 1, .int .i64 (wrap64 (1 + t166)), .string (⟨#[]⟩ : ByteArray)] (fun _ => True) (fun _ => False) rfl rfl ?aP (fun _ hk => hk.elim) ?aF ?aO ?aB ?aS ?aL ?_; (case aP => exact k49_mkM _ _ _ (⟨1, (wrap64 (1 + t166)), (⟨#[]⟩ : ByteArray)⟩ : S49)); (case aB => exact (by repeat (first | (with_reducible first | exact HB.out | apply below_alloc | apply pw_below_drewN | apply below_drew1) | exact HB.out))); (case aF => exact (fun _ _ => trivial)); (case aO => exact (by (with_reducible repeat (first | apply Kd.R_alloc | apply Kd.R_drewN | apply Kd.R_drew)); exact HO_5.out)); (case aS => exact (below_size (by repeat (first | (with_reducible first | exact HB.out | apply below_alloc | apply pw_below_drewN | apply below_drew1) | exact HB.out)))); (case aL => have := LMc15.out; omega); intro v170 w16 ho hb hg hat; rw [← Ny169.out] at ho; have n0_ := Aside0.mk (hb); have n1_ := Aside0.mk (ho); clear HB; clear HO_5; have HB := n0_; have HO171 := n1_; clear n0_ n1_; clear ho hb hg hat))
                        go_roundg kj11
                        case measure => have := HK1.out; have := HJ2.out; have := HJ11.out; omega
                        case rel => exact ⟨(wrap64 (x0_1 - (wrap64 (1 + t166)))), (y169), (x6_1), (wrap64 (x7_1 + 1)), (by first | rfl | (simp; done) | (simp [*]; done) | exact congrArg Value.bool (emp_ne _)), (by first | rfl | (simp; done) | (simp [*]; done) | exact congrArg Value.bool (emp_ne _)), (by first | rfl | (simp; done) | (simp [*]; done) | exact congrArg Value.bool (emp_ne _)), H', ⟨by have := HK1.out; have := HJ2.out; have := HJ11.out; omega⟩, ⟨by (with_reducible repeat (first | apply Kd.R_alloc | apply Kd.R_drewN | apply Kd.R_drew)); exact HO171.out⟩, ⟨by repeat (first | (with_reducible first | exact HB.out | apply below_alloc | apply pw_below_drewN | apply below_drew1) | exact HB.out)⟩⟩
                      · rw [if_neg c15] at H
                        exact absurd H (by simp)
                    · replace c14 := Bool.eq_false_iff.mpr c14
                      subst c14
                      have H1 : (if t168 = 2 then (if x5_1.length < 4398046511104 then (comitialaw4_Make.l0 kj11 (wrap64 (x0_1 - (wrap64 (1 + t166)))) l1 (x5_1 ++ [(⟨3, (wrap64 (1 + t166)), (⟨#[]⟩ : ByteArray)⟩ : S49)]) (wrap64 (x6_1 - (wrap64 (1 + t166)))) (wrap64 (x7_1 + 1))) else (none)) else (if t168 = 3 then (if 0 ≤ x7_1 then (if x7_1 < (l1.length : Int) then ((comitialaw4_within.f (wrap64 (Int.tdiv (rd l1 x7_1) 7)) 5).bind fun t176 => (if 0 ≤ (wrap64 (1 + t176)) then (if (wrap64 (1 + t176)) ≤ 10 then (if (wrap64 (x6_1 + (((⟨#[97, 98, 99, 100, 101, 102, 103, 104, 105, 106]⟩ : ByteArray).extract 0 ((wrap64 (1 + t176)) : Int).toNat).size : Int))) ≤ 120 then (if x5_1.length < 4398046511104 then (comitialaw4_Make.l0 kj11 x0_1 l1 (x5_1 ++ [(⟨2, 0, (⟨#[97, 98, 99, 100, 101, 102, 103, 104, 105, 106]⟩ : ByteArray).extract 0 ((wrap64 (1 + t176)) : Int).toNat⟩ : S49)]) (wrap64 (x6_1 + (((⟨#[97, 98, 99, 100, 101, 102, 103, 104, 105, 106]⟩ : ByteArray).extract 0 ((wrap64 (1 + t176)) : Int).toNat).size : Int))) (wrap64 (x7_1 + 1))) else (none)) else (comitialaw4_Make.l0 kj11 x0_1 l1 x5_1 x6_1 (wrap64 (x7_1 + 1)))) else (none)) else (none))) else (none)) else (none)) else (comitialaw4_Make.l0 kj11 x0_1 l1 x5_1 x6_1 (wrap64 (x7_1 + 1))))) = some r := by rw [if_neg (show ¬ (false = true) by decide)] at H; exact H
                      clear H
                      have H := H1
                      clear H1
                      by_cases c17 : t168 = 2
                      · rw [if_pos c17] at H
                        have c17b0 : (t168 == 2) = true := beq_iff_eq.mpr c17
                        have c17b1 : (t168 != 2) = false := bne_eq_false_iff_eq.mpr c17
                        clear c17
                        by_cases c18 : x5_1.length < 4398046511104
                        · rw [if_pos c18] at H
                          have LMc18 := Aside0.mk c18
                          clear c18
                          obtain ⟨y172, hy172⟩ : ∃ y_ : List (S49), y_ = (x5_1 ++ [(⟨3, (wrap64 (1 + t166)), (⟨#[]⟩ : ByteArray)⟩ : S49)]) := ⟨_, rfl⟩
                          replace H : (comitialaw4_Make.l0 kj11 (wrap64 (x0_1 - (wrap64 (1 + t166)))) l1 y172 (wrap64 (x6_1 - (wrap64 (1 + t166)))) (wrap64 (x7_1 + 1))) = some r := by first | (rw [hy172]; with_reducible exact H) | (have H2_ := (Option.bind_some _ _).symm.trans H; rw [hy172]; with_reducible exact H2_) | (have H2_ := (Option.bind_some _ _).symm.trans H; with_reducible exact H2_) | with_reducible exact H | (rw [hy172]; exact H) | exact H
                          have Ny172 := Aside0.mk hy172
                          clear hy172
                          have H' := Aside0.mk H
                          clear H
                          go_wp2_with (first | ((with_reducible refine gate_builtin (b := .append) (xs := #[.tmp 52, .tmp 55]) rfl ?_); at_builtin; refine Kd.R_append k49 (w0 := w) w.heap.size rfl (.tmp 52) (.tmp 55) 27 49 (.agg #[(.int .i64 0), (.int .i64 0), (.string ⟨#[]⟩)]) 32 rfl Try.underlying27 info49 rfl (by decide) (by omega) u5 x5_1 (⟨3, (wrap64 (1 + t166)), (⟨#[]⟩ : ByteArray)⟩ : S49) [.int .i64 3, .int .i64 (wrap64 (1 + t166)), .string (⟨#[]⟩ : ByteArray)] (fun _ => True) (fun _ => False) rfl rfl ?aP (fun _ hk => hk.elim) ?aF ?aO ?aB ?aS ?aL ?_; (case aP => exact k49_mkM _ _ _ (⟨3, (wrap64 (1 + t166)), (⟨#[]⟩ : ByteArray)⟩ : S49)); (case aB => exact (by repeat (first | (with_reducible first | exact HB.out | apply below_alloc | apply pw_below_drewN | apply below_drew1) | exact HB.out))); (case aF => exact (fun _ _ => trivial)); (case aO => exact (by (with_reducible repeat (first | apply Kd.R_alloc | apply Kd.R_drewN | apply Kd.R_drew)); exact HO_5.out)); (case aS => exact (below_size (by repeat (first | (with_reducible first | exact HB.out | apply below_alloc | apply pw_below_drewN | apply below_drew1) | exact HB.out)))); (case aL => have := LMc18.out; omega); intro v173 w19 ho hb hg hat; rw [← Ny172.out] at ho; have n0_ := Aside0.mk (hb); have n1_ := Aside0.mk (ho); clear HB; clear HO_5; have HB := n0_; have HO174 := n1_; clear n0_ n1_; clear ho hb hg hat))
                          go_roundg kj11
                          case measure => have := HK1.out; have := HJ2.out; have := HJ11.out; omega
                          case rel => exact ⟨(wrap64 (x0_1 - (wrap64 (1 + t166)))), (y172), (wrap64 (x6_1 - (wrap64 (1 + t166)))), (wrap64 (x7_1 + 1)), (by first | rfl | (simp; done) | (simp [*]; done) | exact congrArg Value.bool (emp_ne _)), (by first | rfl | (simp; done) | (simp [*]; done) | exact congrArg Value.bool (emp_ne _)), (by first | rfl | (simp; done) | (simp [*]; done) | exact congrArg Value.bool (emp_ne _)), H', ⟨by have := HK1.out; have := HJ2.out; have := HJ11.out; omega⟩, ⟨by (with_reducible repeat (first | apply Kd.R_alloc | apply Kd.R_drewN | apply Kd.R_drew)); exact HO174.out⟩, ⟨by repeat (first | (with_reducible first | exact HB.out | apply below_alloc | apply pw_below_drewN | apply below_drew1) | exact HB.out)⟩⟩
                        · rw [if_neg c18] at H
                          exact absurd H (by simp)
                      · rw [if_neg c17] at H
                        have c17b0 : (t168 == 2) = false := beq_eq_false_iff_ne.mpr c17
                        have c17b1 : (t168 != 2) = true := bne_iff_ne.mpr c17
                        by_cases c20 : t168 = 3
                        · rw [if_pos c20] at H
                          have c20b0 : (t168 == 3) = true := beq_iff_eq.mpr c20
                          have c20b1 : (t168 != 3) = false := bne_eq_false_iff_eq.mpr c20
                          clear c20
                          by_cases c21 : 0 ≤ x7_1
                          · rw [if_pos c21] at H
                            have c21b0 : decide (0 ≤ x7_1) = true := decide_eq_true c21
                            clear c21
                            by_cases c22 : x7_1 < (l1.length : Int)
                            · rw [if_pos c22] at H
                              have c22b0 : decide (x7_1 < (l1.length : Int)) = true := decide_eq_true c22
                              clear c22
                              replace H := Option.bind_eq_some_iff.mp H
                              obtain ⟨t176, A230, H⟩ := H
                              replace H : (if 0 ≤ (wrap64 (1 + t176)) then (if (wrap64 (1 + t176)) ≤ 10 then (if (wrap64 (x6_1 + (((⟨#[97, 98, 99, 100, 101, 102, 103, 104, 105, 106]⟩ : ByteArray).extract 0 ((wrap64 (1 + t176)) : Int).toNat).size : Int))) ≤ 120 then (if x5_1.length < 4398046511104 then (comitialaw4_Make.l0 kj11 x0_1 l1 (x5_1 ++ [(⟨2, 0, (⟨#[97, 98, 99, 100, 101, 102, 103, 104, 105, 106]⟩ : ByteArray).extract 0 ((wrap64 (1 + t176)) : Int).toNat⟩ : S49)]) (wrap64 (x6_1 + (((⟨#[97, 98, 99, 100, 101, 102, 103, 104, 105, 106]⟩ : ByteArray).extract 0 ((wrap64 (1 + t176)) : Int).toNat).size : Int))) (wrap64 (x7_1 + 1))) else (none)) else (comitialaw4_Make.l0 kj11 x0_1 l1 x5_1 x6_1 (wrap64 (x7_1 + 1)))) else (none)) else (none)) = some r := H
                              have A23 := Aside0.mk A230
                              clear A230
                              obtain ⟨ji24, hji24⟩ : ∃ j_ : Int, (wrap64 (1 + t176)) = j_ := ⟨_, rfl⟩
                              replace H : (if 0 ≤ (ji24) then (if (ji24) ≤ 10 then (if (wrap64 (x6_1 + (((⟨#[97, 98, 99, 100, 101, 102, 103, 104, 105, 106]⟩ : ByteArray).extract 0 ((ji24) : Int).toNat).size : Int))) ≤ 120 then (if x5_1.length < 4398046511104 then (comitialaw4_Make.l0 kj11 x0_1 l1 (x5_1 ++ [(⟨2, 0, (⟨#[97, 98, 99, 100, 101, 102, 103, 104, 105, 106]⟩ : ByteArray).extract 0 ((ji24) : Int).toNat⟩ : S49)]) (wrap64 (x6_1 + (((⟨#[97, 98, 99, 100, 101, 102, 103, 104, 105, 106]⟩ : ByteArray).extract 0 ((ji24) : Int).toNat).size : Int))) (wrap64 (x7_1 + 1))) else (none)) else (comitialaw4_Make.l0 kj11 x0_1 l1 x5_1 x6_1 (wrap64 (x7_1 + 1)))) else (none)) else (none)) = some r := by first | (rw [hji24] at H; exact H) | (simp only [hji24] at H ⊢; exact H)
                              (try rw [hji24] at A23)
                              have hji24w : (IntKind.i64.wrap (1 + t176)) = ji24 := (i64_w _).trans hji24
                              by_cases c25 : 0 ≤ (ji24)
                              · rw [if_pos c25] at H
                                have c25b0 := eq_true c25
                                have c25b1 : decide (0 ≤ (ji24)) = true := decide_eq_true c25
                                clear c25
                                by_cases c26 : (ji24) ≤ 10
                                · rw [if_pos c26] at H
                                  have c26b0 := eq_true c26
                                  have c26b1 : decide ((ji24) ≤ 10) = true := decide_eq_true c26
                                  clear c26
                                  by_cases c27 : (wrap64 (x6_1 + (((⟨#[97, 98, 99, 100, 101, 102, 103, 104, 105, 106]⟩ : ByteArray).extract 0 ((ji24) : Int).toNat).size : Int))) ≤ 120
                                  · rw [if_pos c27] at H
                                    have ezji24 := Aside0.mk (ext_size (⟨#[97, 98, 99, 100, 101, 102, 103, 104, 105, 106]⟩ : ByteArray) ji24 (show (ji24 : Int) ≤ 10 from of_decide_eq_true (by assumption)))
                                    have c27b0 : decide ((wrap64 (x6_1 + (((⟨#[97, 98, 99, 100, 101, 102, 103, 104, 105, 106]⟩ : ByteArray).extract 0 ((ji24) : Int).toNat).size : Int))) ≤ 120) = true := decide_eq_true c27
                                    have c27b8 : decide ((wrap64 (x6_1 + max ji24 0)) ≤ 120) = true := (by have h_ := c27b0; rw [ezji24.out] at h_; exact h_)
                                    clear c27
                                    by_cases c28 : x5_1.length < 4398046511104
                                    · rw [if_pos c28] at H
                                      have LMc28 := Aside0.mk c28
                                      clear c28
                                      obtain ⟨y177, hy177⟩ : ∃ y_ : List (S49), y_ = (x5_1 ++ [(⟨2, 0, (⟨#[97, 98, 99, 100, 101, 102, 103, 104, 105, 106]⟩ : ByteArray).extract 0 ((ji24) : Int).toNat⟩ : S49)]) := ⟨_, rfl⟩
                                      replace H : (comitialaw4_Make.l0 kj11 x0_1 l1 y177 (wrap64 (x6_1 + (((⟨#[97, 98, 99, 100, 101, 102, 103, 104, 105, 106]⟩ : ByteArray).extract 0 ((ji24) : Int).toNat).size : Int))) (wrap64 (x7_1 + 1))) = some r := by first | (rw [hy177]; with_reducible exact H) | (have H2_ := (Option.bind_some _ _).symm.trans H; rw [hy177]; with_reducible exact H2_) | (have H2_ := (Option.bind_some _ _).symm.trans H; with_reducible exact H2_) | with_reducible exact H | (rw [hy177]; exact H) | exact H
                                      have Ny177 := Aside0.mk hy177
                                      clear hy177
                                      have H' := Aside0.mk H
                                      clear H
                                      have p175 : 0 ≤ (x7_1 : Int) := of_decide_eq_true (by first | (with_reducible assumption) | assumption)
                                      have q175 : x7_1 < (l1.length : Int) := of_decide_eq_true (by first | (with_reducible assumption) | assumption)
                                      obtain ⟨ad175, e175, hx175_0⟩ := Kd.at_int HR1.out x7_1 p175 q175
                                      obtain rfl : ad165 = ad175 := (by injection e175)
                                      replace hx175_0 := (HB.out.cell (World.block_lt_of_cell? w _ hx175_0)).trans hx175_0
                                      replace p175 := eq_true p175
                                      replace q175 := eq_true q175
                                      go_wp2_with (first | ((with_reducible refine gate_callee (f := 23) rfl ?_); refine goesL_ (some 70) rfl rfl Try.func23 (by kernel_rfl) rfl #[.int .i64 (wrap64 (Int.tdiv (rd l1 x7_1) 7)), .int .i64 5] rfl (by (try simp only [List.map_toArray, List.map_cons, List.map_nil]); first | done | rfl | (simp only [List.length_drop, List.length_take]; rfl)) ?_; (with_reducible refine (comitialaw4_within.calls (wrap64 (Int.tdiv (rd l1 x7_1) 7)) 5 t176 _ A23.out).mono ?_); rintro e w' ⟨rfl, ⟨nd, rfl⟩⟩; refine ⟨_, rfl, ?_⟩) | ((with_reducible refine gate_builtin (b := .append) (xs := #[.tmp 78, .tmp 81]) rfl ?_); at_builtin; refine Kd.R_append k49 (w0 := w) w.heap.size rfl (.tmp 78) (.tmp 81) 27 49 (.agg #[(.int .i64 0), (.int .i64 0), (.string ⟨#[]⟩)]) 32 rfl Try.underlying27 info49 rfl (by decide) (by omega) u5 x5_1 (⟨2, 0, (⟨#[97, 98, 99, 100, 101, 102, 103, 104, 105, 106]⟩ : ByteArray).extract 0 ((ji24) : Int).toNat⟩ : S49) [.int .i64 2, .int .i64 0, .string ((⟨#[97, 98, 99, 100, 101, 102, 103, 104, 105, 106]⟩ : ByteArray).extract 0 ((ji24) : Int).toNat)] (fun _ => True) (fun _ => False) rfl rfl ?aP (fun _ hk => hk.elim) ?aF ?aO ?aB ?aS ?aL ?_; (case aP => exact k49_mkM _ _ _ (⟨2, 0, (⟨#[97, 98, 99, 100, 101, 102, 103, 104, 105, 106]⟩ : ByteArray).extract 0 ((ji24) : Int).toNat⟩ : S49)); (case aB => exact (by repeat (first | (with_reducible first | exact HB.out | apply below_alloc | apply pw_below_drewN | apply below_drew1) | exact HB.out))); (case aF => exact (fun _ _ => trivial)); (case aO => exact (by (with_reducible repeat (first | apply Kd.R_alloc | apply Kd.R_drewN | apply Kd.R_drew)); exact HO_5.out)); (case aS => exact (below_size (by repeat (first | (with_reducible first | exact HB.out | apply below_alloc | apply pw_below_drewN | apply below_drew1) | exact HB.out)))); (case aL => have := LMc28.out; omega); intro v178 w29 ho hb hg hat; rw [← Ny177.out] at ho; have n0_ := Aside0.mk (hb); have n1_ := Aside0.mk (ho); clear HB; clear HO_5; have HB := n0_; have HO179 := n1_; clear n0_ n1_; clear ho hb hg hat))
                                      go_roundg kj11
                                      case measure => have := HK1.out; have := HJ2.out; have := HJ11.out; omega
                                      case rel => exact ⟨(x0_1), (y177), (wrap64 (x6_1 + (((⟨#[97, 98, 99, 100, 101, 102, 103, 104, 105, 106]⟩ : ByteArray).extract 0 ((ji24) : Int).toNat).size : Int))), (wrap64 (x7_1 + 1)), (by first | rfl | (simp; done) | (rw [ezji24.out]) | (simp [*]; done) | exact congrArg Value.bool (emp_ne _)), (by first | rfl | (simp; done) | (rw [ezji24.out]) | (simp only [← hji24] <;> (first | rfl | simp)) | (simp [*]; done)), (by first | rfl | (simp; done) | (rw [ezji24.out]) | (simp [*]; done) | exact congrArg Value.bool (emp_ne _)), H', ⟨by have := HK1.out; have := HJ2.out; have := HJ11.out; omega⟩, ⟨by (with_reducible repeat (first | apply Kd.R_alloc | apply Kd.R_drewN | apply Kd.R_drew)); exact HO179.out⟩, ⟨by repeat (first | (with_reducible first | exact HB.out | apply below_alloc | apply pw_below_drewN | apply below_drew1) | exact HB.out)⟩⟩
                                    · rw [if_neg c28] at H
                                      exact absurd H (by simp)
                                  · rw [if_neg c27] at H
                                    have ezji24 := Aside0.mk (ext_size (⟨#[97, 98, 99, 100, 101, 102, 103, 104, 105, 106]⟩ : ByteArray) ji24 (show (ji24 : Int) ≤ 10 from of_decide_eq_true (by assumption)))
                                    have c27b0 : decide ((wrap64 (x6_1 + (((⟨#[97, 98, 99, 100, 101, 102, 103, 104, 105, 106]⟩ : ByteArray).extract 0 ((ji24) : Int).toNat).size : Int))) ≤ 120) = false := decide_eq_false c27
                                    have c27b8 : decide ((wrap64 (x6_1 + max ji24 0)) ≤ 120) = false := (by have h_ := c27b0; rw [ezji24.out] at h_; exact h_)
                                    clear c27
                                    have H' := Aside0.mk H
                                    clear H
                                    have p175 : 0 ≤ (x7_1 : Int) := of_decide_eq_true (by first | (with_reducible assumption) | assumption)
                                    have q175 : x7_1 < (l1.length : Int) := of_decide_eq_true (by first | (with_reducible assumption) | assumption)
                                    obtain ⟨ad175, e175, hx175_0⟩ := Kd.at_int HR1.out x7_1 p175 q175
                                    obtain rfl : ad165 = ad175 := (by injection e175)
                                    replace hx175_0 := (HB.out.cell (World.block_lt_of_cell? w _ hx175_0)).trans hx175_0
                                    replace p175 := eq_true p175
                                    replace q175 := eq_true q175
                                    go_wp2_with (first | ((with_reducible refine gate_callee (f := 23) rfl ?_); refine goesL_ (some 70) rfl rfl Try.func23 (by kernel_rfl) rfl #[.int .i64 (wrap64 (Int.tdiv (rd l1 x7_1) 7)), .int .i64 5] rfl (by (try simp only [List.map_toArray, List.map_cons, List.map_nil]); first | done | rfl | (simp only [List.length_drop, List.length_take]; rfl)) ?_; (with_reducible refine (comitialaw4_within.calls (wrap64 (Int.tdiv (rd l1 x7_1) 7)) 5 t176 _ A23.out).mono ?_); rintro e w' ⟨rfl, ⟨nd, rfl⟩⟩; refine ⟨_, rfl, ?_⟩))
                                    go_roundg kj11
                                    case measure => have := HK1.out; have := HJ2.out; have := HJ11.out; omega
                                    case rel => exact ⟨(x0_1), (x5_1), (x6_1), (wrap64 (x7_1 + 1)), (by first | rfl | (simp; done) | (rw [ezji24.out]) | (simp [*]; done) | exact congrArg Value.bool (emp_ne _)), (by first | rfl | (simp; done) | (rw [ezji24.out]) | (simp [*]; done) | exact congrArg Value.bool (emp_ne _)), (by first | rfl | (simp; done) | (rw [ezji24.out]) | (simp [*]; done) | exact congrArg Value.bool (emp_ne _)), H', ⟨by have := HK1.out; have := HJ2.out; have := HJ11.out; omega⟩, ⟨by (with_reducible repeat (first | apply Kd.R_alloc | apply Kd.R_drewN | apply Kd.R_drew)); exact HO_5.out⟩, ⟨by repeat (first | (with_reducible first | exact HB.out | apply below_alloc | apply pw_below_drewN | apply below_drew1) | exact HB.out)⟩⟩
                                · rw [if_neg c26] at H
                                  exact absurd H (by simp)
                              · rw [if_neg c25] at H
                                exact absurd H (by simp)
                            · rw [if_neg c22] at H
                              exact absurd H (by simp)
                          · rw [if_neg c21] at H
                            exact absurd H (by simp)
                        · rw [if_neg c20] at H
                          have c20b0 : (t168 == 3) = false := beq_eq_false_iff_ne.mpr c20
                          have c20b1 : (t168 != 3) = true := bne_iff_ne.mpr c20
                          have H' := Aside0.mk H
                          clear H
                          go_wp2
                          go_roundg kj11
                          case measure => have := HK1.out; have := HJ2.out; have := HJ11.out; omega
                          case rel => exact ⟨(x0_1), (x5_1), (x6_1), (wrap64 (x7_1 + 1)), (by first | rfl | (simp; done) | (rw [ezji24.out]) | (simp [*]; done) | exact congrArg Value.bool (emp_ne _)), (by first | rfl | (simp; done) | (rw [ezji24.out]) | (simp [*]; done) | exact congrArg Value.bool (emp_ne _)), (by first | rfl | (simp; done) | (rw [ezji24.out]) | (simp [*]; done) | exact congrArg Value.bool (emp_ne _)), H', ⟨by have := HK1.out; have := HJ2.out; have := HJ11.out; omega⟩, ⟨by (with_reducible repeat (first | apply Kd.R_alloc | apply Kd.R_drewN | apply Kd.R_drew)); exact HO_5.out⟩, ⟨by repeat (first | (with_reducible first | exact HB.out | apply below_alloc | apply pw_below_drewN | apply below_drew1) | exact HB.out)⟩⟩
              · rw [if_neg c8] at H
                exact absurd H (by simp)
            · rw [if_neg c7] at H
              exact absurd H (by simp)
          · replace c6 := Bool.eq_false_iff.mpr c6
            subst c6
            have H1 : (if x0_1 > 0 then (if x5_1.length < 4398046511104 then ((some (x5_1 ++ [(⟨1, x0_1, (⟨#[]⟩ : ByteArray)⟩ : S49)] : List (S49))).bind fun y180 => (if (l1.length : Int) > 0 then (if 0 < (l1.length : Int) then ((comitialaw4_within.f (wrap64 (Int.tdiv (rd l1 0) 3)) 3).bind fun t184 => (if t184 = 0 then (if x6_1 ≤ 115 then (if y180.length < 4398046511104 then (some (y180 ++ [(⟨2, 0, (⟨#[122]⟩ : ByteArray)⟩ : S49)])) else (none)) else (some y180)) else (some y180))) else (none)) else (some y180))) else (none)) else (if (l1.length : Int) > 0 then (if 0 < (l1.length : Int) then ((comitialaw4_within.f (wrap64 (Int.tdiv (rd l1 0) 3)) 3).bind fun t189 => (if t189 = 0 then (if x6_1 ≤ 115 then (if x5_1.length < 4398046511104 then (some (x5_1 ++ [(⟨2, 0, (⟨#[122]⟩ : ByteArray)⟩ : S49)])) else (none)) else (some x5_1)) else (some x5_1))) else (none)) else (some x5_1))) = some r := by rw [if_neg (show ¬ (false = true) by decide)] at H; exact H
            clear H
            have H := H1
            clear H1
            by_cases c30 : x0_1 > 0
            · rw [if_pos c30] at H
              have c30b0 : decide (0 < x0_1) = true := decide_eq_true c30
              clear c30
              by_cases c31 : x5_1.length < 4398046511104
              · rw [if_pos c31] at H
                have LMc31 := Aside0.mk c31
                clear c31
                obtain ⟨y180, hy180⟩ : ∃ y_ : List (S49), y_ = (x5_1 ++ [(⟨1, x0_1, (⟨#[]⟩ : ByteArray)⟩ : S49)]) := ⟨_, rfl⟩
                replace H : (if (l1.length : Int) > 0 then (if 0 < (l1.length : Int) then ((comitialaw4_within.f (wrap64 (Int.tdiv (rd l1 0) 3)) 3).bind fun t184 => (if t184 = 0 then (if x6_1 ≤ 115 then (if y180.length < 4398046511104 then (some (y180 ++ [(⟨2, 0, (⟨#[122]⟩ : ByteArray)⟩ : S49)])) else (none)) else (some y180)) else (some y180))) else (none)) else (some y180)) = some r := by first | (rw [hy180]; with_reducible exact H) | (have H2_ := (Option.bind_some _ _).symm.trans H; rw [hy180]; with_reducible exact H2_) | (have H2_ := (Option.bind_some _ _).symm.trans H; with_reducible exact H2_) | with_reducible exact H | (rw [hy180]; exact H) | exact H
                have Ny180 := Aside0.mk hy180
                clear hy180
                by_cases c32 : (l1.length : Int) > 0
                · rw [if_pos c32] at H
                  have c32b0 : decide (0 < (l1.length : Int)) = true := decide_eq_true c32
                  have c32b1 : decide (0 < l1.length) = true := decide_eq_true (by omega)
                  have c32b5 : (0 < l1.length) = True := eq_true (of_decide_eq_true c32b1)
                  clear c32
                  by_cases c33 : 0 < (l1.length : Int)
                  · rw [if_pos c33] at H
                    have c33b0 : decide (0 < (l1.length : Int)) = true := decide_eq_true c33
                    have c33b1 : decide (0 < l1.length) = true := decide_eq_true (by omega)
                    have c33b5 : (0 < l1.length) = True := eq_true (of_decide_eq_true c33b1)
                    clear c33
                    replace H := Option.bind_eq_some_iff.mp H
                    obtain ⟨t184, A340, H⟩ := H
                    replace H : (if t184 = 0 then (if x6_1 ≤ 115 then (if y180.length < 4398046511104 then (some (y180 ++ [(⟨2, 0, (⟨#[122]⟩ : ByteArray)⟩ : S49)])) else (none)) else (some y180)) else (some y180)) = some r := H
                    have A34 := Aside0.mk A340
                    clear A340
                    by_cases c35 : t184 = 0
                    · rw [if_pos c35] at H
                      have c35b0 : (t184 == 0) = true := beq_iff_eq.mpr c35
                      have c35b1 : (t184 != 0) = false := bne_eq_false_iff_eq.mpr c35
                      clear c35
                      by_cases c36 : x6_1 ≤ 115
                      · rw [if_pos c36] at H
                        have c36b0 : decide (x6_1 ≤ 115) = true := decide_eq_true c36
                        clear c36
                        by_cases c37 : y180.length < 4398046511104
                        · rw [if_pos c37] at H
                          have LMc37 := Aside0.mk c37
                          clear c37
                          obtain ⟨y185, hy185⟩ : ∃ y_ : List (S49), y_ = (y180 ++ [(⟨2, 0, (⟨#[122]⟩ : ByteArray)⟩ : S49)]) := ⟨_, rfl⟩
                          replace H : (some y185) = some r := by first | (rw [hy185]; with_reducible exact H) | (have H2_ := (Option.bind_some _ _).symm.trans H; rw [hy185]; with_reducible exact H2_) | (have H2_ := (Option.bind_some _ _).symm.trans H; with_reducible exact H2_) | with_reducible exact H | (rw [hy185]; exact H) | exact H
                          have Ny185 := Aside0.mk hy185
                          clear hy185
                          obtain rfl := Option.some.inj H
                          go_wp2_with (first | ((with_reducible refine gate_builtin (b := .append) (xs := #[.tmp 89, .tmp 92]) rfl ?_); at_builtin; refine Kd.R_append k49 (w0 := w) w.heap.size rfl (.tmp 89) (.tmp 92) 27 49 (.agg #[(.int .i64 0), (.int .i64 0), (.string ⟨#[]⟩)]) 32 rfl Try.underlying27 info49 rfl (by decide) (by omega) u5 x5_1 (⟨1, x0_1, (⟨#[]⟩ : ByteArray)⟩ : S49) [.int .i64 1, .int .i64 x0_1, .string (⟨#[]⟩ : ByteArray)] (fun _ => True) (fun _ => False) rfl rfl ?aP (fun _ hk => hk.elim) ?aF ?aO ?aB ?aS ?aL ?_; (case aP => exact k49_mkM _ _ _ (⟨1, x0_1, (⟨#[]⟩ : ByteArray)⟩ : S49)); (case aB => exact (by repeat (first | (with_reducible first | exact HB.out | apply below_alloc | apply pw_below_drewN | apply below_drew1) | exact HB.out))); (case aF => exact (fun _ _ => trivial)); (case aO => exact (by (with_reducible repeat (first | apply Kd.R_alloc | apply Kd.R_drewN | apply Kd.R_drew)); exact HO_5.out)); (case aS => exact (below_size (by repeat (first | (with_reducible first | exact HB.out | apply below_alloc | apply pw_below_drewN | apply below_drew1) | exact HB.out)))); (case aL => have := LMc31.out; omega); intro v181 w38 ho hb hg hat; rw [← Ny180.out] at ho; have n0_ := Aside0.mk (hb); have n1_ := Aside0.mk (ho); clear HB; clear HO_5; have HB := n0_; have HO182 := n1_; clear n0_ n1_; clear ho hb hg hat; have p183 : 0 ≤ (0 : Int) := (by omega); have q183 : 0 < (l1.length : Int) := of_decide_eq_true (by first | (with_reducible assumption) | assumption); obtain ⟨ad183, e183, hx183_0⟩ := Kd.at_int HR1.out 0 p183 q183; cases e183; have qi183 : (0 < l1.length) = True := eq_true (by omega); (try rw [show ((0 : Int)).toNat = 0 from rfl] at hx183_0); (try rw [Addr.add_zero'] at hx183_0); replace hx183_0 := (HB.out.cell (World.block_lt_of_cell? w _ hx183_0)).trans hx183_0; replace p183 := eq_true p183; replace q183 := eq_true q183) | (go_at_call 23; (with_reducible refine (comitialaw4_within.calls (wrap64 (Int.tdiv (rd l1 0) 3)) 3 t184 _ A34.out).mono ?_); rintro e w' ⟨rfl, ⟨nd, rfl⟩⟩) | ((with_reducible refine gate_builtin (b := .append) (xs := #[.tmp 109, .tmp 111]) rfl ?_); at_builtin; refine Kd.R_append k49 (w0 := w) w.heap.size rfl (.tmp 109) (.tmp 111) 27 49 (.agg #[(.int .i64 0), (.int .i64 0), (.string ⟨#[]⟩)]) 32 rfl Try.underlying27 info49 rfl (by decide) (by omega) v181 y180 (⟨2, 0, (⟨#[122]⟩ : ByteArray)⟩ : S49) [.int .i64 2, .int .i64 0, .string (⟨#[122]⟩ : ByteArray)] (fun _ => True) (fun _ => False) rfl rfl ?aP (fun _ hk => hk.elim) ?aF ?aO ?aB ?aS ?aL ?_; (case aP => exact k49_mkM _ _ _ (⟨2, 0, (⟨#[122]⟩ : ByteArray)⟩ : S49)); (case aB => exact (by repeat (first | (with_reducible first | exact HB.out | apply below_alloc | apply pw_below_drewN | apply below_drew1) | exact HB.out))); (case aF => exact (fun _ _ => trivial)); (case aO => exact (by (with_reducible repeat (first | apply Kd.R_alloc | apply Kd.R_drewN | apply Kd.R_drew)); exact HO182.out)); (case aS => exact (below_size (by repeat (first | (with_reducible first | exact HB.out | apply below_alloc | apply pw_below_drewN | apply below_drew1) | exact HB.out)))); (case aL => have := LMc37.out; omega); intro v186 w39 ho hb hg hat; rw [← Ny185.out] at ho; have n0_ := Aside0.mk (hb); have n1_ := Aside0.mk (ho); clear HB; clear HO182; have HB := n0_; have HO187 := n1_; clear n0_ n1_; clear ho hb hg hat))
                          go_ret
                          exact ⟨_, by first | rfl | (simp [errW_none, errW_some] <;> rfl) | (simp [*, errW_none, errW_some] <;> rfl), by (with_reducible repeat (first | apply Kd.R_alloc | apply Kd.R_drewN | apply Kd.R_drew)); exact HO187.out, by repeat (first | (with_reducible first | exact HB.out | apply below_alloc | apply pw_below_drewN | apply below_drew1) | exact HB.out)⟩
                        · rw [if_neg c37] at H
                          exact absurd H (by simp)
                      · rw [if_neg c36] at H
                        have c36b0 : decide (x6_1 ≤ 115) = false := decide_eq_false c36
                        clear c36
                        obtain rfl := Option.some.inj H
                        go_wp2_with (first | ((with_reducible refine gate_builtin (b := .append) (xs := #[.tmp 89, .tmp 92]) rfl ?_); at_builtin; refine Kd.R_append k49 (w0 := w) w.heap.size rfl (.tmp 89) (.tmp 92) 27 49 (.agg #[(.int .i64 0), (.int .i64 0), (.string ⟨#[]⟩)]) 32 rfl Try.underlying27 info49 rfl (by decide) (by omega) u5 x5_1 (⟨1, x0_1, (⟨#[]⟩ : ByteArray)⟩ : S49) [.int .i64 1, .int .i64 x0_1, .string (⟨#[]⟩ : ByteArray)] (fun _ => True) (fun _ => False) rfl rfl ?aP (fun _ hk => hk.elim) ?aF ?aO ?aB ?aS ?aL ?_; (case aP => exact k49_mkM _ _ _ (⟨1, x0_1, (⟨#[]⟩ : ByteArray)⟩ : S49)); (case aB => exact (by repeat (first | (with_reducible first | exact HB.out | apply below_alloc | apply pw_below_drewN | apply below_drew1) | exact HB.out))); (case aF => exact (fun _ _ => trivial)); (case aO => exact (by (with_reducible repeat (first | apply Kd.R_alloc | apply Kd.R_drewN | apply Kd.R_drew)); exact HO_5.out)); (case aS => exact (below_size (by repeat (first | (with_reducible first | exact HB.out | apply below_alloc | apply pw_below_drewN | apply below_drew1) | exact HB.out)))); (case aL => have := LMc31.out; omega); intro v181 w40 ho hb hg hat; rw [← Ny180.out] at ho; have n0_ := Aside0.mk (hb); have n1_ := Aside0.mk (ho); clear HB; clear HO_5; have HB := n0_; have HO182 := n1_; clear n0_ n1_; clear ho hb hg hat; have p183 : 0 ≤ (0 : Int) := (by omega); have q183 : 0 < (l1.length : Int) := of_decide_eq_true (by first | (with_reducible assumption) | assumption); obtain ⟨ad183, e183, hx183_0⟩ := Kd.at_int HR1.out 0 p183 q183; cases e183; have qi183 : (0 < l1.length) = True := eq_true (by omega); (try rw [show ((0 : Int)).toNat = 0 from rfl] at hx183_0); (try rw [Addr.add_zero'] at hx183_0); replace hx183_0 := (HB.out.cell (World.block_lt_of_cell? w _ hx183_0)).trans hx183_0; replace p183 := eq_true p183; replace q183 := eq_true q183) | (go_at_call 23; (with_reducible refine (comitialaw4_within.calls (wrap64 (Int.tdiv (rd l1 0) 3)) 3 t184 _ A34.out).mono ?_); rintro e w' ⟨rfl, ⟨nd, rfl⟩⟩))
                        go_ret
                        exact ⟨_, by first | rfl | (simp [errW_none, errW_some] <;> rfl) | (simp [*, errW_none, errW_some] <;> rfl), by (with_reducible repeat (first | apply Kd.R_alloc | apply Kd.R_drewN | apply Kd.R_drew)); exact HO182.out, by repeat (first | (with_reducible first | exact HB.out | apply below_alloc | apply pw_below_drewN | apply below_drew1) | exact HB.out)⟩
                    · rw [if_neg c35] at H
                      have c35b0 : (t184 == 0) = false := beq_eq_false_iff_ne.mpr c35
                      have c35b1 : (t184 != 0) = true := bne_iff_ne.mpr c35
                      obtain rfl := Option.some.inj H
                      go_wp2_with (first | ((with_reducible refine gate_builtin (b := .append) (xs := #[.tmp 89, .tmp 92]) rfl ?_); at_builtin; refine Kd.R_append k49 (w0 := w) w.heap.size rfl (.tmp 89) (.tmp 92) 27 49 (.agg #[(.int .i64 0), (.int .i64 0), (.string ⟨#[]⟩)]) 32 rfl Try.underlying27 info49 rfl (by decide) (by omega) u5 x5_1 (⟨1, x0_1, (⟨#[]⟩ : ByteArray)⟩ : S49) [.int .i64 1, .int .i64 x0_1, .string (⟨#[]⟩ : ByteArray)] (fun _ => True) (fun _ => False) rfl rfl ?aP (fun _ hk => hk.elim) ?aF ?aO ?aB ?aS ?aL ?_; (case aP => exact k49_mkM _ _ _ (⟨1, x0_1, (⟨#[]⟩ : ByteArray)⟩ : S49)); (case aB => exact (by repeat (first | (with_reducible first | exact HB.out | apply below_alloc | apply pw_below_drewN | apply below_drew1) | exact HB.out))); (case aF => exact (fun _ _ => trivial)); (case aO => exact (by (with_reducible repeat (first | apply Kd.R_alloc | apply Kd.R_drewN | apply Kd.R_drew)); exact HO_5.out)); (case aS => exact (below_size (by repeat (first | (with_reducible first | exact HB.out | apply below_alloc | apply pw_below_drewN | apply below_drew1) | exact HB.out)))); (case aL => have := LMc31.out; omega); intro v181 w41 ho hb hg hat; rw [← Ny180.out] at ho; have n0_ := Aside0.mk (hb); have n1_ := Aside0.mk (ho); clear HB; clear HO_5; have HB := n0_; have HO182 := n1_; clear n0_ n1_; clear ho hb hg hat; have p183 : 0 ≤ (0 : Int) := (by omega); have q183 : 0 < (l1.length : Int) := of_decide_eq_true (by first | (with_reducible assumption) | assumption); obtain ⟨ad183, e183, hx183_0⟩ := Kd.at_int HR1.out 0 p183 q183; cases e183; have qi183 : (0 < l1.length) = True := eq_true (by omega); (try rw [show ((0 : Int)).toNat = 0 from rfl] at hx183_0); (try rw [Addr.add_zero'] at hx183_0); replace hx183_0 := (HB.out.cell (World.block_lt_of_cell? w _ hx183_0)).trans hx183_0; replace p183 := eq_true p183; replace q183 := eq_true q183) | (go_at_call 23; (with_reducible refine (comitialaw4_within.calls (wrap64 (Int.tdiv (rd l1 0) 3)) 3 t184 _ A34.out).mono ?_); rintro e w' ⟨rfl, ⟨nd, rfl⟩⟩))
                      go_ret
                      exact ⟨_, by first | rfl | (simp [errW_none, errW_some] <;> rfl) | (simp [*, errW_none, errW_some] <;> rfl), by (with_reducible repeat (first | apply Kd.R_alloc | apply Kd.R_drewN | apply Kd.R_drew)); exact HO182.out, by repeat (first | (with_reducible first | exact HB.out | apply below_alloc | apply pw_below_drewN | apply below_drew1) | exact HB.out)⟩
                  · rw [if_neg c33] at H
                    exact absurd H (by simp)
                · rw [if_neg c32] at H
                  have c32b0 : decide (0 < (l1.length : Int)) = false := decide_eq_false c32
                  have c32b1 : decide (0 < l1.length) = false := decide_eq_false (by omega)
                  have c32b5 : (0 < l1.length) = False := eq_false (of_decide_eq_false c32b1)
                  clear c32
                  obtain rfl := Option.some.inj H
                  go_wp2_with (first | ((with_reducible refine gate_builtin (b := .append) (xs := #[.tmp 89, .tmp 92]) rfl ?_); at_builtin; refine Kd.R_append k49 (w0 := w) w.heap.size rfl (.tmp 89) (.tmp 92) 27 49 (.agg #[(.int .i64 0), (.int .i64 0), (.string ⟨#[]⟩)]) 32 rfl Try.underlying27 info49 rfl (by decide) (by omega) u5 x5_1 (⟨1, x0_1, (⟨#[]⟩ : ByteArray)⟩ : S49) [.int .i64 1, .int .i64 x0_1, .string (⟨#[]⟩ : ByteArray)] (fun _ => True) (fun _ => False) rfl rfl ?aP (fun _ hk => hk.elim) ?aF ?aO ?aB ?aS ?aL ?_; (case aP => exact k49_mkM _ _ _ (⟨1, x0_1, (⟨#[]⟩ : ByteArray)⟩ : S49)); (case aB => exact (by repeat (first | (with_reducible first | exact HB.out | apply below_alloc | apply pw_below_drewN | apply below_drew1) | exact HB.out))); (case aF => exact (fun _ _ => trivial)); (case aO => exact (by (with_reducible repeat (first | apply Kd.R_alloc | apply Kd.R_drewN | apply Kd.R_drew)); exact HO_5.out)); (case aS => exact (below_size (by repeat (first | (with_reducible first | exact HB.out | apply below_alloc | apply pw_below_drewN | apply below_drew1) | exact HB.out)))); (case aL => have := LMc31.out; omega); intro v181 w42 ho hb hg hat; rw [← Ny180.out] at ho; have n0_ := Aside0.mk (hb); have n1_ := Aside0.mk (ho); clear HB; clear HO_5; have HB := n0_; have HO182 := n1_; clear n0_ n1_; clear ho hb hg hat))
                  go_ret
                  exact ⟨_, by first | rfl | (simp [errW_none, errW_some] <;> rfl) | (simp [*, errW_none, errW_some] <;> rfl), by (with_reducible repeat (first | apply Kd.R_alloc | apply Kd.R_drewN | apply Kd.R_drew)); exact HO182.out, by repeat (first | (with_reducible first | exact HB.out | apply below_alloc | apply pw_below_drewN | apply below_drew1) | exact HB.out)⟩
              · rw [if_neg c31] at H
                exact absurd H (by simp)
            · rw [if_neg c30] at H
              have c30b0 : decide (0 < x0_1) = false := decide_eq_false c30
              clear c30
              by_cases c43 : (l1.length : Int) > 0
              · rw [if_pos c43] at H
                have c43b0 : decide (0 < (l1.length : Int)) = true := decide_eq_true c43
                have c43b1 : decide (0 < l1.length) = true := decide_eq_true (by omega)
                have c43b5 : (0 < l1.length) = True := eq_true (of_decide_eq_true c43b1)
                clear c43
                by_cases c44 : 0 < (l1.length : Int)
                · rw [if_pos c44] at H
                  have c44b0 : decide (0 < (l1.length : Int)) = true := decide_eq_true c44
                  have c44b1 : decide (0 < l1.length) = true := decide_eq_true (by omega)
                  have c44b5 : (0 < l1.length) = True := eq_true (of_decide_eq_true c44b1)
                  clear c44
                  replace H := Option.bind_eq_some_iff.mp H
                  obtain ⟨t189, A450, H⟩ := H
                  replace H : (if t189 = 0 then (if x6_1 ≤ 115 then (if x5_1.length < 4398046511104 then (some (x5_1 ++ [(⟨2, 0, (⟨#[122]⟩ : ByteArray)⟩ : S49)])) else (none)) else (some x5_1)) else (some x5_1)) = some r := H
                  have A45 := Aside0.mk A450
                  clear A450
                  by_cases c46 : t189 = 0
                  · rw [if_pos c46] at H
                    have c46b0 : (t189 == 0) = true := beq_iff_eq.mpr c46
                    have c46b1 : (t189 != 0) = false := bne_eq_false_iff_eq.mpr c46
                    clear c46
                    by_cases c47 : x6_1 ≤ 115
                    · rw [if_pos c47] at H
                      have c47b0 : decide (x6_1 ≤ 115) = true := decide_eq_true c47
                      clear c47
                      by_cases c48 : x5_1.length < 4398046511104
                      · rw [if_pos c48] at H
                        have LMc48 := Aside0.mk c48
                        clear c48
                        obtain ⟨y190, hy190⟩ : ∃ y_ : List (S49), y_ = (x5_1 ++ [(⟨2, 0, (⟨#[122]⟩ : ByteArray)⟩ : S49)]) := ⟨_, rfl⟩
                        replace H : (some y190) = some r := by first | (rw [hy190]; with_reducible exact H) | (have H2_ := (Option.bind_some _ _).symm.trans H; rw [hy190]; with_reducible exact H2_) | (have H2_ := (Option.bind_some _ _).symm.trans H; with_reducible exact H2_) | with_reducible exact H | (rw [hy190]; exact H) | exact H
                        have Ny190 := Aside0.mk hy190
                        clear hy190
                        obtain rfl := Option.some.inj H
                        have p188 : 0 ≤ (0 : Int) := (by omega)
                        have q188 : 0 < (l1.length : Int) := of_decide_eq_true (by first | (with_reducible assumption) | assumption)
                        obtain ⟨ad188, e188, hx188_0⟩ := Kd.at_int HR1.out 0 p188 q188
                        cases e188
                        have qi188 : (0 < l1.length) = True := eq_true (by omega)
                        (try rw [show ((0 : Int)).toNat = 0 from rfl] at hx188_0)
                        (try rw [Addr.add_zero'] at hx188_0)
                        replace hx188_0 := (HB.out.cell (World.block_lt_of_cell? w _ hx188_0)).trans hx188_0
                        replace p188 := eq_true p188
                        replace q188 := eq_true q188
                        go_wp2_with (first | (go_at_call 23; (with_reducible refine (comitialaw4_within.calls (wrap64 (Int.tdiv (rd l1 0) 3)) 3 t189 _ A45.out).mono ?_); rintro e w' ⟨rfl, ⟨nd, rfl⟩⟩) | ((with_reducible refine gate_builtin (b := .append) (xs := #[.tmp 109, .tmp 111]) rfl ?_); at_builtin; refine Kd.R_append k49 (w0 := w) w.heap.size rfl (.tmp 109) (.tmp 111) 27 49 (.agg #[(.int .i64 0), (.int .i64 0), (.string ⟨#[]⟩)]) 32 rfl Try.underlying27 info49 rfl (by decide) (by omega) u5 x5_1 (⟨2, 0, (⟨#[122]⟩ : ByteArray)⟩ : S49) [.int .i64 2, .int .i64 0, .string (⟨#[122]⟩ : ByteArray)] (fun _ => True) (fun _ => False) rfl rfl ?aP (fun _ hk => hk.elim) ?aF ?aO ?aB ?aS ?aL ?_; (case aP => exact k49_mkM _ _ _ (⟨2, 0, (⟨#[122]⟩ : ByteArray)⟩ : S49)); (case aB => exact (by repeat (first | (with_reducible first | exact HB.out | apply below_alloc | apply pw_below_drewN | apply below_drew1) | exact HB.out))); (case aF => exact (fun _ _ => trivial)); (case aO => exact (by (with_reducible repeat (first | apply Kd.R_alloc | apply Kd.R_drewN | apply Kd.R_drew)); exact HO_5.out)); (case aS => exact (below_size (by repeat (first | (with_reducible first | exact HB.out | apply below_alloc | apply pw_below_drewN | apply below_drew1) | exact HB.out)))); (case aL => have := LMc48.out; omega); intro v191 w49 ho hb hg hat; rw [← Ny190.out] at ho; have n0_ := Aside0.mk (hb); have n1_ := Aside0.mk (ho); clear HB; clear HO_5; have HB := n0_; have HO192 := n1_; clear n0_ n1_; clear ho hb hg hat))
                        go_ret
                        exact ⟨_, by first | rfl | (simp [errW_none, errW_some] <;> rfl) | (simp [*, errW_none, errW_some] <;> rfl), by (with_reducible repeat (first | apply Kd.R_alloc | apply Kd.R_drewN | apply Kd.R_drew)); exact HO192.out, by repeat (first | (with_reducible first | exact HB.out | apply below_alloc | apply pw_below_drewN | apply below_drew1) | exact HB.out)⟩
                      · rw [if_neg c48] at H
                        exact absurd H (by simp)
                    · rw [if_neg c47] at H
                      have c47b0 : decide (x6_1 ≤ 115) = false := decide_eq_false c47
                      clear c47
                      obtain rfl := Option.some.inj H
                      have p188 : 0 ≤ (0 : Int) := (by omega)
                      have q188 : 0 < (l1.length : Int) := of_decide_eq_true (by first | (with_reducible assumption) | assumption)
                      obtain ⟨ad188, e188, hx188_0⟩ := Kd.at_int HR1.out 0 p188 q188
                      cases e188
                      have qi188 : (0 < l1.length) = True := eq_true (by omega)
                      (try rw [show ((0 : Int)).toNat = 0 from rfl] at hx188_0)
                      (try rw [Addr.add_zero'] at hx188_0)
                      replace hx188_0 := (HB.out.cell (World.block_lt_of_cell? w _ hx188_0)).trans hx188_0
                      replace p188 := eq_true p188
                      replace q188 := eq_true q188
                      go_wp2_with (first | (go_at_call 23; (with_reducible refine (comitialaw4_within.calls (wrap64 (Int.tdiv (rd l1 0) 3)) 3 t189 _ A45.out).mono ?_); rintro e w' ⟨rfl, ⟨nd, rfl⟩⟩))
                      go_ret
                      exact ⟨_, by first | rfl | (simp [errW_none, errW_some] <;> rfl) | (simp [*, errW_none, errW_some] <;> rfl), by (with_reducible repeat (first | apply Kd.R_alloc | apply Kd.R_drewN | apply Kd.R_drew)); exact HO_5.out, by repeat (first | (with_reducible first | exact HB.out | apply below_alloc | apply pw_below_drewN | apply below_drew1) | exact HB.out)⟩
                  · rw [if_neg c46] at H
                    have c46b0 : (t189 == 0) = false := beq_eq_false_iff_ne.mpr c46
                    have c46b1 : (t189 != 0) = true := bne_iff_ne.mpr c46
                    obtain rfl := Option.some.inj H
                    have p188 : 0 ≤ (0 : Int) := (by omega)
                    have q188 : 0 < (l1.length : Int) := of_decide_eq_true (by first | (with_reducible assumption) | assumption)
                    obtain ⟨ad188, e188, hx188_0⟩ := Kd.at_int HR1.out 0 p188 q188
                    cases e188
                    have qi188 : (0 < l1.length) = True := eq_true (by omega)
                    (try rw [show ((0 : Int)).toNat = 0 from rfl] at hx188_0)
                    (try rw [Addr.add_zero'] at hx188_0)
                    replace hx188_0 := (HB.out.cell (World.block_lt_of_cell? w _ hx188_0)).trans hx188_0
                    replace p188 := eq_true p188
                    replace q188 := eq_true q188
                    go_wp2_with (first | (go_at_call 23; (with_reducible refine (comitialaw4_within.calls (wrap64 (Int.tdiv (rd l1 0) 3)) 3 t189 _ A45.out).mono ?_); rintro e w' ⟨rfl, ⟨nd, rfl⟩⟩))
                    go_ret
                    exact ⟨_, by first | rfl | (simp [errW_none, errW_some] <;> rfl) | (simp [*, errW_none, errW_some] <;> rfl), by (with_reducible repeat (first | apply Kd.R_alloc | apply Kd.R_drewN | apply Kd.R_drew)); exact HO_5.out, by repeat (first | (with_reducible first | exact HB.out | apply below_alloc | apply pw_below_drewN | apply below_drew1) | exact HB.out)⟩
                · rw [if_neg c44] at H
                  exact absurd H (by simp)
              · rw [if_neg c43] at H
                have c43b0 : decide (0 < (l1.length : Int)) = false := decide_eq_false c43
                have c43b1 : decide (0 < l1.length) = false := decide_eq_false (by omega)
                have c43b5 : (0 < l1.length) = False := eq_false (of_decide_eq_false c43b1)
                clear c43
                obtain rfl := Option.some.inj H
                go_wp2
                go_ret
                exact ⟨_, by first | rfl | (simp [errW_none, errW_some] <;> rfl) | (simp [*, errW_none, errW_some] <;> rfl), by (with_reducible repeat (first | apply Kd.R_alloc | apply Kd.R_drewN | apply Kd.R_drew)); exact HO_5.out, by repeat (first | (with_reducible first | exact HB.out | apply below_alloc | apply pw_below_drewN | apply below_drew1) | exact HB.out)⟩

end Go.Proofs.Ytmblpbaefoapaaa.Q

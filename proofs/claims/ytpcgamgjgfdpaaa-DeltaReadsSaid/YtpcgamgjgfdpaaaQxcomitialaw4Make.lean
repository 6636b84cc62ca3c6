/- Contracts of Go functions: each call answers what the Lean function of its name answers. Conditions: stand in each theorem. Written by this seat's own program over the kit's printer. -/
import Derived.Test.YtpcgamgjgfdpaaaQ0
import Derived.Test.YtpcgamgjgfdpaaaQxcm
import Derived.Test.YtpcgamgjgfdpaaaQxcomitialaw4within
namespace Go.Proofs.Ytpcgamgjgfdpaaa.Q
open Go.RowKit Go.Proofs.YtpcgamgjgfdpaaaW.PrintWords Go.Proofs.YtpcgamgjgfdpaaaW.PrintLast Go.Proofs.YtpcgamgjgfdpaaaW.PrintMore
attribute [local go_sem] max2_int min2_int max_two min_two max_three min_three max_four min_four   -- for this text's walks alone
set_option linter.unusedVariables false
set_option linter.unusedSimpArgs false

/-! ### comitialaw4_Make: function 19 -/
mutual
def comitialaw4_Make.l0 : Nat → Int → List Int → List (S34) → Int → Int → Option ((List (S34)))
  | 0, _, _, _, _, _ => none
  | k + 1, x0, x1, x5, x6, x7 => if x7 < (x1.length : Int) then (if x7 < 12 then (comitialaw4_Make.j1 k x0 x1 x5 x6 x7 (decide (x0 > 0))) else (comitialaw4_Make.j1 k x0 x1 x5 x6 x7 false)) else (comitialaw4_Make.j1 k x0 x1 x5 x6 x7 false)
def comitialaw4_Make.j1 : Nat → Int → List Int → List (S34) → Int → Int → Bool → Option ((List (S34)))
  | 0, _, _, _, _, _, _ => none
  | k + 1, x0, x1, x5, x6, x7, x22 => if x22 = true then (if 0 ≤ x7 then (if x7 < (x1.length : Int) then ((comitialaw4_within.f (wrap64 (Int.tdiv (rd x1 x7) 7)) (mn x0 9)).bind fun t156 => ((comitialaw4_within.f (rd x1 x7) 4).bind fun t158 => (if t158 = 0 then (comitialaw4_Make.j2 k x0 x1 x5 x6 x7 (wrap64 (1 + t156)) t158 (t158 == 0)) else (comitialaw4_Make.j2 k x0 x1 x5 x6 x7 (wrap64 (1 + t156)) t158 (t158 == 1))))) else (none)) else (none)) else (if x0 > 0 then (if x5.length < 4398046511104 then ((some (x5 ++ [(⟨1, x0, (⟨#[]⟩ : ByteArray)⟩ : S34)] : List (S34))).bind fun y170 => (if (x1.length : Int) > 0 then (if 0 < (x1.length : Int) then ((comitialaw4_within.f (wrap64 (Int.tdiv (rd x1 0) 3)) 3).bind fun t174 => (if t174 = 0 then (if x6 ≤ 115 then (if y170.length < 4398046511104 then (some (y170 ++ [(⟨2, 0, (⟨#[122]⟩ : ByteArray)⟩ : S34)])) else (none)) else (some y170)) else (some y170))) else (none)) else (some y170))) else (none)) else (if (x1.length : Int) > 0 then (if 0 < (x1.length : Int) then ((comitialaw4_within.f (wrap64 (Int.tdiv (rd x1 0) 3)) 3).bind fun t179 => (if t179 = 0 then (if x6 ≤ 115 then (if x5.length < 4398046511104 then (some (x5 ++ [(⟨2, 0, (⟨#[122]⟩ : ByteArray)⟩ : S34)])) else (none)) else (some x5)) else (some x5))) else (none)) else (some x5)))
def comitialaw4_Make.j2 : Nat → Int → List Int → List (S34) → Int → Int → Int → Int → Bool → Option ((List (S34)))
  | 0, _, _, _, _, _, _, _, _ => none
  | k + 1, x0, x1, x5, x6, x7, x8, x38, x39 => if x39 = true then (if x5.length < 4398046511104 then (comitialaw4_Make.l0 k (wrap64 (x0 - x8)) x1 (x5 ++ [(⟨1, x8, (⟨#[]⟩ : ByteArray)⟩ : S34)]) x6 (wrap64 (x7 + 1))) else (none)) else (if x38 = 2 then (if x5.length < 4398046511104 then (comitialaw4_Make.l0 k (wrap64 (x0 - x8)) x1 (x5 ++ [(⟨3, x8, (⟨#[]⟩ : ByteArray)⟩ : S34)]) (wrap64 (x6 - x8)) (wrap64 (x7 + 1))) else (none)) else (if x38 = 3 then (if 0 ≤ x7 then (if x7 < (x1.length : Int) then ((comitialaw4_within.f (wrap64 (Int.tdiv (rd x1 x7) 7)) 5).bind fun t166 => (if 0 ≤ (wrap64 (1 + t166)) then (if (wrap64 (1 + t166)) ≤ 10 then (if (wrap64 (x6 + (((⟨#[97, 98, 99, 100, 101, 102, 103, 104, 105, 106]⟩ : ByteArray).extract 0 ((wrap64 (1 + t166)) : Int).toNat).size : Int))) ≤ 120 then (if x5.length < 4398046511104 then (comitialaw4_Make.l0 k x0 x1 (x5 ++ [(⟨2, 0, (⟨#[97, 98, 99, 100, 101, 102, 103, 104, 105, 106]⟩ : ByteArray).extract 0 ((wrap64 (1 + t166)) : Int).toNat⟩ : S34)]) (wrap64 (x6 + (((⟨#[97, 98, 99, 100, 101, 102, 103, 104, 105, 106]⟩ : ByteArray).extract 0 ((wrap64 (1 + t166)) : Int).toNat).size : Int))) (wrap64 (x7 + 1))) else (none)) else (comitialaw4_Make.l0 k x0 x1 x5 x6 (wrap64 (x7 + 1)))) else (none)) else (none))) else (none)) else (none)) else (comitialaw4_Make.l0 k x0 x1 x5 x6 (wrap64 (x7 + 1)))))
end
def comitialaw4_Make.f (k : Nat) (a0 : Int) (l1 : List Int) : Option ((List (S34))) := comitialaw4_Make.l0 k a0 l1 ([] : List (S34)) a0 0
theorem comitialaw4_Make.mono_l : ∀ k, (∀ y0 y1 y2 y3 y4, LeO (comitialaw4_Make.l0 k y0 y1 y2 y3 y4) (comitialaw4_Make.l0 (k + 1) y0 y1 y2 y3 y4)) ∧ (∀ y0 y1 y2 y3 y4 y5, LeO (comitialaw4_Make.j1 k y0 y1 y2 y3 y4 y5) (comitialaw4_Make.j1 (k + 1) y0 y1 y2 y3 y4 y5)) ∧ (∀ y0 y1 y2 y3 y4 y5 y6 y7, LeO (comitialaw4_Make.j2 k y0 y1 y2 y3 y4 y5 y6 y7) (comitialaw4_Make.j2 (k + 1) y0 y1 y2 y3 y4 y5 y6 y7))
  | 0 => ⟨fun _ _ _ _ _ r h => by simp [comitialaw4_Make.l0] at h, fun _ _ _ _ _ _ r h => by simp [comitialaw4_Make.j1] at h, fun _ _ _ _ _ _ _ _ r h => by simp [comitialaw4_Make.j2] at h⟩
  | k + 1 => by
    obtain ⟨ih0, ih1, ih2⟩ := comitialaw4_Make.mono_l k
    refine ⟨?_, ?_, ?_⟩
    · intro y0 y1 y2 y3 y4
      unfold comitialaw4_Make.l0
      repeat' first
      | (with_reducible exact ih0 _ _ _ _ _)
      | (with_reducible exact ih1 _ _ _ _ _ _)
      | (with_reducible exact ih2 _ _ _ _ _ _ _ _)
      | (with_reducible exact LeO.refl _)
      | (with_reducible exact LeO.none _)
      | (with_reducible refine LeO.ite ?_ ?_)
      | (with_reducible refine LeO.bind ?_ (fun _ => ?_))
      | exact ih0 _ _ _ _ _
      | exact ih1 _ _ _ _ _ _
      | exact ih2 _ _ _ _ _ _ _ _
      | exact LeO.none _
      | refine LeO.ite ?_ ?_
      | refine LeO.bind ?_ (fun _ => ?_)
    · intro y0 y1 y2 y3 y4 y5
      unfold comitialaw4_Make.j1
      repeat' first
      | (with_reducible exact ih0 _ _ _ _ _)
      | (with_reducible exact ih1 _ _ _ _ _ _)
      | (with_reducible exact ih2 _ _ _ _ _ _ _ _)
      | (with_reducible exact LeO.refl _)
      | (with_reducible exact LeO.none _)
      | (with_reducible refine LeO.ite ?_ ?_)
      | (with_reducible refine LeO.bind ?_ (fun _ => ?_))
      | exact ih0 _ _ _ _ _
      | exact ih1 _ _ _ _ _ _
      | exact ih2 _ _ _ _ _ _ _ _
      | exact LeO.none _
      | refine LeO.ite ?_ ?_
      | refine LeO.bind ?_ (fun _ => ?_)
    · intro y0 y1 y2 y3 y4 y5 y6 y7
      unfold comitialaw4_Make.j2
      repeat' first
      | (with_reducible exact ih0 _ _ _ _ _)
      | (with_reducible exact ih1 _ _ _ _ _ _)
      | (with_reducible exact ih2 _ _ _ _ _ _ _ _)
      | (with_reducible exact LeO.refl _)
      | (with_reducible exact LeO.none _)
      | (with_reducible refine LeO.ite ?_ ?_)
      | (with_reducible refine LeO.bind ?_ (fun _ => ?_))
      | exact ih0 _ _ _ _ _
      | exact ih1 _ _ _ _ _ _
      | exact ih2 _ _ _ _ _ _ _ _
      | exact LeO.none _
      | refine LeO.ite ?_ ?_
      | refine LeO.bind ?_ (fun _ => ?_)
theorem comitialaw4_Make.mono : ∀ a0 a1 k, LeO (comitialaw4_Make.f k a0 a1) (comitialaw4_Make.f (k + 1) a0 a1) := by
  intro a0 a1 k
  obtain ⟨ih0, ih1, ih2⟩ := comitialaw4_Make.mono_l k
  unfold comitialaw4_Make.f
  repeat' first
      | (with_reducible exact ih0 _ _ _ _ _)
      | (with_reducible exact ih1 _ _ _ _ _ _)
      | (with_reducible exact ih2 _ _ _ _ _ _ _ _)
      | (with_reducible exact LeO.refl _)
      | (with_reducible exact LeO.none _)
      | (with_reducible refine LeO.ite ?_ ?_)
      | (with_reducible refine LeO.bind ?_ (fun _ => ?_))
      | exact ih0 _ _ _ _ _
      | exact ih1 _ _ _ _ _ _
      | exact ih2 _ _ _ _ _ _ _ _
      | exact LeO.none _
      | refine LeO.ite ?_ ?_
      | refine LeO.bind ?_ (fun _ => ?_)
set_option maxHeartbeats 8000000 in
set_option maxRecDepth 100000 in
theorem comitialaw4_Make.calls (k : Nat) (a0 : Int) (A1 : Option Addr) (c1 : Nat) (l1 : List Int) (r : List (S34)) (w : World) (hr1 : Kd.C (Kd.int .i64) w A1 l1.length l1) (hc1 : l1.length ≤ c1) (h : comitialaw4_Make.f k a0 l1 = some r) :
    Calls Try.prog 19 #[.int .i64 a0, .slice A1 l1.length c1] w fun e w' => ∃ v0_ : Value, e = .returned (v0_) ∧ Kd.R k34 34 w' w.heap.size (fun _ => True) v0_ r ∧ Below w.heap.size w w' := by
  have hu34 := Try.underlying34
  have HR1 := Aside0.mk hr1
  have HC1 := Aside0.mk hc1
  clear hr1 hc1
  have HB := Aside0.mk (Below.refl w.heap.size w)
  have H : (comitialaw4_Make.l0 k a0 l1 ([] : List (S34)) a0 0) = some r := h
  clear h
  have H' := Aside0.mk H
  clear H
  go_enter Try.func19, Try.ntmps19
  go_wp2
  go_loopg [0, 5, 6, 7] k (fun kq v0 v5 v6 v7 w' => ∃ (x0_1 : Int) (x5_1 : List (S34)) (x6_1 : Int) (x7_1 : Int), v0 = .int .i64 x0_1 ∧ v6 = .int .i64 x6_1 ∧ v7 = .int .i64 x7_1 ∧ Aside0 (comitialaw4_Make.l0 kq x0_1 l1 x5_1 x6_1 x7_1 = some r) ∧ Aside0 (kq ≤ k) ∧ Aside0 (Kd.R k34 34 w' w.heap.size (fun _ => True) v5 x5_1) ∧ Aside0 (Below w.heap.size w w'))
  case atStart => exact ⟨(a0), (([] : List (S34))), (a0), (0), (by first | rfl | (simp; done) | (simp [*]; done) | exact congrArg Value.bool (emp_ne _)), (by first | rfl | (simp; done) | (simp [*]; done) | exact congrArg Value.bool (emp_ne _)), (by first | rfl | (simp; done) | (simp [*]; done) | exact congrArg Value.bool (emp_ne _)), H', ⟨Nat.le_refl _⟩, ⟨by first | exact Kd.R_nil _ _ _ _ _ | exact Kd.N_nil _ _ _ _ _ | exact Kd.V_nil _ _ _ _ _ | exact Kd.Q_nil _ _ _ _ _ | exact Kd.S_nil _ _ _ _ _⟩, ⟨by repeat (first | (with_reducible first | exact HB.out | apply below_alloc | apply pw_below_drewN | apply below_drew1) | exact HB.out)⟩⟩
  case round =>
    clear H'
    try clear c1
    try clear p2
    obtain ⟨x0_1, x5_1, x6_1, x7_1, rfl, rfl, rfl, HA, HK1, HO_5, HB⟩ := hrel
    cases gk with
    | zero => exact absurd HA.out (by simp [comitialaw4_Make.l0])
    | succ k1 =>
      have H := HA.out
      clear HA
      simp only [comitialaw4_Make.l0] at H
      have HC3 := Aside0.mk H
      clear H
      go_upto_region 4 with (fail)
      go_cut [22] (fun v22 wc => ∃ (kq : Nat) (x22_2 : Bool), v22 = .bool x22_2 ∧ Aside0 (comitialaw4_Make.j1 kq x0_1 l1 x5_1 x6_1 x7_1 x22_2 = some r) ∧ Aside0 (kq ≤ k1) ∧ Aside0 (Kd.R k34 34 wc w.heap.size (fun _ => True) u5 x5_1) ∧ Aside0 (Below w.heap.size w wc))
      case first =>
        have H := HC3.out
        clear HC3
        by_cases c4 : x7_1 < (l1.length : Int)
        · rw [if_pos c4] at H
          have c4b0 : decide (x7_1 < (l1.length : Int)) = true := decide_eq_true c4
          clear c4
          (first | rw [c4b0] | rw [c4b1] | (simp only [i64_w, i32_w]; rw [c4b0]) | skip)
          by_cases c5 : x7_1 < 12
          · rw [if_pos c5] at H
            have c5b0 : decide (x7_1 < 12) = true := decide_eq_true c5
            clear c5
            have H' := Aside0.mk H
            clear H
            go_wp2
            go_meet
            case rel => exact ⟨_, (decide (x0_1 > 0)), (by first | rfl | (simp; done) | (simp [*]; done) | exact congrArg Value.bool (emp_ne _)), H', ⟨by have := HK1.out; first | omega | exact Nat.le_refl _⟩, ⟨by (with_reducible repeat (first | apply Kd.R_alloc | apply Kd.R_drewN | apply Kd.R_drew)); exact HO_5.out⟩, ⟨by repeat (first | (with_reducible first | exact HB.out | apply below_alloc | apply pw_below_drewN | apply below_drew1) | exact HB.out)⟩⟩
          · rw [if_neg c5] at H
            have c5b0 : decide (x7_1 < 12) = false := decide_eq_false c5
            clear c5
            have H' := Aside0.mk H
            clear H
            go_wp2
            go_meet
            case rel => exact ⟨_, (false), (by first | rfl | (simp; done) | (simp [*]; done) | exact congrArg Value.bool (emp_ne _)), H', ⟨by have := HK1.out; first | omega | exact Nat.le_refl _⟩, ⟨by (with_reducible repeat (first | apply Kd.R_alloc | apply Kd.R_drewN | apply Kd.R_drew)); exact HO_5.out⟩, ⟨by repeat (first | (with_reducible first | exact HB.out | apply below_alloc | apply pw_below_drewN | apply below_drew1) | exact HB.out)⟩⟩
        · rw [if_neg c4] at H
          have c4b0 : decide (x7_1 < (l1.length : Int)) = false := decide_eq_false c4
          clear c4
          (first | rw [c4b0] | rw [c4b1] | (simp only [i64_w, i32_w]; rw [c4b0]) | skip)
          have H' := Aside0.mk H
          clear H
          go_wp2
          go_meet
          case rel => exact ⟨_, (false), (by first | rfl | (simp; done) | (simp [*]; done) | exact congrArg Value.bool (emp_ne _)), H', ⟨by have := HK1.out; first | omega | exact Nat.le_refl _⟩, ⟨by (with_reducible repeat (first | apply Kd.R_alloc | apply Kd.R_drewN | apply Kd.R_drew)); exact HO_5.out⟩, ⟨by repeat (first | (with_reducible first | exact HB.out | apply below_alloc | apply pw_below_drewN | apply below_drew1) | exact HB.out)⟩⟩
      case rest =>
        clear HC3
        try clear c1
        try clear p2
        try clear c4
        try clear c4b0
        try clear c5
        try clear c5b0
        try clear p2
        obtain ⟨kq, x22_2, rfl, HA, HJ2, HO_5, HB⟩ := hcut
        cases kq with
        | zero => exact absurd HA.out (by simp [comitialaw4_Make.j1])
        | succ kj2 =>
          have H := HA.out
          clear HA
          simp only [comitialaw4_Make.j1] at H
          by_cases c6 : x22_2 = true
          · subst c6
            have H1 : (if 0 ≤ x7_1 then (if x7_1 < (l1.length : Int) then ((comitialaw4_within.f (wrap64 (Int.tdiv (rd l1 x7_1) 7)) (mn x0_1 9)).bind fun t156 => ((comitialaw4_within.f (rd l1 x7_1) 4).bind fun t158 => (if t158 = 0 then (comitialaw4_Make.j2 kj2 x0_1 l1 x5_1 x6_1 x7_1 (wrap64 (1 + t156)) t158 (t158 == 0)) else (comitialaw4_Make.j2 kj2 x0_1 l1 x5_1 x6_1 x7_1 (wrap64 (1 + t156)) t158 (t158 == 1))))) else (none)) else (none)) = some r := by rw [if_pos rfl] at H; exact H
            clear H
            have H := H1
            clear H1
            by_cases c7 : 0 ≤ x7_1
            · rw [if_pos c7] at H
              have c7b0 : decide (0 ≤ x7_1) = true := decide_eq_true c7
              clear c7
              by_cases c8 : x7_1 < (l1.length : Int)
              · rw [if_pos c8] at H
                have c8b0 : decide (x7_1 < (l1.length : Int)) = true := decide_eq_true c8
                clear c8
                obtain ⟨ji9, hji9⟩ : ∃ j_ : Int, (mn x0_1 9) = j_ := ⟨_, rfl⟩
                replace H : ((comitialaw4_within.f (wrap64 (Int.tdiv (rd l1 x7_1) 7)) (ji9)).bind fun t156 => ((comitialaw4_within.f (rd l1 x7_1) 4).bind fun t158 => (if t158 = 0 then (comitialaw4_Make.j2 kj2 x0_1 l1 x5_1 x6_1 x7_1 (wrap64 (1 + t156)) t158 (t158 == 0)) else (comitialaw4_Make.j2 kj2 x0_1 l1 x5_1 x6_1 x7_1 (wrap64 (1 + t156)) t158 (t158 == 1))))) = some r := by first | (rw [hji9] at H; exact H) | (simp only [hji9] at H ⊢; exact H)
                have hji9_ : (if 9 < x0_1 then 9 else x0_1) = ji9 := hji9
                replace H := Option.bind_eq_some_iff.mp H
                obtain ⟨t156, A100, H⟩ := H
                replace H : ((comitialaw4_within.f (rd l1 x7_1) 4).bind fun t158 => (if t158 = 0 then (comitialaw4_Make.j2 kj2 x0_1 l1 x5_1 x6_1 x7_1 (wrap64 (1 + t156)) t158 (t158 == 0)) else (comitialaw4_Make.j2 kj2 x0_1 l1 x5_1 x6_1 x7_1 (wrap64 (1 + t156)) t158 (t158 == 1)))) = some r := H
                have A10 := Aside0.mk A100
                clear A100
                replace H := Option.bind_eq_some_iff.mp H
                obtain ⟨t158, A110, H⟩ := H
                replace H : (if t158 = 0 then (comitialaw4_Make.j2 kj2 x0_1 l1 x5_1 x6_1 x7_1 (wrap64 (1 + t156)) t158 (t158 == 0)) else (comitialaw4_Make.j2 kj2 x0_1 l1 x5_1 x6_1 x7_1 (wrap64 (1 + t156)) t158 (t158 == 1))) = some r := H
                have A11 := Aside0.mk A110
                clear A110
                have HC12 := Aside0.mk H
                clear H
                have p155 : 0 ≤ (x7_1 : Int) := of_decide_eq_true (by first | (with_reducible assumption) | assumption)
                have q155 : x7_1 < (l1.length : Int) := of_decide_eq_true (by first | (with_reducible assumption) | assumption)
                obtain ⟨ad155, e155, hx155_0⟩ := Kd.at_int HR1.out x7_1 p155 q155
                cases e155
                replace hx155_0 := (HB.out.cell (World.block_lt_of_cell? w _ hx155_0)).trans hx155_0
                replace p155 := eq_true p155
                replace q155 := eq_true q155
                go_upto_if 39 with (first | ((with_reducible refine gate_callee (f := 42) rfl ?_); refine goesL_ (some 32) rfl rfl Try.func42 (by kernel_rfl) rfl #[.int .i64 (wrap64 (Int.tdiv (rd l1 x7_1) 7)), .int .i64 ji9] rfl (by (try simp only [List.map_toArray, List.map_cons, List.map_nil]); first | done | (simp only [hji9]; rfl) | rfl | (simp only [List.length_drop, List.length_take]; rfl)) ?_; (with_reducible refine (comitialaw4_within.calls (wrap64 (Int.tdiv (rd l1 x7_1) 7)) ji9 t156 _ A10.out).mono ?_); rintro e w' ⟨rfl, ⟨nd, rfl⟩⟩; refine ⟨_, rfl, ?_⟩; have p157 : 0 ≤ (x7_1 : Int) := of_decide_eq_true (by first | (with_reducible assumption) | assumption); have q157 : x7_1 < (l1.length : Int) := of_decide_eq_true (by first | (with_reducible assumption) | assumption); obtain ⟨ad157, e157, hx157_0⟩ := Kd.at_int HR1.out x7_1 p157 q157; obtain rfl : ad155 = ad157 := (by injection e157); replace hx157_0 := (HB.out.cell (World.block_lt_of_cell? w _ hx157_0)).trans hx157_0; replace p157 := eq_true p157; replace q157 := eq_true q157) | ((with_reducible refine gate_callee (f := 42) rfl ?_); refine goesL_ (some 38) rfl rfl Try.func42 (by kernel_rfl) rfl #[.int .i64 (rd l1 x7_1), .int .i64 4] rfl (by (try simp only [List.map_toArray, List.map_cons, List.map_nil]); first | done | rfl | (simp only [List.length_drop, List.length_take]; rfl)) ?_; (with_reducible refine (comitialaw4_within.calls (rd l1 x7_1) 4 t158 _ A11.out).mono ?_); rintro e w' ⟨rfl, ⟨nd, rfl⟩⟩; refine ⟨_, rfl, ?_⟩))
                (try simp only [Act.put, List.setIfInBounds_toArray, List.set_cons_zero, List.set_cons_succ])
                go_cut [39] (fun v39 wc => ∃ (kq : Nat) (x39_11 : Bool), v39 = .bool x39_11 ∧ Aside0 (comitialaw4_Make.j2 kq x0_1 l1 x5_1 x6_1 x7_1 (wrap64 (1 + t156)) t158 x39_11 = some r) ∧ Aside0 (kq ≤ kj2) ∧ Aside0 (Kd.R k34 34 wc w.heap.size (fun _ => True) u5 x5_1) ∧ Aside0 (Below w.heap.size w wc))
                case first =>
                  have H := HC12.out
                  clear HC12
                  by_cases c13 : t158 = 0
                  · rw [if_pos c13] at H
                    have c13b0 : (t158 == 0) = true := beq_iff_eq.mpr c13
                    have c13b1 : (t158 != 0) = false := bne_eq_false_iff_eq.mpr c13
                    clear c13
                    (first | rw [c13b0] | rw [c13b1] | (simp only [i64_w, i32_w]; rw [c13b0]) | skip)
                    have H' := Aside0.mk H
                    clear H
                    go_wp2
                    go_meet
                    case rel => exact ⟨_, ((t158 == 0)), (by first | rfl | (simp; done) | (simp [*]; done) | exact congrArg Value.bool (emp_ne _)), H', ⟨by have := HK1.out; have := HJ2.out; first | omega | exact Nat.le_refl _⟩, ⟨by (with_reducible repeat (first | apply Kd.R_alloc | apply Kd.R_drewN | apply Kd.R_drew)); exact HO_5.out⟩, ⟨by repeat (first | (with_reducible first | exact HB.out | apply below_alloc | apply pw_below_drewN | apply below_drew1) | exact HB.out)⟩⟩
                  · rw [if_neg c13] at H
                    have c13b0 : (t158 == 0) = false := beq_eq_false_iff_ne.mpr c13
                    have c13b1 : (t158 != 0) = true := bne_iff_ne.mpr c13
                    (first | rw [c13b0] | rw [c13b1] | (simp only [i64_w, i32_w]; rw [c13b0]) | skip)
                    have H' := Aside0.mk H
                    clear H
                    go_wp2
                    go_meet
                    case rel => exact ⟨_, ((t158 == 1)), (by first | rfl | (simp; done) | (simp [*]; done) | exact congrArg Value.bool (emp_ne _)), H', ⟨by have := HK1.out; have := HJ2.out; first | omega | exact Nat.le_refl _⟩, ⟨by (with_reducible repeat (first | apply Kd.R_alloc | apply Kd.R_drewN | apply Kd.R_drew)); exact HO_5.out⟩, ⟨by repeat (first | (with_reducible first | exact HB.out | apply below_alloc | apply pw_below_drewN | apply below_drew1) | exact HB.out)⟩⟩
                case rest =>
                  clear HC12
                  try clear c1
                  try clear p1
                  try clear q1
                  try clear hx1
                  try clear p2
                  try clear c4
                  try clear c4b0
                  try clear c5
                  try clear c5b0
                  try clear c6
                  try clear p6
                  try clear c7
                  try clear c7b0
                  try clear c8
                  try clear c8b0
                  try clear c13
                  try clear c13b0
                  try clear c13b1
                  try clear hx155_0
                  try clear hx157_0
                  try clear p155
                  try clear p157
                  try clear p2
                  try clear q155
                  try clear q157
                  obtain ⟨kq, x39_11, rfl, HA, HJ11, HO_5, HB⟩ := hcut
                  cases kq with
                  | zero => exact absurd HA.out (by simp [comitialaw4_Make.j2])
                  | succ kj11 =>
                    have H := HA.out
                    clear HA
                    simp only [comitialaw4_Make.j2] at H
                    by_cases c14 : x39_11 = true
                    · subst c14
                      have H1 : (if x5_1.length < 4398046511104 then (comitialaw4_Make.l0 kj11 (wrap64 (x0_1 - (wrap64 (1 + t156)))) l1 (x5_1 ++ [(⟨1, (wrap64 (1 + t156)), (⟨#[]⟩ : ByteArray)⟩ : S34)]) x6_1 (wrap64 (x7_1 + 1))) else (none)) = some r := by rw [if_pos rfl] at H; exact H
                      clear H
                      have H := H1
                      clear H1
                      by_cases c15 : x5_1.length < 4398046511104
                      · rw [if_pos c15] at H
                        have LMc15 := Aside0.mk c15
                        clear c15
                        obtain ⟨y159, hy159⟩ : ∃ y_ : List (S34), y_ = (x5_1 ++ [(⟨1, (wrap64 (1 + t156)), (⟨#[]⟩ : ByteArray)⟩ : S34)]) := ⟨_, rfl⟩
                        replace H : (comitialaw4_Make.l0 kj11 (wrap64 (x0_1 - (wrap64 (1 + t156)))) l1 y159 x6_1 (wrap64 (x7_1 + 1))) = some r := by first | (rw [hy159]; with_reducible exact H) | (have H2_ := (Option.bind_some _ _).symm.trans H; rw [hy159]; with_reducible exact H2_) | (have H2_ := (Option.bind_some _ _).symm.trans H; with_reducible exact H2_) | with_reducible exact H | (rw [hy159]; exact H) | exact H
                        have Ny159 := Aside0.mk hy159
                        clear hy159
                        have H' := Aside0.mk H
                        clear H
                        go_wp2_with (first | ((with_reducible refine gate_builtin (b := .append) (xs := #[.tmp 42, .tmp 45]) rfl ?_); at_builtin; refine Kd.R_append k34 (w0 := w) w.heap.size rfl (.tmp 42) (.tmp 45) 28 34 (.agg #[(.int .i64 0), (.int .i64 0), (.string ⟨#[]⟩)]) 32 rfl Try.underlying28 info34 rfl (by decide) (by omega) u5 x5_1 (⟨1, (wrap64 (1 + t156)), (⟨#[]⟩ : ByteArray)⟩ : S34) [.int .i64 1, .int .i64 (wrap64 (1 + t156)), .string (⟨#[]⟩ : ByteArray)] (fun _ => True) (fun _ => False) rfl rfl ?aP (fun _ hk => hk.elim) ?aF ?aO ?aB ?aS ?aL ?_; (case aP => exact k34_mkM _ _ _ (⟨1, (wrap64 (1 + t156)), (⟨#[]⟩ : ByteArray)⟩ : S34)); (case aB => exact (by repeat (first | (with_reducible first | exact HB.out | apply below_alloc | apply pw_below_drewN | apply below_drew1) | exact HB.out))); (case aF => exact (fun _ _ => trivial)); (case aO => exact (by (with_reducible repeat (first | apply Kd.R_alloc | apply Kd.R_drewN | apply Kd.R_drew)); exact HO_5.out)); (case aS => exact (below_size (by repeat (first | (with_reducible first | exact HB.out | apply below_alloc | apply pw_below_drewN | apply below_drew1) | exact HB.out)))); (case aL => have := LMc15.out; omega); intro v160 w16 ho hb hg hat; rw [← Ny159.out] at ho; have n0_ := Aside0.mk (hb); have n1_ := Aside0.mk (ho); clear HB; clear HO_5; have HB := n0_; have HO161 := n1_; clear n0_ n1_; clear ho hb hg hat))
                        go_roundg kj11
                        case measure => have := HK1.out; have := HJ2.out; have := HJ11.out; omega
                        case rel => exact ⟨(wrap64 (x0_1 - (wrap64 (1 + t156)))), (y159), (x6_1), (wrap64 (x7_1 + 1)), (by first | rfl | (simp; done) | (simp [*]; done) | exact congrArg Value.bool (emp_ne _)), (by first | rfl | (simp; done) | (simp [*]; done) | exact congrArg Value.bool (emp_ne _)), (by first | rfl | (simp; done) | (simp [*]; done) | exact congrArg Value.bool (emp_ne _)), H', ⟨by have := HK1.out; have := HJ2.out; have := HJ11.out; omega⟩, ⟨by (with_reducible repeat (first | apply Kd.R_alloc | apply Kd.R_drewN | apply Kd.R_drew)); exact HO161.out⟩, ⟨by repeat (first | (with_reducible first | exact HB.out | apply below_alloc | apply pw_below_drewN | apply below_drew1) | exact HB.out)⟩⟩
                      · rw [if_neg c15] at H
                        exact absurd H (by simp)
                    · replace c14 := Bool.eq_false_iff.mpr c14
                      subst c14
                      have H1 : (if t158 = 2 then (if x5_1.length < 4398046511104 then (comitialaw4_Make.l0 kj11 (wrap64 (x0_1 - (wrap64 (1 + t156)))) l1 (x5_1 ++ [(⟨3, (wrap64 (1 + t156)), (⟨#[]⟩ : ByteArray)⟩ : S34)]) (wrap64 (x6_1 - (wrap64 (1 + t156)))) (wrap64 (x7_1 + 1))) else (none)) else (if t158 = 3 then (if 0 ≤ x7_1 then (if x7_1 < (l1.length : Int) then ((comitialaw4_within.f (wrap64 (Int.tdiv (rd l1 x7_1) 7)) 5).bind fun t166 => (if 0 ≤ (wrap64 (1 + t166)) then (if (wrap64 (1 + t166)) ≤ 10 then (if (wrap64 (x6_1 + (((⟨#[97, 98, 99, 100, 101, 102, 103, 104, 105, 106]⟩ : ByteArray).extract 0 ((wrap64 (1 + t166)) : Int).toNat).size : Int))) ≤ 120 then (if x5_1.length < 4398046511104 then (comitialaw4_Make.l0 kj11 x0_1 l1 (x5_1 ++ [(⟨2, 0, (⟨#[97, 98, 99, 100, 101, 102, 103, 104, 105, 106]⟩ : ByteArray).extract 0 ((wrap64 (1 + t166)) : Int).toNat⟩ : S34)]) (wrap64 (x6_1 + (((⟨#[97, 98, 99, 100, 101, 102, 103, 104, 105, 106]⟩ : ByteArray).extract 0 ((wrap64 (1 + t166)) : Int).toNat).size : Int))) (wrap64 (x7_1 + 1))) else (none)) else (comitialaw4_Make.l0 kj11 x0_1 l1 x5_1 x6_1 (wrap64 (x7_1 + 1)))) else (none)) else (none))) else (none)) else (none)) else (comitialaw4_Make.l0 kj11 x0_1 l1 x5_1 x6_1 (wrap64 (x7_1 + 1))))) = some r := by rw [if_neg (show ¬ (false = true) by decide)] at H; exact H
                      clear H
                      have H := H1
                      clear H1
                      by_cases c17 : t158 = 2
                      · rw [if_pos c17] at H
                        have c17b0 : (t158 == 2) = true := beq_iff_eq.mpr c17
                        have c17b1 : (t158 != 2) = false := bne_eq_false_iff_eq.mpr c17
                        clear c17
                        by_cases c18 : x5_1.length < 4398046511104
                        · rw [if_pos c18] at H
                          have LMc18 := Aside0.mk c18
                          clear c18
                          obtain ⟨y162, hy162⟩ : ∃ y_ : List (S34), y_ = (x5_1 ++ [(⟨3, (wrap64 (1 + t156)), (⟨#[]⟩ : ByteArray)⟩ : S34)]) := ⟨_, rfl⟩
                          replace H : (comitialaw4_Make.l0 kj11 (wrap64 (x0_1 - (wrap64 (1 + t156)))) l1 y162 (wrap64 (x6_1 - (wrap64 (1 + t156)))) (wrap64 (x7_1 + 1))) = some r := by first | (rw [hy162]; with_reducible exact H) | (have H2_ := (Option.bind_some _ _).symm.trans H; rw [hy162]; with_reducible exact H2_) | (have H2_ := (Option.bind_some _ _).symm.trans H; with_reducible exact H2_) | with_reducible exact H | (rw [hy162]; exact H) | exact H
                          have Ny162 := Aside0.mk hy162
                          clear hy162
                          have H' := Aside0.mk H
                          clear H
                          go_wp2_with (first | ((with_reducible refine gate_builtin (b := .append) (xs := #[.tmp 52, .tmp 55]) rfl ?_); at_builtin; refine Kd.R_append k34 (w0 := w) w.heap.size rfl (.tmp 52) (.tmp 55) 28 34 (.agg #[(.int .i64 0), (.int .i64 0), (.string ⟨#[]⟩)]) 32 rfl Try.underlying28 info34 rfl (by decide) (by omega) u5 x5_1 (⟨3, (wrap64 (1 + t156)), (⟨#[]⟩ : ByteArray)⟩ : S34) [.int .i64 3, .int .i64 (wrap64 (1 + t156)), .string (⟨#[]⟩ : ByteArray)] (fun _ => True) (fun _ => False) rfl rfl ?aP (fun _ hk => hk.elim) ?aF ?aO ?aB ?aS ?aL ?_; (case aP => exact k34_mkM _ _ _ (⟨3, (wrap64 (1 + t156)), (⟨#[]⟩ : ByteArray)⟩ : S34)); (case aB => exact (by repeat (first | (with_reducible first | exact HB.out | apply below_alloc | apply pw_below_drewN | apply below_drew1) | exact HB.out))); (case aF => exact (fun _ _ => trivial)); (case aO => exact (by (with_reducible repeat (first | apply Kd.R_alloc | apply Kd.R_drewN | apply Kd.R_drew)); exact HO_5.out)); (case aS => exact (below_size (by repeat (first | (with_reducible first | exact HB.out | apply below_alloc | apply pw_below_drewN | apply below_drew1) | exact HB.out)))); (case aL => have := LMc18.out; omega); intro v163 w19 ho hb hg hat; rw [← Ny162.out] at ho; have n0_ := Aside0.mk (hb); have n1_ := Aside0.mk (ho); clear HB; clear HO_5; have HB := n0_; have HO164 := n1_; clear n0_ n1_; clear ho hb hg hat))
                          go_roundg kj11
                          case measure => have := HK1.out; have := HJ2.out; have := HJ11.out; omega
                          case rel => exact ⟨(wrap64 (x0_1 - (wrap64 (1 + t156)))), (y162), (wrap64 (x6_1 - (wrap64 (1 + t156)))), (wrap64 (x7_1 + 1)), (by first | rfl | (simp; done) | (simp [*]; done) | exact congrArg Value.bool (emp_ne _)), (by first | rfl | (simp; done) | (simp [*]; done) | exact congrArg Value.bool (emp_ne _)), (by first | rfl | (simp; done) | (simp [*]; done) | exact congrArg Value.bool (emp_ne _)), H', ⟨by have := HK1.out; have := HJ2.out; have := HJ11.out; omega⟩, ⟨by (with_reducible repeat (first | apply Kd.R_alloc | apply Kd.R_drewN | apply Kd.R_drew)); exact HO164.out⟩, ⟨by repeat (first | (with_reducible first | exact HB.out | apply below_alloc | apply pw_below_drewN | apply below_drew1) | exact HB.out)⟩⟩
                        · rw [if_neg c18] at H
                          exact absurd H (by simp)
                      · rw [if_neg c17] at H
                        have c17b0 : (t158 == 2) = false := beq_eq_false_iff_ne.mpr c17
                        have c17b1 : (t158 != 2) = true := bne_iff_ne.mpr c17
                        by_cases c20 : t158 = 3
                        · rw [if_pos c20] at H
                          have c20b0 : (t158 == 3) = true := beq_iff_eq.mpr c20
                          have c20b1 : (t158 != 3) = false := bne_eq_false_iff_eq.mpr c20
                          clear c20
                          by_cases c21 : 0 ≤ x7_1
                          · rw [if_pos c21] at H
                            have c21b0 : decide (0 ≤ x7_1) = true := decide_eq_true c21
                            clear c21
                            by_cases c22 : x7_1 < (l1.length : Int)
                            · rw [if_pos c22] at H
                              have c22b0 : decide (x7_1 < (l1.length : Int)) = true := decide_eq_true c22
                              clear c22
                              replace H := Option.bind_eq_some_iff.mp H
                              obtain ⟨t166, A230, H⟩ := H
                              replace H : (if 0 ≤ (wrap64 (1 + t166)) then (if (wrap64 (1 + t166)) ≤ 10 then (if (wrap64 (x6_1 + (((⟨#[97, 98, 99, 100, 101, 102, 103, 104, 105, 106]⟩ : ByteArray).extract 0 ((wrap64 (1 + t166)) : Int).toNat).size : Int))) ≤ 120 then (if x5_1.length < 4398046511104 then (comitialaw4_Make.l0 kj11 x0_1 l1 (x5_1 ++ [(⟨2, 0, (⟨#[97, 98, 99, 100, 101, 102, 103, 104, 105, 106]⟩ : ByteArray).extract 0 ((wrap64 (1 + t166)) : Int).toNat⟩ : S34)]) (wrap64 (x6_1 + (((⟨#[97, 98, 99, 100, 101, 102, 103, 104, 105, 106]⟩ : ByteArray).extract 0 ((wrap64 (1 + t166)) : Int).toNat).size : Int))) (wrap64 (x7_1 + 1))) else (none)) else (comitialaw4_Make.l0 kj11 x0_1 l1 x5_1 x6_1 (wrap64 (x7_1 + 1)))) else (none)) else (none)) = some r := H
                              have A23 := Aside0.mk A230
                              clear A230
                              obtain ⟨ji24, hji24⟩ : ∃ j_ : Int, (wrap64 (1 + t166)) = j_ := ⟨_, rfl⟩
                              replace H : (if 0 ≤ (ji24) then (if (ji24) ≤ 10 then (if (wrap64 (x6_1 + (((⟨#[97, 98, 99, 100, 101, 102, 103, 104, 105, 106]⟩ : ByteArray).extract 0 ((ji24) : Int).toNat).size : Int))) ≤ 120 then (if x5_1.length < 4398046511104 then (comitialaw4_Make.l0 kj11 x0_1 l1 (x5_1 ++ [(⟨2, 0, (⟨#[97, 98, 99, 100, 101, 102, 103, 104, 105, 106]⟩ : ByteArray).extract 0 ((ji24) : Int).toNat⟩ : S34)]) (wrap64 (x6_1 + (((⟨#[97, 98, 99, 100, 101, 102, 103, 104, 105, 106]⟩ : ByteArray).extract 0 ((ji24) : Int).toNat).size : Int))) (wrap64 (x7_1 + 1))) else (none)) else (comitialaw4_Make.l0 kj11 x0_1 l1 x5_1 x6_1 (wrap64 (x7_1 + 1)))) else (none)) else (none)) = some r := by first | (rw [hji24] at H; exact H) | (simp only [hji24] at H ⊢; exact H)
                              (try rw [hji24] at A23)
                              have hji24w : (IntKind.i64.wrap (1 + t166)) = ji24 := (i64_w _).trans hji24
                              by_cases c25 : 0 ≤ (ji24)
                              · rw [if_pos c25] at H
                                have c25b0 := eq_true c25
                                have c25b1 : decide (0 ≤ (ji24)) = true := decide_eq_true c25
                                clear c25
                                by_cases c26 : (ji24) ≤ 10
                                · rw [if_pos c26] at H
                                  have c26b0 := eq_true c26
                                  have c26b1 : decide ((ji24) ≤ 10) = true := decide_eq_true c26
                                  clear c26
                                  by_cases c27 : (wrap64 (x6_1 + (((⟨#[97, 98, 99, 100, 101, 102, 103, 104, 105, 106]⟩ : ByteArray).extract 0 ((ji24) : Int).toNat).size : Int))) ≤ 120
                                  · rw [if_pos c27] at H
                                    have ezji24 := Aside0.mk (ext_size (⟨#[97, 98, 99, 100, 101, 102, 103, 104, 105, 106]⟩ : ByteArray) ji24 (show (ji24 : Int) ≤ 10 from of_decide_eq_true (by assumption)))
                                    have c27b0 : decide ((wrap64 (x6_1 + (((⟨#[97, 98, 99, 100, 101, 102, 103, 104, 105, 106]⟩ : ByteArray).extract 0 ((ji24) : Int).toNat).size : Int))) ≤ 120) = true := decide_eq_true c27
                                    have c27b8 : decide ((wrap64 (x6_1 + max ji24 0)) ≤ 120) = true := (by have h_ := c27b0; rw [ezji24.out] at h_; exact h_)
                                    clear c27
                                    by_cases c28 : x5_1.length < 4398046511104
                                    · rw [if_pos c28] at H
                                      have LMc28 := Aside0.mk c28
                                      clear c28
                                      obtain ⟨y167, hy167⟩ : ∃ y_ : List (S34), y_ = (x5_1 ++ [(⟨2, 0, (⟨#[97, 98, 99, 100, 101, 102, 103, 104, 105, 106]⟩ : ByteArray).extract 0 ((ji24) : Int).toNat⟩ : S34)]) := ⟨_, rfl⟩
                                      replace H : (comitialaw4_Make.l0 kj11 x0_1 l1 y167 (wrap64 (x6_1 + (((⟨#[97, 98, 99, 100, 101, 102, 103, 104, 105, 106]⟩ : ByteArray).extract 0 ((ji24) : Int).toNat).size : Int))) (wrap64 (x7_1 + 1))) = some r := by first | (rw [hy167]; with_reducible exact H) | (have H2_ := (Option.bind_some _ _).symm.trans H; rw [hy167]; with_reducible exact H2_) | (have H2_ := (Option.bind_some _ _).symm.trans H; with_reducible exact H2_) | with_reducible exact H | (rw [hy167]; exact H) | exact H
                                      have Ny167 := Aside0.mk hy167
                                      clear hy167
                                      have H' := Aside0.mk H
                                      clear H
                                      have p165 : 0 ≤ (x7_1 : Int) := of_decide_eq_true (by first | (with_reducible assumption) | assumption)
                                      have q165 : x7_1 < (l1.length : Int) := of_decide_eq_true (by first | (with_reducible assumption) | assumption)
                                      obtain ⟨ad165, e165, hx165_0⟩ := Kd.at_int HR1.out x7_1 p165 q165
                                      obtain rfl : ad155 = ad165 := (by injection e165)
                                      replace hx165_0 := (HB.out.cell (World.block_lt_of_cell? w _ hx165_0)).trans hx165_0
                                      replace p165 := eq_true p165
                                      replace q165 := eq_true q165
                                      go_wp2_with (first | ((with_reducible refine gate_callee (f := 42) rfl ?_); refine goesL_ (some 70) rfl rfl Try.func42 (by kernel_rfl) rfl #[.int .i64 (wrap64 (Int.tdiv (rd l1 x7_1) 7)), .int .i64 5] rfl (by (try simp only [List.map_toArray, List.map_cons, List.map_nil]); first | done | rfl | (simp only [List.length_drop, List.length_take]; rfl)) ?_; (with_reducible refine (comitialaw4_within.calls (wrap64 (Int.tdiv (rd l1 x7_1) 7)) 5 t166 _ A23.out).mono ?_); rintro e w' ⟨rfl, ⟨nd, rfl⟩⟩; refine ⟨_, rfl, ?_⟩) | ((with_reducible refine gate_builtin (b := .append) (xs := #[.tmp 78, .tmp 81]) rfl ?_); at_builtin; refine Kd.R_append k34 (w0 := w) w.heap.size rfl (.tmp 78) (.tmp 81) 28 34 (.agg #[(.int .i64 0), (.int .i64 0), (.string ⟨#[]⟩)]) 32 rfl Try.underlying28 info34 rfl (by decide) (by omega) u5 x5_1 (⟨2, 0, (⟨#[97, 98, 99, 100, 101, 102, 103, 104, 105, 106]⟩ : ByteArray).extract 0 ((ji24) : Int).toNat⟩ : S34) [.int .i64 2, .int .i64 0, .string ((⟨#[97, 98, 99, 100, 101, 102, 103, 104, 105, 106]⟩ : ByteArray).extract 0 ((ji24) : Int).toNat)] (fun _ => True) (fun _ => False) rfl rfl ?aP (fun _ hk => hk.elim) ?aF ?aO ?aB ?aS ?aL ?_; (case aP => exact k34_mkM _ _ _ (⟨2, 0, (⟨#[97, 98, 99, 100, 101, 102, 103, 104, 105, 106]⟩ : ByteArray).extract 0 ((ji24) : Int).toNat⟩ : S34)); (case aB => exact (by repeat (first | (with_reducible first | exact HB.out | apply below_alloc | apply pw_below_drewN | apply below_drew1) | exact HB.out))); (case aF => exact (fun _ _ => trivial)); (case aO => exact (by (with_reducible repeat (first | apply Kd.R_alloc | apply Kd.R_drewN | apply Kd.R_drew)); exact HO_5.out)); (case aS => exact (below_size (by repeat (first | (with_reducible first | exact HB.out | apply below_alloc | apply pw_below_drewN | apply below_drew1) | exact HB.out)))); (case aL => have := LMc28.out; omega); intro v168 w29 ho hb hg hat; rw [← Ny167.out] at ho; have n0_ := Aside0.mk (hb); have n1_ := Aside0.mk (ho); clear HB; clear HO_5; have HB := n0_; have HO169 := n1_; clear n0_ n1_; clear ho hb hg hat))
                                      go_roundg kj11
                                      case measure => have := HK1.out; have := HJ2.out; have := HJ11.out; omega
                                      case rel => exact ⟨(x0_1), (y167), (wrap64 (x6_1 + (((⟨#[97, 98, 99, 100, 101, 102, 103, 104, 105, 106]⟩ : ByteArray).extract 0 ((ji24) : Int).toNat).size : Int))), (wrap64 (x7_1 + 1)), (by first | rfl | (simp; done) | (rw [ezji24.out]) | (simp [*]; done) | exact congrArg Value.bool (emp_ne _)), (by first | rfl | (simp; done) | (rw [ezji24.out]) | (simp only [← hji24] <;> (first | rfl | simp)) | (simp [*]; done)), (by first | rfl | (simp; done) | (rw [ezji24.out]) | (simp [*]; done) | exact congrArg Value.bool (emp_ne _)), H', ⟨by have := HK1.out; have := HJ2.out; have := HJ11.out; omega⟩, ⟨by (with_reducible repeat (first | apply Kd.R_alloc | apply Kd.R_drewN | apply Kd.R_drew)); exact HO169.out⟩, ⟨by repeat (first | (with_reducible first | exact HB.out | apply below_alloc | apply pw_below_drewN | apply below_drew1) | exact HB.out)⟩⟩
                                    · rw [if_neg c28] at H
                                      exact absurd H (by simp)
                                  · rw [if_neg c27] at H
                                    have ezji24 := Aside0.mk (ext_size (⟨#[97, 98, 99, 100, 101, 102, 103, 104, 105, 106]⟩ : ByteArray) ji24 (show (ji24 : Int) ≤ 10 from of_decide_eq_true (by assumption)))
                                    have c27b0 : decide ((wrap64 (x6_1 + (((⟨#[97, 98, 99, 100, 101, 102, 103, 104, 105, 106]⟩ : ByteArray).extract 0 ((ji24) : Int).toNat).size : Int))) ≤ 120) = false := decide_eq_false c27
                                    have c27b8 : decide ((wrap64 (x6_1 + max ji24 0)) ≤ 120) = false := (by have h_ := c27b0; rw [ezji24.out] at h_; exact h_)
                                    clear c27
                                    have H' := Aside0.mk H
                                    clear H
                                    have p165 : 0 ≤ (x7_1 : Int) := of_decide_eq_true (by first | (with_reducible assumption) | assumption)
                                    have q165 : x7_1 < (l1.length : Int) := of_decide_eq_true (by first | (with_reducible assumption) | assumption)
                                    obtain ⟨ad165, e165, hx165_0⟩ := Kd.at_int HR1.out x7_1 p165 q165
                                    obtain rfl : ad155 = ad165 := (by injection e165)
                                    replace hx165_0 := (HB.out.cell (World.block_lt_of_cell? w _ hx165_0)).trans hx165_0
                                    replace p165 := eq_true p165
                                    replace q165 := eq_true q165
                                    go_wp2_with (first | ((with_reducible refine gate_callee (f := 42) rfl ?_); refine goesL_ (some 70) rfl rfl Try.func42 (by kernel_rfl) rfl #[.int .i64 (wrap64 (Int.tdiv (rd l1 x7_1) 7)), .int .i64 5] rfl (by (try simp only [List.map_toArray, List.map_cons, List.map_nil]); first | done | rfl | (simp only [List.length_drop, List.length_take]; rfl)) ?_; (with_reducible refine (comitialaw4_within.calls (wrap64 (Int.tdiv (rd l1 x7_1) 7)) 5 t166 _ A23.out).mono ?_); rintro e w' ⟨rfl, ⟨nd, rfl⟩⟩; refine ⟨_, rfl, ?_⟩))
                                    go_roundg kj11
                                    case measure => have := HK1.out; have := HJ2.out; have := HJ11.out; omega
                                    case rel => exact ⟨(x0_1), (x5_1), (x6_1), (wrap64 (x7_1 + 1)), (by first | rfl | (simp; done) | (rw [ezji24.out]) | (simp [*]; done) | exact congrArg Value.bool (emp_ne _)), (by first | rfl | (simp; done) | (rw [ezji24.out]) | (simp [*]; done) | exact congrArg Value.bool (emp_ne _)), (by first | rfl | (simp; done) | (rw [ezji24.out]) | (simp [*]; done) | exact congrArg Value.bool (emp_ne _)), H', ⟨by have := HK1.out; have := HJ2.out; have := HJ11.out; omega⟩, ⟨by (with_reducible repeat (first | apply Kd.R_alloc | apply Kd.R_drewN | apply Kd.R_drew)); exact HO_5.out⟩, ⟨by repeat (first | (with_reducible first | exact HB.out | apply below_alloc | apply pw_below_drewN | apply below_drew1) | exact HB.out)⟩⟩
                                · rw [if_neg c26] at H
                                  exact absurd H (by simp)
                              · rw [if_neg c25] at H
                                exact absurd H (by simp)
                            · rw [if_neg c22] at H
                              exact absurd H (by simp)
                          · rw [if_neg c21] at H
                            exact absurd H (by simp)
                        · rw [if_neg c20] at H
                          have c20b0 : (t158 == 3) = false := beq_eq_false_iff_ne.mpr c20
                          have c20b1 : (t158 != 3) = true := bne_iff_ne.mpr c20
                          have H' := Aside0.mk H
                          clear H
                          go_wp2
                          go_roundg kj11
                          case measure => have := HK1.out; have := HJ2.out; have := HJ11.out; omega
                          case rel => exact ⟨(x0_1), (x5_1), (x6_1), (wrap64 (x7_1 + 1)), (by first | rfl | (simp; done) | (rw [ezji24.out]) | (simp [*]; done) | exact congrArg Value.bool (emp_ne _)), (by first | rfl | (simp; done) | (rw [ezji24.out]) | (simp [*]; done) | exact congrArg Value.bool (emp_ne _)), (by first | rfl | (simp; done) | (rw [ezji24.out]) | (simp [*]; done) | exact congrArg Value.bool (emp_ne _)), H', ⟨by have := HK1.out; have := HJ2.out; have := HJ11.out; omega⟩, ⟨by (with_reducible repeat (first | apply Kd.R_alloc | apply Kd.R_drewN | apply Kd.R_drew)); exact HO_5.out⟩, ⟨by repeat (first | (with_reducible first | exact HB.out | apply below_alloc | apply pw_below_drewN | apply below_drew1) | exact HB.out)⟩⟩
              · rw [if_neg c8] at H
                exact absurd H (by simp)
            · rw [if_neg c7] at H
              exact absurd H (by simp)
          · replace c6 := Bool.eq_false_iff.mpr c6
            subst c6
            have H1 : (if x0_1 > 0 then (if x5_1.length < 4398046511104 then ((some (x5_1 ++ [(⟨1, x0_1, (⟨#[]⟩ : ByteArray)⟩ : S34)] : List (S34))).bind fun y170 => (if (l1.length : Int) > 0 then (if 0 < (l1.length : Int) then ((comitialaw4_within.f (wrap64 (Int.tdiv (rd l1 0) 3)) 3).bind fun t174 => (if t174 = 0 then (if x6_1 ≤ 115 then (if y170.length < 4398046511104 then (some (y170 ++ [(⟨2, 0, (⟨#[122]⟩ : ByteArray)⟩ : S34)])) else (none)) else (some y170)) else (some y170))) else (none)) else (some y170))) else (none)) else (if (l1.length : Int) > 0 then (if 0 < (l1.length : Int) then ((comitialaw4_within.f (wrap64 (Int.tdiv (rd l1 0) 3)) 3).bind fun t179 => (if t179 = 0 then (if x6_1 ≤ 115 then (if x5_1.length < 4398046511104 then (some (x5_1 ++ [(⟨2, 0, (⟨#[122]⟩ : ByteArray)⟩ : S34)])) else (none)) else (some x5_1)) else (some x5_1))) else (none)) else (some x5_1))) = some r := by rw [if_neg (show ¬ (false = true) by decide)] at H; exact H
            clear H
            have H := H1
            clear H1
            by_cases c30 : x0_1 > 0
            · rw [if_pos c30] at H
              have c30b0 : decide (0 < x0_1) = true := decide_eq_true c30
              clear c30
              by_cases c31 : x5_1.length < 4398046511104
              · rw [if_pos c31] at H
                have LMc31 := Aside0.mk c31
                clear c31
                obtain ⟨y170, hy170⟩ : ∃ y_ : List (S34), y_ = (x5_1 ++ [(⟨1, x0_1, (⟨#[]⟩ : ByteArray)⟩ : S34)]) := ⟨_, rfl⟩
                replace H : (if (l1.length : Int) > 0 then (if 0 < (l1.length : Int) then ((comitialaw4_within.f (wrap64 (Int.tdiv (rd l1 0) 3)) 3).bind fun t174 => (if t174 = 0 then (if x6_1 ≤ 115 then (if y170.length < 4398046511104 then (some (y170 ++ [(⟨2, 0, (⟨#[122]⟩ : ByteArray)⟩ : S34)])) else (none)) else (some y170)) else (some y170))) else (none)) else (some y170)) = some r := by first | (rw [hy170]; with_reducible exact H) | (have H2_ := (Option.bind_some _ _).symm.trans H; rw [hy170]; with_reducible exact H2_) | (have H2_ := (Option.bind_some _ _).symm.trans H; with_reducible exact H2_) | with_reducible exact H | (rw [hy170]; exact H) | exact H
                have Ny170 := Aside0.mk hy170
                clear hy170
                by_cases c32 : (l1.length : Int) > 0
                · rw [if_pos c32] at H
                  have c32b0 : decide (0 < (l1.length : Int)) = true := decide_eq_true c32
                  have c32b1 : decide (0 < l1.length) = true := decide_eq_true (by omega)
                  have c32b5 : (0 < l1.length) = True := eq_true (of_decide_eq_true c32b1)
                  clear c32
                  by_cases c33 : 0 < (l1.length : Int)
                  · rw [if_pos c33] at H
                    have c33b0 : decide (0 < (l1.length : Int)) = true := decide_eq_true c33
                    have c33b1 : decide (0 < l1.length) = true := decide_eq_true (by omega)
                    have c33b5 : (0 < l1.length) = True := eq_true (of_decide_eq_true c33b1)
                    clear c33
                    replace H := Option.bind_eq_some_iff.mp H
                    obtain ⟨t174, A340, H⟩ := H
                    replace H : (if t174 = 0 then (if x6_1 ≤ 115 then (if y170.length < 4398046511104 then (some (y170 ++ [(⟨2, 0, (⟨#[122]⟩ : ByteArray)⟩ : S34)])) else (none)) else (some y170)) else (some y170)) = some r := H
                    have A34 := Aside0.mk A340
                    clear A340
                    by_cases c35 : t174 = 0
                    · rw [if_pos c35] at H
                      have c35b0 : (t174 == 0) = true := beq_iff_eq.mpr c35
                      have c35b1 : (t174 != 0) = false := bne_eq_false_iff_eq.mpr c35
                      clear c35
                      by_cases c36 : x6_1 ≤ 115
                      · rw [if_pos c36] at H
                        have c36b0 : decide (x6_1 ≤ 115) = true := decide_eq_true c36
                        clear c36
                        by_cases c37 : y170.length < 4398046511104
                        · rw [if_pos c37] at H
                          have LMc37 := Aside0.mk c37
                          clear c37
                          obtain ⟨y175, hy175⟩ : ∃ y_ : List (S34), y_ = (y170 ++ [(⟨2, 0, (⟨#[122]⟩ : ByteArray)⟩ : S34)]) := ⟨_, rfl⟩
                          replace H : (some y175) = some r := by first | (rw [hy175]; with_reducible exact H) | (have H2_ := (Option.bind_some _ _).symm.trans H; rw [hy175]; with_reducible exact H2_) | (have H2_ := (Option.bind_some _ _).symm.trans H; with_reducible exact H2_) | with_reducible exact H | (rw [hy175]; exact H) | exact H
                          have Ny175 := Aside0.mk hy175
                          clear hy175
                          obtain rfl := Option.some.inj H
                          go_wp2_with (first | ((with_reducible refine gate_builtin (b := .append) (xs := #[.tmp 89, .tmp 92]) rfl ?_); at_builtin; refine Kd.R_append k34 (w0 := w) w.heap.size rfl (.tmp 89) (.tmp 92) 28 34 (.agg #[(.int .i64 0), (.int .i64 0), (.string ⟨#[]⟩)]) 32 rfl Try.underlying28 info34 rfl (by decide) (by omega) u5 x5_1 (⟨1, x0_1, (⟨#[]⟩ : ByteArray)⟩ : S34) [.int .i64 1, .int .i64 x0_1, .string (⟨#[]⟩ : ByteArray)] (fun _ => True) (fun _ => False) rfl rfl ?aP (fun _ hk => hk.elim) ?aF ?aO ?aB ?aS ?aL ?_; (case aP => exact k34_mkM _ _ _ (⟨1, x0_1, (⟨#[]⟩ : ByteArray)⟩ : S34)); (case aB => exact (by repeat (first | (with_reducible first | exact HB.out | apply below_alloc | apply pw_below_drewN | apply below_drew1) | exact HB.out))); (case aF => exact (fun _ _ => trivial)); (case aO => exact (by (with_reducible repeat (first | apply Kd.R_alloc | apply Kd.R_drewN | apply Kd.R_drew)); exact HO_5.out)); (case aS => exact (below_size (by repeat (first | (with_reducible first | exact HB.out | apply below_alloc | apply pw_below_drewN | apply below_drew1) | exact HB.out)))); (case aL => have := LMc31.out; omega); intro v171 w38 ho hb hg hat; rw [← Ny170.out] at ho; have n0_ := Aside0.mk (hb); have n1_ := Aside0.mk (ho); clear HB; clear HO_5; have HB := n0_; have HO172 := n1_; clear n0_ n1_; clear ho hb hg hat; have p173 : 0 ≤ (0 : Int) := (by omega); have q173 : 0 < (l1.length : Int) := of_decide_eq_true (by first | (with_reducible assumption) | assumption); obtain ⟨ad173, e173, hx173_0⟩ := Kd.at_int HR1.out 0 p173 q173; cases e173; have qi173 : (0 < l1.length) = True := eq_true (by omega); (try rw [show ((0 : Int)).toNat = 0 from rfl] at hx173_0); (try rw [Addr.add_zero'] at hx173_0); replace hx173_0 := (HB.out.cell (World.block_lt_of_cell? w _ hx173_0)).trans hx173_0; replace p173 := eq_true p173; replace q173 := eq_true q173) | (go_at_call 42; (with_reducible refine (comitialaw4_within.calls (wrap64 (Int.tdiv (rd l1 0) 3)) 3 t174 _ A34.out).mono ?_); rintro e w' ⟨rfl, ⟨nd, rfl⟩⟩) | ((with_reducible refine gate_builtin (b := .append) (xs := #[.tmp 109, .tmp 111]) rfl ?_); at_builtin; refine Kd.R_append k34 (w0 := w) w.heap.size rfl (.tmp 109) (.tmp 111) 28 34 (.agg #[(.int .i64 0), (.int .i64 0), (.string ⟨#[]⟩)]) 32 rfl Try.underlying28 info34 rfl (by decide) (by omega) v171 y170 (⟨2, 0, (⟨#[122]⟩ : ByteArray)⟩ : S34) [.int .i64 2, .int .i64 0, .string (⟨#[122]⟩ : ByteArray)] (fun _ => True) (fun _ => False) rfl rfl ?aP (fun _ hk => hk.elim) ?aF ?aO ?aB ?aS ?aL ?_; (case aP => exact k34_mkM _ _ _ (⟨2, 0, (⟨#[122]⟩ : ByteArray)⟩ : S34)); (case aB => exact (by repeat (first | (with_reducible first | exact HB.out | apply below_alloc | apply pw_below_drewN | apply below_drew1) | exact HB.out))); (case aF => exact (fun _ _ => trivial)); (case aO => exact (by (with_reducible repeat (first | apply Kd.R_alloc | apply Kd.R_drewN | apply Kd.R_drew)); exact HO172.out)); (case aS => exact (below_size (by repeat (first | (with_reducible first | exact HB.out | apply below_alloc | apply pw_below_drewN | apply below_drew1) | exact HB.out)))); (case aL => have := LMc37.out; omega); intro v176 w39 ho hb hg hat; rw [← Ny175.out] at ho; have n0_ := Aside0.mk (hb); have n1_ := Aside0.mk (ho); clear HB; clear HO172; have HB := n0_; have HO177 := n1_; clear n0_ n1_; clear ho hb hg hat))
                          go_ret
                          exact ⟨_, by first | rfl | (simp [errW_none, errW_some] <;> rfl) | (simp [*, errW_none, errW_some] <;> rfl), by (with_reducible repeat (first | apply Kd.R_alloc | apply Kd.R_drewN | apply Kd.R_drew)); exact HO177.out, by repeat (first | (with_reducible first | exact HB.out | apply below_alloc | apply pw_below_drewN | apply below_drew1) | exact HB.out)⟩
                        · rw [if_neg c37] at H
                          exact absurd H (by simp)
                      · rw [if_neg c36] at H
                        have c36b0 : decide (x6_1 ≤ 115) = false := decide_eq_false c36
                        clear c36
                        obtain rfl := Option.some.inj H
                        go_wp2_with (first | ((with_reducible refine gate_builtin (b := .append) (xs := #[.tmp 89, .tmp 92]) rfl ?_); at_builtin; refine Kd.R_append k34 (w0 := w) w.heap.size rfl (.tmp 89) (.tmp 92) 28 34 (.agg #[(.int .i64 0), (.int .i64 0), (.string ⟨#[]⟩)]) 32 rfl Try.underlying28 info34 rfl (by decide) (by omega) u5 x5_1 (⟨1, x0_1, (⟨#[]⟩ : ByteArray)⟩ : S34) [.int .i64 1, .int .i64 x0_1, .string (⟨#[]⟩ : ByteArray)] (fun _ => True) (fun _ => False) rfl rfl ?aP (fun _ hk => hk.elim) ?aF ?aO ?aB ?aS ?aL ?_; (case aP => exact k34_mkM _ _ _ (⟨1, x0_1, (⟨#[]⟩ : ByteArray)⟩ : S34)); (case aB => exact (by repeat (first | (with_reducible first | exact HB.out | apply below_alloc | apply pw_below_drewN | apply below_drew1) | exact HB.out))); (case aF => exact (fun _ _ => trivial)); (case aO => exact (by (with_reducible repeat (first | apply Kd.R_alloc | apply Kd.R_drewN | apply Kd.R_drew)); exact HO_5.out)); (case aS => exact (below_size (by repeat (first | (with_reducible first | exact HB.out | apply below_alloc | apply pw_below_drewN | apply below_drew1) | exact HB.out)))); (case aL => have := LMc31.out; omega); intro v171 w40 ho hb hg hat; rw [← Ny170.out] at ho; have n0_ := Aside0.mk (hb); have n1_ := Aside0.mk (ho); clear HB; clear HO_5; have HB := n0_; have HO172 := n1_; clear n0_ n1_; clear ho hb hg hat; have p173 : 0 ≤ (0 : Int) := (by omega); have q173 : 0 < (l1.length : Int) := of_decide_eq_true (by first | (with_reducible assumption) | assumption); obtain ⟨ad173, e173, hx173_0⟩ := Kd.at_int HR1.out 0 p173 q173; cases e173; have qi173 : (0 < l1.length) = True := eq_true (by omega); (try rw [show ((0 : Int)).toNat = 0 from rfl] at hx173_0); (try rw [Addr.add_zero'] at hx173_0); replace hx173_0 := (HB.out.cell (World.block_lt_of_cell? w _ hx173_0)).trans hx173_0; replace p173 := eq_true p173; replace q173 := eq_true q173) | (go_at_call 42; (with_reducible refine (comitialaw4_within.calls (wrap64 (Int.tdiv (rd l1 0) 3)) 3 t174 _ A34.out).mono ?_); rintro e w' ⟨rfl, ⟨nd, rfl⟩⟩))
                        go_ret
                        exact ⟨_, by first | rfl | (simp [errW_none, errW_some] <;> rfl) | (simp [*, errW_none, errW_some] <;> rfl), by (with_reducible repeat (first | apply Kd.R_alloc | apply Kd.R_drewN | apply Kd.R_drew)); exact HO172.out, by repeat (first | (with_reducible first | exact HB.out | apply below_alloc | apply pw_below_drewN | apply below_drew1) | exact HB.out)⟩
                    · rw [if_neg c35] at H
                      have c35b0 : (t174 == 0) = false := beq_eq_false_iff_ne.mpr c35
                      have c35b1 : (t174 != 0) = true := bne_iff_ne.mpr c35
                      obtain rfl := Option.some.inj H
                      go_wp2_with (first | ((with_reducible refine gate_builtin (b := .append) (xs := #[.tmp 89, .tmp 92]) rfl ?_); at_builtin; refine Kd.R_append k34 (w0 := w) w.heap.size rfl (.tmp 89) (.tmp 92) 28 34 (.agg #[(.int .i64 0), (.int .i64 0), (.string ⟨#[]⟩)]) 32 rfl Try.underlying28 info34 rfl (by decide) (by omega) u5 x5_1 (⟨1, x0_1, (⟨#[]⟩ : ByteArray)⟩ : S34) [.int .i64 1, .int .i64 x0_1, .string (⟨#[]⟩ : ByteArray)] (fun _ => True) (fun _ => False) rfl rfl ?aP (fun _ hk => hk.elim) ?aF ?aO ?aB ?aS ?aL ?_; (case aP => exact k34_mkM _ _ _ (⟨1, x0_1, (⟨#[]⟩ : ByteArray)⟩ : S34)); (case aB => exact (by repeat (first | (with_reducible first | exact HB.out | apply below_alloc | apply pw_below_drewN | apply below_drew1) | exact HB.out))); (case aF => exact (fun _ _ => trivial)); (case aO => exact (by (with_reducible repeat (first | apply Kd.R_alloc | apply Kd.R_drewN | apply Kd.R_drew)); exact HO_5.out)); (case aS => exact (below_size (by repeat (first | (with_reducible first | exact HB.out | apply below_alloc | apply pw_below_drewN | apply below_drew1) | exact HB.out)))); (case aL => have := LMc31.out; omega); intro v171 w41 ho hb hg hat; rw [← Ny170.out] at ho; have n0_ := Aside0.mk (hb); have n1_ := Aside0.mk (ho); clear HB; clear HO_5; have HB := n0_; have HO172 := n1_; clear n0_ n1_; clear ho hb hg hat; have p173 : 0 ≤ (0 : Int) := (by omega); have q173 : 0 < (l1.length : Int) := of_decide_eq_true (by first | (with_reducible assumption) | assumption); obtain ⟨ad173, e173, hx173_0⟩ := Kd.at_int HR1.out 0 p173 q173; cases e173; have qi173 : (0 < l1.length) = True := eq_true (by omega); (try rw [show ((0 : Int)).toNat = 0 from rfl] at hx173_0); (try rw [Addr.add_zero'] at hx173_0); replace hx173_0 := (HB.out.cell (World.block_lt_of_cell? w _ hx173_0)).trans hx173_0; replace p173 := eq_true p173; replace q173 := eq_true q173) | (go_at_call 42; (with_reducible refine (comitialaw4_within.calls (wrap64 (Int.tdiv (rd l1 0) 3)) 3 t174 _ A34.out).mono ?_); rintro e w' ⟨rfl, ⟨nd, rfl⟩⟩))
                      go_ret
                      exact ⟨_, by first | rfl | (simp [errW_none, errW_some] <;> rfl) | (simp [*, errW_none, errW_some] <;> rfl), by (with_reducible repeat (first | apply Kd.R_alloc | apply Kd.R_drewN | apply Kd.R_drew)); exact HO172.out, by repeat (first | (with_reducible first | exact HB.out | apply below_alloc | apply pw_below_drewN | apply below_drew1) | exact HB.out)⟩
                  · rw [if_neg c33] at H
                    exact absurd H (by simp)
                · rw [if_neg c32] at H
                  have c32b0 : decide (0 < (l1.length : Int)) = false := decide_eq_false c32
                  have c32b1 : decide (0 < l1.length) = false := decide_eq_false (by omega)
                  have c32b5 : (0 < l1.length) = False := eq_false (of_decide_eq_false c32b1)
                  clear c32
                  obtain rfl := Option.some.inj H
                  go_wp2_with (first | ((with_reducible refine gate_builtin (b := .append) (xs := #[.tmp 89, .tmp 92]) rfl ?_); at_builtin; refine Kd.R_append k34 (w0 := w) w.heap.size rfl (.tmp 89) (.tmp 92) 28 34 (.agg #[(.int .i64 0), (.int .i64 0), (.string ⟨#[]⟩)]) 32 rfl Try.underlying28 info34 rfl (by decide) (by omega) u5 x5_1 (⟨1, x0_1, (⟨#[]⟩ : ByteArray)⟩ : S34) [.int .i64 1, .int .i64 x0_1, .string (⟨#[]⟩ : ByteArray)] (fun _ => True) (fun _ => False) rfl rfl ?aP (fun _ hk => hk.elim) ?aF ?aO ?aB ?aS ?aL ?_; (case aP => exact k34_mkM _ _ _ (⟨1, x0_1, (⟨#[]⟩ : ByteArray)⟩ : S34)); (case aB => exact (by repeat (first | (with_reducible first | exact HB.out | apply below_alloc | apply pw_below_drewN | apply below_drew1) | exact HB.out))); (case aF => exact (fun _ _ => trivial)); (case aO => exact (by (with_reducible repeat (first | apply Kd.R_alloc | apply Kd.R_drewN | apply Kd.R_drew)); exact HO_5.out)); (case aS => exact (below_size (by repeat (first | (with_reducible first | exact HB.out | apply below_alloc | apply pw_below_drewN | apply below_drew1) | exact HB.out)))); (case aL => have := LMc31.out; omega); intro v171 w42 ho hb hg hat; rw [← Ny170.out] at ho; have n0_ := Aside0.mk (hb); have n1_ := Aside0.mk (ho); clear HB; clear HO_5; have HB := n0_; have HO172 := n1_; clear n0_ n1_; clear ho hb hg hat))
                  go_ret
                  exact ⟨_, by first | rfl | (simp [errW_none, errW_some] <;> rfl) | (simp [*, errW_none, errW_some] <;> rfl), by (with_reducible repeat (first | apply Kd.R_alloc | apply Kd.R_drewN | apply Kd.R_drew)); exact HO172.out, by repeat (first | (with_reducible first | exact HB.out | apply below_alloc | apply pw_below_drewN | apply below_drew1) | exact HB.out)⟩
              · rw [if_neg c31] at H
                exact absurd H (by simp)
            · rw [if_neg c30] at H
              have c30b0 : decide (0 < x0_1) = false := decide_eq_false c30
              clear c30
              by_cases c43 : (l1.length : Int) > 0
              · rw [if_pos c43] at H
                have c43b0 : decide (0 < (l1.length : Int)) = true := decide_eq_true c43
                have c43b1 : decide (0 < l1.length) = true := decide_eq_true (by omega)
                have c43b5 : (0 < l1.length) = True := eq_true (of_decide_eq_true c43b1)
                clear c43
                by_cases c44 : 0 < (l1.length : Int)
                · rw [if_pos c44] at H
                  have c44b0 : decide (0 < (l1.length : Int)) = true := decide_eq_true c44
                  have c44b1 : decide (0 < l1.length) = true := decide_eq_true (by omega)
                  have c44b5 : (0 < l1.length) = True := eq_true (of_decide_eq_true c44b1)
                  clear c44
                  replace H := Option.bind_eq_some_iff.mp H
                  obtain ⟨t179, A450, H⟩ := H
                  replace H : (if t179 = 0 then (if x6_1 ≤ 115 then (if x5_1.length < 4398046511104 then (some (x5_1 ++ [(⟨2, 0, (⟨#[122]⟩ : ByteArray)⟩ : S34)])) else (none)) else (some x5_1)) else (some x5_1)) = some r := H
                  have A45 := Aside0.mk A450
                  clear A450
                  by_cases c46 : t179 = 0
                  · rw [if_pos c46] at H
                    have c46b0 : (t179 == 0) = true := beq_iff_eq.mpr c46
                    have c46b1 : (t179 != 0) = false := bne_eq_false_iff_eq.mpr c46
                    clear c46
                    by_cases c47 : x6_1 ≤ 115
                    · rw [if_pos c47] at H
                      have c47b0 : decide (x6_1 ≤ 115) = true := decide_eq_true c47
                      clear c47
                      by_cases c48 : x5_1.length < 4398046511104
                      · rw [if_pos c48] at H
                        have LMc48 := Aside0.mk c48
                        clear c48
                        obtain ⟨y180, hy180⟩ : ∃ y_ : List (S34), y_ = (x5_1 ++ [(⟨2, 0, (⟨#[122]⟩ : ByteArray)⟩ : S34)]) := ⟨_, rfl⟩
                        replace H : (some y180) = some r := by first | (rw [hy180]; with_reducible exact H) | (have H2_ := (Option.bind_some _ _).symm.trans H; rw [hy180]; with_reducible exact H2_) | (have H2_ := (Option.bind_some _ _).symm.trans H; with_reducible exact H2_) | with_reducible exact H | (rw [hy180]; exact H) | exact H
                        have Ny180 := Aside0.mk hy180
                        clear hy180
                        obtain rfl := Option.some.inj H
                        have p178 : 0 ≤ (0 : Int) := (by omega)
                        have q178 : 0 < (l1.length : Int) := of_decide_eq_true (by first | (with_reducible assumption) | assumption)
                        obtain ⟨ad178, e178, hx178_0⟩ := Kd.at_int HR1.out 0 p178 q178
                        cases e178
                        have qi178 : (0 < l1.length) = True := eq_true (by omega)
                        (try rw [show ((0 : Int)).toNat = 0 from rfl] at hx178_0)
                        (try rw [Addr.add_zero'] at hx178_0)
                        replace hx178_0 := (HB.out.cell (World.block_lt_of_cell? w _ hx178_0)).trans hx178_0
                        replace p178 := eq_true p178
                        replace q178 := eq_true q178
                        go_wp2_with (first | (go_at_call 42; (with_reducible refine (comitialaw4_within.calls (wrap64 (Int.tdiv (rd l1 0) 3)) 3 t179 _ A45.out).mono ?_); rintro e w' ⟨rfl, ⟨nd, rfl⟩⟩) | ((with_reducible refine gate_builtin (b := .append) (xs := #[.tmp 109, .tmp 111]) rfl ?_); at_builtin; refine Kd.R_append k34 (w0 := w) w.heap.size rfl (.tmp 109) (.tmp 111) 28 34 (.agg #[(.int .i64 0), (.int .i64 0), (.string ⟨#[]⟩)]) 32 rfl Try.underlying28 info34 rfl (by decide) (by omega) u5 x5_1 (⟨2, 0, (⟨#[122]⟩ : ByteArray)⟩ : S34) [.int .i64 2, .int .i64 0, .string (⟨#[122]⟩ : ByteArray)] (fun _ => True) (fun _ => False) rfl rfl ?aP (fun _ hk => hk.elim) ?aF ?aO ?aB ?aS ?aL ?_; (case aP => exact k34_mkM _ _ _ (⟨2, 0, (⟨#[122]⟩ : ByteArray)⟩ : S34)); (case aB => exact (by repeat (first | (with_reducible first | exact HB.out | apply below_alloc | apply pw_below_drewN | apply below_drew1) | exact HB.out))); (case aF => exact (fun _ _ => trivial)); (case aO => exact (by (with_reducible repeat (first | apply Kd.R_alloc | apply Kd.R_drewN | apply Kd.R_drew)); exact HO_5.out)); (case aS => exact (below_size (by repeat (first | (with_reducible first | exact HB.out | apply below_alloc | apply pw_below_drewN | apply below_drew1) | exact HB.out)))); (case aL => have := LMc48.out; omega); intro v181 w49 ho hb hg hat; rw [← Ny180.out] at ho; have n0_ := Aside0.mk (hb); have n1_ := Aside0.mk (ho); clear HB; clear HO_5; have HB := n0_; have HO182 := n1_; clear n0_ n1_; clear ho hb hg hat))
                        go_ret
                        exact ⟨_, by first | rfl | (simp [errW_none, errW_some] <;> rfl) | (simp [*, errW_none, errW_some] <;> rfl), by (with_reducible repeat (first | apply Kd.R_alloc | apply Kd.R_drewN | apply Kd.R_drew)); exact HO182.out, by repeat (first | (with_reducible first | exact HB.out | apply below_alloc | apply pw_below_drewN | apply below_drew1) | exact HB.out)⟩
                      · rw [if_neg c48] at H
                        exact absurd H (by simp)
                    · rw [if_neg c47] at H
                      have c47b0 : decide (x6_1 ≤ 115) = false := decide_eq_false c47
                      clear c47
                      obtain rfl := Option.some.inj H
                      have p178 : 0 ≤ (0 : Int) := (by omega)
                      have q178 : 0 < (l1.length : Int) := of_decide_eq_true (by first | (with_reducible assumption) | assumption)
                      obtain ⟨ad178, e178, hx178_0⟩ := Kd.at_int HR1.out 0 p178 q178
                      cases e178
                      have qi178 : (0 < l1.length) = True := eq_true (by omega)
                      (try rw [show ((0 : Int)).toNat = 0 from rfl] at hx178_0)
                      (try rw [Addr.add_zero'] at hx178_0)
                      replace hx178_0 := (HB.out.cell (World.block_lt_of_cell? w _ hx178_0)).trans hx178_0
                      replace p178 := eq_true p178
                      replace q178 := eq_true q178
                      go_wp2_with (first | (go_at_call 42; (with_reducible refine (comitialaw4_within.calls (wrap64 (Int.tdiv (rd l1 0) 3)) 3 t179 _ A45.out).mono ?_); rintro e w' ⟨rfl, ⟨nd, rfl⟩⟩))
                      go_ret
                      exact ⟨_, by first | rfl | (simp [errW_none, errW_some] <;> rfl) | (simp [*, errW_none, errW_some] <;> rfl), by (with_reducible repeat (first | apply Kd.R_alloc | apply Kd.R_drewN | apply Kd.R_drew)); exact HO_5.out, by repeat (first | (with_reducible first | exact HB.out | apply below_alloc | apply pw_below_drewN | apply below_drew1) | exact HB.out)⟩
                  · rw [if_neg c46] at H
                    have c46b0 : (t179 == 0) = false := beq_eq_false_iff_ne.mpr c46
                    have c46b1 : (t179 != 0) = true := bne_iff_ne.mpr c46
                    obtain rfl := Option.some.inj H
                    have p178 : 0 ≤ (0 : Int) := (by omega)
                    have q178 : 0 < (l1.length : Int) := of_decide_eq_true (by first | (with_reducible assumption) | assumption)
                    obtain ⟨ad178, e178, hx178_0⟩ := Kd.at_int HR1.out 0 p178 q178
                    cases e178
                    have qi178 : (0 < l1.length) = True := eq_true (by omega)
                    (try rw [show ((0 : Int)).toNat = 0 from rfl] at hx178_0)
                    (try rw [Addr.add_zero'] at hx178_0)
                    replace hx178_0 := (HB.out.cell (World.block_lt_of_cell? w _ hx178_0)).trans hx178_0
                    replace p178 := eq_true p178
                    replace q178 := eq_true q178
                    go_wp2_with (first | (go_at_call 42; (with_reducible refine (comitialaw4_within.calls (wrap64 (Int.tdiv (rd l1 0) 3)) 3 t179 _ A45.out).mono ?_); rintro e w' ⟨rfl, ⟨nd, rfl⟩⟩))
                    go_ret
                    exact ⟨_, by first | rfl | (simp [errW_none, errW_some] <;> rfl) | (simp [*, errW_none, errW_some] <;> rfl), by (with_reducible repeat (first | apply Kd.R_alloc | apply Kd.R_drewN | apply Kd.R_drew)); exact HO_5.out, by repeat (first | (with_reducible first | exact HB.out | apply below_alloc | apply pw_below_drewN | apply below_drew1) | exact HB.out)⟩
                · rw [if_neg c44] at H
                  exact absurd H (by simp)
              · rw [if_neg c43] at H
                have c43b0 : decide (0 < (l1.length : Int)) = false := decide_eq_false c43
                have c43b1 : decide (0 < l1.length) = false := decide_eq_false (by omega)
                have c43b5 : (0 < l1.length) = False := eq_false (of_decide_eq_false c43b1)
                clear c43
                obtain rfl := Option.some.inj H
                go_wp2
                go_ret
                exact ⟨_, by first | rfl | (simp [errW_none, errW_some] <;> rfl) | (simp [*, errW_none, errW_some] <;> rfl), by (with_reducible repeat (first | apply Kd.R_alloc | apply Kd.R_drewN | apply Kd.R_drew)); exact HO_5.out, by repeat (first | (with_reducible first | exact HB.out | apply below_alloc | apply pw_below_drewN | apply below_drew1) | exact HB.out)⟩

end Go.Proofs.Ytpcgamgjgfdpaaa.Q

/- Contracts of Go functions: each call answers what the Lean function of its name answers. Conditions: stand in each theorem. Written by this seat's own program over the kit's printer. -/
import Derived.Test.YtjmnflgicolbdaaQ0
import Derived.Test.YtjmnflgicolbdaaQxcm
import Derived.Test.YtjmnflgicolbdaaQxcomitialaw4within
namespace Go.Proofs.Ytjmnflgicolbdaa.Q
open Go.RowKit Go.Proofs.YtjmnflgicolbdaaW.PrintWords Go.Proofs.YtjmnflgicolbdaaW.PrintLast Go.Proofs.YtjmnflgicolbdaaW.PrintMore
attribute [local go_sem] max2_int min2_int max_two min_two max_three min_three max_four min_four   -- for this text's walks alone
set_option linter.unusedVariables false
set_option linter.unusedSimpArgs false

/-! ### comitialaw4_Make: function 14 -/
mutual
def comitialaw4_Make.l0 : Nat → Int → List Int → List (S43) → Int → Int → Option ((List (S43)))
  | 0, _, _, _, _, _ => none
  | k + 1, x0, x1, x5, x6, x7 => if x7 < (x1.length : Int) then (if x7 < 12 then (comitialaw4_Make.j1 k x0 x1 x5 x6 x7 (decide (x0 > 0))) else (comitialaw4_Make.j1 k x0 x1 x5 x6 x7 false)) else (comitialaw4_Make.j1 k x0 x1 x5 x6 x7 false)
def comitialaw4_Make.j1 : Nat → Int → List Int → List (S43) → Int → Int → Bool → Option ((List (S43)))
  | 0, _, _, _, _, _, _ => none
  | k + 1, x0, x1, x5, x6, x7, x22 => if x22 = true then (if 0 ≤ x7 then (if x7 < (x1.length : Int) then ((comitialaw4_within.f (wrap64 (Int.tdiv (rd x1 x7) 7)) (mn x0 9)).bind fun t170 => ((comitialaw4_within.f (rd x1 x7) 4).bind fun t172 => (if t172 = 0 then (comitialaw4_Make.j2 k x0 x1 x5 x6 x7 (wrap64 (1 + t170)) t172 (t172 == 0)) else (comitialaw4_Make.j2 k x0 x1 x5 x6 x7 (wrap64 (1 + t170)) t172 (t172 == 1))))) else (none)) else (none)) else (if x0 > 0 then (if x5.length < 4398046511104 then ((some (x5 ++ [(⟨1, x0, (⟨#[]⟩ : ByteArray)⟩ : S43)] : List (S43))).bind fun y184 => (if (x1.length : Int) > 0 then (if 0 < (x1.length : Int) then ((comitialaw4_within.f (wrap64 (Int.tdiv (rd x1 0) 3)) 3).bind fun t188 => (if t188 = 0 then (if x6 ≤ 115 then (if y184.length < 4398046511104 then (some (y184 ++ [(⟨2, 0, (⟨#[122]⟩ : ByteArray)⟩ : S43)])) else (none)) else (some y184)) else (some y184))) else (none)) else (some y184))) else (none)) else (if (x1.length : Int) > 0 then (if 0 < (x1.length : Int) then ((comitialaw4_within.f (wrap64 (Int.tdiv (rd x1 0) 3)) 3).bind fun t193 => (if t193 = 0 then (if x6 ≤ 115 then (if x5.length < 4398046511104 then (some (x5 ++ [(⟨2, 0, (⟨#[122]⟩ : ByteArray)⟩ : S43)])) else (none)) else (some x5)) else (some x5))) else (none)) else (some x5)))
def comitialaw4_Make.j2 : Nat → Int → List Int → List (S43) → Int → Int → Int → Int → Bool → Option ((List (S43)))
  | 0, _, _, _, _, _, _, _, _ => none
  | k + 1, x0, x1, x5, x6, x7, x8, x38, x39 => if x39 = true then (if x5.length < 4398046511104 then (comitialaw4_Make.l0 k (wrap64 (x0 - x8)) x1 (x5 ++ [(⟨1, x8, (⟨#[]⟩ : ByteArray)⟩ : S43)]) x6 (wrap64 (x7 + 1))) else (none)) else (if x38 = 2 then (if x5.length < 4398046511104 then (comitialaw4_Make.l0 k (wrap64 (x0 - x8)) x1 (x5 ++ [(⟨3, x8, (⟨#[]⟩ : ByteArray)⟩ : S43)]) (wrap64 (x6 - x8)) (wrap64 (x7 + 1))) else (none)) else (if x38 = 3 then (if 0 ≤ x7 then (if x7 < (x1.length : Int) then ((comitialaw4_within.f (wrap64 (Int.tdiv (rd x1 x7) 7)) 5).bind fun t180 => (if 0 ≤ (wrap64 (1 + t180)) then (if (wrap64 (1 + t180)) ≤ 10 then (if (wrap64 (x6 + (((⟨#[97, 98, 99, 100, 101, 102, 103, 104, 105, 106]⟩ : ByteArray).extract 0 ((wrap64 (1 + t180)) : Int).toNat).size : Int))) ≤ 120 then (if x5.length < 4398046511104 then (comitialaw4_Make.l0 k x0 x1 (x5 ++ [(⟨2, 0, (⟨#[97, 98, 99, 100, 101, 102, 103, 104, 105, 106]⟩ : ByteArray).extract 0 ((wrap64 (1 + t180)) : Int).toNat⟩ : S43)]) (wrap64 (x6 + (((⟨#[97, 98, 99, 100, 101, 102, 103, 104, 105, 106]⟩ : ByteArray).extract 0 ((wrap64 (1 + t180)) : Int).toNat).size : Int))) (wrap64 (x7 + 1))) else (none)) else (comitialaw4_Make.l0 k x0 x1 x5 x6 (wrap64 (x7 + 1)))) else (none)) else (none))) else (none)) else (none)) else (comitialaw4_Make.l0 k x0 x1 x5 x6 (wrap64 (x7 + 1)))))
end
def comitialaw4_Make.f (k : Nat) (a0 : Int) (l1 : List Int) : Option ((List (S43))) := comitialaw4_Make.l0 k a0 l1 ([] : List (S43)) a0 0
theorem comitialaw4_Make.mono_l : ∀ k, (∀ y0 y1 y2 y3 y4, LeO (comitialaw4_Make.l0 k y0 y1 y2 y3 y4) (comitialaw4_Make.l0 (k + 1) y0 y1 y2 y3 y4)) ∧ (∀ y0 y1 y2 y3 y4 y5, LeO (comitialaw4_Make.j1 k y0 y1 y2 y3 y4 y5) (comitialaw4_Make.j1 (k + 1) y0 y1 y2 y3 y4 y5)) ∧ (∀ y0 y1 y2 y3 y4 y5 y6 y7, LeO (comitialaw4_Make.j2 k y0 y1 y2 y3 y4 y5 y6 y7) (comitialaw4_Make.j2 (k + 1) y0 y1 y2 y3 y4 y5 y6 y7))
  | 0 => ⟨fun _ _ _ _ _ r h => by simp [comitialaw4_Make.l0] at h, fun _ _ _ _ _ _ r h => by simp [comitialaw4_Make.j1] at h, fun _ _ _ _ _ _ _ _ r h => by simp [comitialaw4_Make.j2] at h⟩
  | k + 1 => by
    obtain ⟨ih0, ih1, ih2⟩ := comitialaw4_Make.mono_l k
    refine ⟨?_, ?_, ?_⟩
    · intro y0 y1 y2 y3 y4
      unfold comitialaw4_Make.l0
      repeat' first
      | (with_reducible exact ih0 _ _ _ _ _)
      | (with_reducible exact ih1 _ _ _ _ _ _)
      | (with_reducible exact ih2 _ _ _ _ _ _ _ _)
      | (with_reducible exact LeO.refl _)
      | (with_reducible exact LeO.none _)
      | (with_reducible refine LeO.ite ?_ ?_)
      | (with_reducible refine LeO.bind ?_ (fun _ => ?_))
      | exact ih0 _ _ _ _ _
      | exact ih1 _ _ _ _ _ _
      | exact ih2 _ _ _ _ _ _ _ _
      | exact LeO.none _
      | refine LeO.ite ?_ ?_
      | refine LeO.bind ?_ (fun _ => ?_)
    · intro y0 y1 y2 y3 y4 y5
      unfold comitialaw4_Make.j1
      repeat' first
      | (with_reducible exact ih0 _ _ _ _ _)
      | (with_reducible exact ih1 _ _ _ _ _ _)
      | (with_reducible exact ih2 _ _ _ _ _ _ _ _)
      | (with_reducible exact LeO.refl _)
      | (with_reducible exact LeO.none _)
      | (with_reducible refine LeO.ite ?_ ?_)
      | (with_reducible refine LeO.bind ?_ (fun _ => ?_))
      | exact ih0 _ _ _ _ _
      | exact ih1 _ _ _ _ _ _
      | exact ih2 _ _ _ _ _ _ _ _
      | exact LeO.none _
      | refine LeO.ite ?_ ?_
      | refine LeO.bind ?_ (fun _ => ?_)
    · intro y0 y1 y2 y3 y4 y5 y6 y7
      unfold comitialaw4_Make.j2
      repeat' first
      | (with_reducible exact ih0 _ _ _ _ _)
      | (with_reducible exact ih1 _ _ _ _ _ _)
      | (with_reducible exact ih2 _ _ _ _ _ _ _ _)
      | (with_reducible exact LeO.refl _)
      | (with_reducible exact LeO.none _)
      | (with_reducible refine LeO.ite ?_ ?_)
      | (with_reducible refine LeO.bind ?_ (fun _ => ?_))
      | exact ih0 _ _ _ _ _
      | exact ih1 _ _ _ _ _ _
      | exact ih2 _ _ _ _ _ _ _ _
      | exact LeO.none _
      | refine LeO.ite ?_ ?_
      | refine LeO.bind ?_ (fun _ => ?_)
theorem comitialaw4_Make.mono : ∀ a0 a1 k, LeO (comitialaw4_Make.f k a0 a1) (comitialaw4_Make.f (k + 1) a0 a1) := by
  intro a0 a1 k
  obtain ⟨ih0, ih1, ih2⟩ := comitialaw4_Make.mono_l k
  unfold comitialaw4_Make.f
  repeat' first
      | (with_reducible exact ih0 _ _ _ _ _)
      | (with_reducible exact ih1 _ _ _ _ _ _)
      | (with_reducible exact ih2 _ _ _ _ _ _ _ _)
      | (with_reducible exact LeO.refl _)
      | (with_reducible exact LeO.none _)
      | (with_reducible refine LeO.ite ?_ ?_)
      | (with_reducible refine LeO.bind ?_ (fun _ => ?_))
      | exact ih0 _ _ _ _ _
      | exact ih1 _ _ _ _ _ _
      | exact ih2 _ _ _ _ _ _ _ _
      | exact LeO.none _
      | refine LeO.ite ?_ ?_
      | refine LeO.bind ?_ (fun _ => ?_)
set_option maxHeartbeats 8000000 in
set_option maxRecDepth 100000 in
theorem comitialaw4_Make.calls (k : Nat) (a0 : Int) (A1 : Option Addr) (c1 : Nat) (l1 : List Int) (r : List (S43)) (w : World) (hr1 : Kd.C (Kd.int .i64) w A1 l1.length l1) (hc1 : l1.length ≤ c1) (h : comitialaw4_Make.f k a0 l1 = some r) :
    Calls Try.prog 14 #[.int .i64 a0, .slice A1 l1.length c1] w fun e w' => ∃ v0_ : Value, e = .returned (v0_) ∧ Kd.R k43 43 w' w.heap.size (fun _ => True) v0_ r ∧ Below w.heap.size w w' := by
  have hu43 := Try.underlying43
  have HR1 := Aside0.mk hr1
  have HC1 := Aside0.mk hc1
  clear hr1 hc1
  have HB := Aside0.mk (Below.refl w.heap.size w)
  have H : (comitialaw4_Make.l0 k a0 l1 ([] : List (S43)) a0 0) = some r := h
  clear h
  have H' := Aside0.mk H
  clear H
  go_enter Try.func14, Try.ntmps14
  go_wp2
  go_loopg [0, 5, 6, 7] k (fun kq v0 v5 v6 v7 w' => ∃ (x0_1 : Int) (x5_1 : List (S43)) (x6_1 : Int) (x7_1 : Int), v0 = .int .i64 x0_1 ∧ v6 = .int .i64 x6_1 ∧ v7 = .int .i64 x7_1 ∧ Aside0 (comitialaw4_Make.l0 kq x0_1 l1 x5_1 x6_1 x7_1 = some r) ∧ Aside0 (kq ≤ k) ∧ Aside0 (Kd.R k43 43 w' w.heap.size (fun _ => True) v5 x5_1) ∧ Aside0 (Below w.heap.size w w'))
  case atStart => exact ⟨(a0), (([] : List (S43))), (a0), (0), (by first | rfl | (simp; done) | (simp [*]; done) | exact congrArg Value.bool (emp_ne _)), (by first | rfl | (simp; done) | (simp [*]; done) | exact congrArg Value.bool (emp_ne _)), (by first | rfl | (simp; done) | (simp [*]; done) | exact congrArg Value.bool (emp_ne _)), H', ⟨Nat.le_refl _⟩, ⟨by first | exact Kd.R_nil _ _ _ _ _ | exact Kd.N_nil _ _ _ _ _ | exact Kd.V_nil _ _ _ _ _ | exact Kd.Q_nil _ _ _ _ _ | exact Kd.S_nil _ _ _ _ _⟩, ⟨by repeat (first | (with_reducible first | exact HB.out | apply below_alloc | apply pw_below_drewN | apply below_drew1) | exact HB.out)⟩⟩
  case round =>
    clear H'
    try clear c1
    try clear p2
    obtain ⟨x0_1, x5_1, x6_1, x7_1, rfl, rfl, rfl, HA, HK1, HO_5, HB⟩ := hrel
    cases gk with
    | zero => exact absurd HA.out (by simp [comitialaw4_Make.l0])
    | succ k1 =>
      have H := HA.out
      clear HA
      simp only [comitialaw4_Make.l0] at H
      have HC3 := Aside0.mk H
      clear H
      go_upto_region 4 with (fail)
      go_cut [22] (fun v22 wc => ∃ (kq : Nat) (x22_2 : Bool), v22 = .bool x22_2 ∧ Aside0 (comitialaw4_Make.j1 kq x0_1 l1 x5_1 x6_1 x7_1 x22_2 = some r) ∧ Aside0 (kq ≤ k1) ∧ Aside0 (Kd.R k43 43 wc w.heap.size (fun _ => True) u5 x5_1) ∧ Aside0 (Below w.heap.size w wc))
      case first =>
        have H := HC3.out
        clear HC3
        by_cases c4 : x7_1 < (l1.length : Int)
        · rw [if_pos c4] at H
          have c4b0 : decide (x7_1 < (l1.length : Int)) = true := decide_eq_true c4
          clear c4
          (first | rw [c4b0] | rw [c4b1] | (simp only [i64_w, i32_w]; rw [c4b0]) | skip)
          by_cases c5 : x7_1 < 12
          · rw [if_pos c5] at H
            have c5b0 : decide (x7_1 < 12) = true := decide_eq_true c5
            clear c5
            have H' := Aside0.mk H
            clear H
            go_wp2
            go_meet
            case rel => exact ⟨_, (decide (x0_1 > 0)), (by first | rfl | (simp; done) | (simp [*]; done) | exact congrArg Value.bool (emp_ne _)), H', ⟨by have := HK1.out; first | omega | exact Nat.le_refl _⟩, ⟨by (with_reducible repeat (first | apply Kd.R_alloc | apply Kd.R_drewN | apply Kd.R_drew)); exact HO_5.out⟩, ⟨by repeat (first | (with_reducible first | exact HB.out | apply below_alloc | apply pw_below_drewN | apply below_drew1) | exact HB.out)⟩⟩
          · rw [if_neg c5] at H
            have c5b0 : decide (x7_1 < 12) = false := decide_eq_false c5
            clear c5
            have H' := Aside0.mk H
            clear H
            go_wp2
            go_meet
            case rel => exact ⟨_, (false), (by first | rfl | (simp; done) | (simp [*]; done) | exact congrArg Value.bool (emp_ne _)), H', ⟨by have := HK1.out; first | omega | exact Nat.le_refl _⟩, ⟨by (with_reducible repeat (first | apply Kd.R_alloc | apply Kd.R_drewN | apply Kd.R_drew)); exact HO_5.out⟩, ⟨by repeat (first | (with_reducible first | exact HB.out | apply below_alloc | apply pw_below_drewN | apply below_drew1) | exact HB.out)⟩⟩
        · rw [if_neg c4] at H
          have c4b0 : decide (x7_1 < (l1.length : Int)) = false := decide_eq_false c4
          clear c4
          (first | rw [c4b0] | rw [c4b1] | (simp only [i64_w, i32_w]; rw [c4b0]) | skip)
          have H' := Aside0.mk H
          clear H
          go_wp2
          go_meet
          case rel => exact ⟨_, (false), (by first | rfl | (simp; done) | (simp [*]; done) | exact congrArg Value.bool (emp_ne _)), H', ⟨by have := HK1.out; first | omega | exact Nat.le_refl _⟩, ⟨by (with_reducible repeat (first | apply Kd.R_alloc | apply Kd.R_drewN | apply Kd.R_drew)); exact HO_5.out⟩, ⟨by repeat (first | (with_reducible first | exact HB.out | apply below_alloc | apply pw_below_drewN | apply below_drew1) | exact HB.out)⟩⟩
      case rest =>
        clear HC3
        try clear c1
        try clear p2
        try clear c4
        try clear c4b0
        try clear c5
        try clear c5b0
        try clear p2
        obtain ⟨kq, x22_2, rfl, HA, HJ2, HO_5, HB⟩ := hcut
        cases kq with
        | zero => exact absurd HA.out (by simp [comitialaw4_Make.j1])
        | succ kj2 =>
          have H := HA.out
          clear HA
          simp only [comitialaw4_Make.j1] at H
          by_cases c6 : x22_2 = true
          · subst c6
            have H1 : (if 0 ≤ x7_1 then (if x7_1 < (l1.length : Int) then ((comitialaw4_within.f (wrap64 (Int.tdiv (rd l1 x7_1) 7)) (mn x0_1 9)).bind fun t170 => ((comitialaw4_within.f (rd l1 x7_1) 4).bind fun t172 => (if t172 = 0 then (comitialaw4_Make.j2 kj2 x0_1 l1 x5_1 x6_1 x7_1 (wrap64 (1 + t170)) t172 (t172 == 0)) else (comitialaw4_Make.j2 kj2 x0_1 l1 x5_1 x6_1 x7_1 (wrap64 (1 + t170)) t172 (t172 == 1))))) else (none)) else (none)) = some r := by rw [if_pos rfl] at H; exact H
            clear H
            have H := H1
            clear H1
            by_cases c7 : 0 ≤ x7_1
            · rw [if_pos c7] at H
              have c7b0 : decide (0 ≤ x7_1) = true := decide_eq_true c7
              clear c7
              by_cases c8 : x7_1 < (l1.length : Int)
              · rw [if_pos c8] at H
                have c8b0 : decide (x7_1 < (l1.length : Int)) = true := decide_eq_true c8
                clear c8
                obtain ⟨ji9, hji9⟩ : ∃ j_ : Int, (mn x0_1 9) = j_ := ⟨_, rfl⟩
                replace H : ((comitialaw4_within.f (wrap64 (Int.tdiv (rd l1 x7_1) 7)) (ji9)).bind fun t170 => ((comitialaw4_within.f (rd l1 x7_1) 4).bind fun t172 => (if t172 = 0 then (comitialaw4_Make.j2 kj2 x0_1 l1 x5_1 x6_1 x7_1 (wrap64 (1 + t170)) t172 (t172 == 0)) else (comitialaw4_Make.j2 kj2 x0_1 l1 x5_1 x6_1 x7_1 (wrap64 (1 + t170)) t172 (t172 == 1))))) = some r := by first | (rw [hji9] at H; exact H) | (simp only [hji9] at H ⊢; exact H)
                have hji9_ : (if 9 < x0_1 then 9 else x0_1) = ji9 := hji9
                replace H := Option.bind_eq_some_iff.mp H
                obtain ⟨t170, A100, H⟩ := H
                replace H : ((comitialaw4_within.f (rd l1 x7_1) 4).bind fun t172 => (if t172 = 0 then (comitialaw4_Make.j2 kj2 x0_1 l1 x5_1 x6_1 x7_1 (wrap64 (1 + t170)) t172 (t172 == 0)) else (comitialaw4_Make.j2 kj2 x0_1 l1 x5_1 x6_1 x7_1 (wrap64 (1 + t170)) t172 (t172 == 1)))) = some r := H
                have A10 := Aside0.mk A100
                clear A100
                replace H := Option.bind_eq_some_iff.mp H
                obtain ⟨t172, A110, H⟩ := H
                replace H : (if t172 = 0 then (comitialaw4_Make.j2 kj2 x0_1 l1 x5_1 x6_1 x7_1 (wrap64 (1 + t170)) t172 (t172 == 0)) else (comitialaw4_Make.j2 kj2 x0_1 l1 x5_1 x6_1 x7_1 (wrap64 (1 + t170)) t172 (t172 == 1))) = some r := H
                have A11 := Aside0.mk A110
                clear A110
                have HC12 := Aside0.mk H
                clear H
                have p169 : 0 ≤ (x7_1 : Int) := of_decide_eq_true (by first | (with_reducible assumption) | assumption)
                have q169 : x7_1 < (l1.length : Int) := of_decide_eq_true (by first | (with_reducible assumption) | assumption)
                obtain ⟨ad169, e169, hx169_0⟩ := Kd.at_int HR1.out x7_1 p169 q169
                cases e169
                replace hx169_0 := (HB.out.cell (World.block_lt_of_cell? w _ hx169_0)).trans hx169_0
                replace p169 := eq_true p169
                replace q169 := eq_true q169
                go_upto_if 39 with (first | ((with_reducible refine gate_callee (f := 29) rfl ?_); refine goesL_ (some 32) rfl rfl Try.func29 (by kernel_rfl) rfl #[.int .i64 (wrap64 (Int.tdiv (rd l1 x7_1) 7)), .int .i64 ji9] rfl (by (try simp only [List.map_toArray, List.map_cons, List.map_nil]); first | done | (simp only [hji9]; rfl) | rfl | (simp only [List.length_drop, List.length_take]; rfl)) ?_; (with_reducible refine (comitialaw4_within.calls (wrap64 (Int.tdiv (rd l1 x7_1) 7)) ji9 t170 _ A10.out).mono ?_); rintro e w' ⟨rfl, ⟨nd, rfl⟩⟩; refine ⟨_, rfl, ?_⟩; have p171 : 0 ≤ (x7_1 : Int) := of_decide_eq_true (by first | (with_reducible assumption) | assumption); have q171 : x7_1 < (l1.length : Int) := of_decide_eq_true (by first | (with_reducible assumption) | assumption); obtain ⟨ad171, e171, hx171_0⟩ := Kd.at_int HR1.out x7_1 p171 q171; obtain rfl : ad169 = ad171 := (by injection e171); replace hx171_0 := (HB.out.cell (World.block_lt_of_cell? w _ hx171_0)).trans hx171_0; replace p171 := eq_true p171; replace q171 := eq_true q171) | ((with_reducible refine gate_callee (f := 29) rfl ?_); refine goesL_ (some 38) rfl rfl Try.func29 (by kernel_rfl) rfl #[.int .i64 (rd l1 x7_1), .int .i64 4] rfl (by (try simp only [List.map_toArray, List.map_cons, List.map_nil]); first | done | rfl | (simp only [List.length_drop, List.length_take]; rfl)) ?_; (with_reducible refine (comitialaw4_within.calls (rd l1 x7_1) 4 t172 _ A11.out).mono ?_); rintro e w' ⟨rfl, ⟨nd, rfl⟩⟩; refine ⟨_, rfl, ?_⟩))
                (try simp only [Act.put, List.setIfInBounds_toArray, List.set_cons_zero, List.set_cons_succ])
                go_cut [39] (fun v39 wc => ∃ (kq : Nat) (x39_11 : Bool), v39 = .bool x39_11 ∧ Aside0 (comitialaw4_Make.j2 kq x0_1 l1 x5_1 x6_1 x7_1 (wrap64 (1 + t170)) t172 x39_11 = some r) ∧ Aside0 (kq ≤ kj2) ∧ Aside0 (Kd.R k43 43 wc w.heap.size (fun _ => True) u5 x5_1) ∧ Aside0 (Below w.heap.size w wc))
                case first =>
                  have H := HC12.out
                  clear HC12
                  by_cases c13 : t172 = 0
                  · rw [if_pos c13] at H
                    have c13b0 : (t172 == 0) = true := beq_iff_eq.mpr c13
                    have c13b1 : (t172 != 0) = false := bne_eq_false_iff_eq.mpr c13
                    clear c13
                    (first | rw [c13b0] | rw [c13b1] | (simp only [i64_w, i32_w]; rw [c13b0]) | skip)
                    have H' := Aside0.mk H
                    clear H
                    go_wp2
                    go_meet
                    case rel => exact ⟨_, ((t172 == 0)), (by first | rfl | (simp; done) | (simp [*]; done) | exact congrArg Value.bool (emp_ne _)), H', ⟨by have := HK1.out; have := HJ2.out; first | omega | exact Nat.le_refl _⟩, ⟨by (with_reducible repeat (first | apply Kd.R_alloc | apply Kd.R_drewN | apply Kd.R_drew)); exact HO_5.out⟩, ⟨by repeat (first | (with_reducible first | exact HB.out | apply below_alloc | apply pw_below_drewN | apply below_drew1) | exact HB.out)⟩⟩
                  · rw [if_neg c13] at H
                    have c13b0 : (t172 == 0) = false := beq_eq_false_iff_ne.mpr c13
                    have c13b1 : (t172 != 0) = true := bne_iff_ne.mpr c13
                    (first | rw [c13b0] | rw [c13b1] | (simp only [i64_w, i32_w]; rw [c13b0]) | skip)
                    have H' := Aside0.mk H
                    clear H
                    go_wp2
                    go_meet
                    case rel => exact ⟨_, ((t172 == 1)), (by first | rfl | (simp; done) | (simp [*]; done) | exact congrArg Value.bool (emp_ne _)), H', ⟨by have := HK1.out; have := HJ2.out; first | omega | exact Nat.le_refl _⟩, ⟨by (with_reducible repeat (first | apply Kd.R_alloc | apply Kd.R_drewN | apply Kd.R_drew)); exact HO_5.out⟩, ⟨by repeat (first | (with_reducible first | exact HB.out | apply below_alloc | apply pw_below_drewN | apply below_drew1) | exact HB.out)⟩⟩
                case rest =>
                  clear HC12
                  try clear c1
                  try clear p1
                  try clear q1
                  try clear hx1
                  try clear c2
                  try clear p2
                  try clear c4
                  try clear c4b0
                  try clear c5
                  try clear c5b0
                  try clear c6
                  try clear p6
                  try clear c7
                  try clear c7b0
                  try clear c8
                  try clear c8b0
                  try clear c13
                  try clear c13b0
                  try clear c13b1
                  try clear hx169_0
                  try clear hx171_0
                  try clear p169
                  try clear p171
                  try clear p2
                  try clear q169
                  try clear q171
                  obtain ⟨kq, x39_11, rfl, HA, HJ11, HO_5, HB⟩ := hcut
                  cases kq with
                  | zero => exact absurd HA.out (by simp [comitialaw4_Make.j2])
                  | succ kj11 =>
                    have H := HA.out
                    clear HA
                    simp only [comitialaw4_Make.j2] at H
                    by_cases c14 : x39_11 = true
                    · subst c14
                      have H1 : (if x5_1.length < 4398046511104 then (comitialaw4_Make.l0 kj11 (wrap64 (x0_1 - (wrap64 (1 + t170)))) l1 (x5_1 ++ [(⟨1, (wrap64 (1 + t170)), (⟨#[]⟩ : ByteArray)⟩ : S43)]) x6_1 (wrap64 (x7_1 + 1))) else (none)) = some r := by rw [if_pos rfl] at H; exact H
                      clear H
                      have H := H1
                      clear H1
                      by_cases c15 : x5_1.length < 4398046511104
                      · rw [if_pos c15] at H
                        have LMc15 := Aside0.mk c15
                        clear c15
                        obtain ⟨y173, hy173⟩ : ∃ y_ : List (S43), y_ = (x5_1 ++ [(⟨1, (wrap64 (1 + t170)), (⟨#[]⟩ : ByteArray)⟩ : S43)]) := ⟨_, rfl⟩
                        replace H : (comitialaw4_Make.l0 kj11 (wrap64 (x0_1 - (wrap64 (1 + t170)))) l1 y173 x6_1 (wrap64 (x7_1 + 1))) = some r := by first | (rw [hy173]; with_reducible exact H) | (have H2_ := (Option.bind_some _ _).symm.trans H; rw [hy173]; with_reducible exact H2_) | (have H2_ := (Option.bind_some _ _).symm.trans H; with_reducible exact H2_) | with_reducible exact H | (rw [hy173]; exact H) | exact H
                        have Ny173 := Aside0.mk hy173
                        clear hy173
                        have H' := Aside0.mk H
                        clear H
                        go_wp2_with (first | ((with_reducible refine gate_builtin (b := .append) (xs := #[.tmp 42, .tmp 45]) rfl ?_); at_builtin; refine Kd.R_append k43 (w0 := w) w.heap.size rfl (.tmp 42) (.tmp 45) 27 43 (.agg #[(.int .i64 0), (.int .i64 0), (.string ⟨#[]⟩)]) 32 rfl Try.underlying27 info43 rfl (by decide) (by omega) u5 x5_1 (⟨1, (wrap64 (1 + t170)), (⟨#[]⟩ : ByteArray)⟩ : S43) [.int .i64 1, .int .i64 (wrap64 (1 + t170)), .string (⟨#[]⟩ : ByteArray)] (fun _ => True) (fun _ => False) rfl rfl ?aP (fun _ hk => hk.elim) ?aF ?aO ?aB ?aS ?aL ?_; (case aP => exact k43_mkM _ _ _ (⟨1, (wrap64 (1 + t170)), (⟨#[]⟩ : ByteArray)⟩ : S43)); (case aB => exact (by repeat (first | (with_reducible first | exact HB.out | apply below_alloc | apply pw_below_drewN | apply below_drew1) | exact HB.out))); (case aF => exact (fun _ _ => trivial)); (case aO => exact (by (with_reducible repeat (first | apply Kd.R_alloc | apply Kd.R_drewN | apply Kd.R_drew)); exact HO_5.out)); (case aS => exact (below_size (by repeat (first | (with_reducible first | exact HB.out | apply below_alloc | apply pw_below_drewN | apply below_drew1) | exact HB.out)))); (case aL => have := LMc15.out; omega); intro v174 w16 ho hb hg hat; rw [← Ny173.out] at ho; have n0_ := Aside0.mk (hb); have n1_ := Aside0.mk (ho); clear HB; clear HO_5; have HB := n0_; have HO175 := n1_; clear n0_ n1_; clear ho hb hg hat))
                        go_roundg kj11
                        case measure => have := HK1.out; have := HJ2.out; have := HJ11.out; omega
                        case rel => exact ⟨(wrap64 (x0_1 - (wrap64 (1 + t170)))), (y173), (x6_1), (wrap64 (x7_1 + 1)), (by first | rfl | (simp; done) | (simp [*]; done) | exact congrArg Value.bool (emp_ne _)), (by first | rfl | (simp; done) | (simp [*]; done) | exact congrArg Value.bool (emp_ne _)), (by first | rfl | (simp; done) | (simp [*]; done) | exact congrArg Value.bool (emp_ne _)), H', ⟨by have := HK1.out; have := HJ2.out; have := HJ11.out; omega⟩, ⟨by (with_reducible repeat (first | apply Kd.R_alloc | apply Kd.R_drewN | apply Kd.R_drew)); exact HO175.out⟩, ⟨by repeat (first | (with_reducible first | exact HB.out | apply below_alloc | apply pw_below_drewN | apply below_drew1) | exact HB.out)⟩⟩
                      · rw [if_neg c15] at H
                        exact absurd H (by simp)
                    · replace c14 := Bool.eq_false_iff.mpr c14
                      subst c14
                      have H1 : (if t172 = 2 then (if x5_1.length < 4398046511104 then (comitialaw4_Make.l0 kj11 (wrap64 (x0_1 - (wrap64 (1 + t170)))) l1 (x5_1 ++ [(⟨3, (wrap64 (1 + t170)), (⟨#[]⟩ : ByteArray)⟩ : S43)]) (wrap64 (x6_1 - (wrap64 (1 + t170)))) (wrap64 (x7_1 + 1))) else (none)) else (if t172 = 3 then (if 0 ≤ x7_1 then (if x7_1 < (l1.length : Int) then ((comitialaw4_within.f (wrap64 (Int.tdiv (rd l1 x7_1) 7)) 5).bind fun t180 => (if 0 ≤ (wrap64 (1 + t180)) then (if (wrap64 (1 + t180)) ≤ 10 then (if (wrap64 (x6_1 + (((⟨#[97, 98, 99, 100, 101, 102, 103, 104, 105, 106]⟩ : ByteArray).extract 0 ((wrap64 (1 + t180)) : Int).toNat).size : Int))) ≤ 120 then (if x5_1.length < 4398046511104 then (comitialaw4_Make.l0 kj11 x0_1 l1 (x5_1 ++ [(⟨2, 0, (⟨#[97, 98, 99, 100, 101, 102, 103, 104, 105, 106]⟩ : ByteArray).extract 0 ((wrap64 (1 + t180)) : Int).toNat⟩ : S43)]) (wrap64 (x6_1 + (((⟨#[97, 98, 99, 100, 101, 102, 103, 104, 105, 106]⟩ : ByteArray).extract 0 ((wrap64 (1 + t180)) : Int).toNat).size : Int))) (wrap64 (x7_1 + 1))) else (none)) else (comitialaw4_Make.l0 kj11 x0_1 l1 x5_1 x6_1 (wrap64 (x7_1 + 1)))) else (none)) else (none))) else (none)) else (none)) else (comitialaw4_Make.l0 kj11 x0_1 l1 x5_1 x6_1 (wrap64 (x7_1 + 1))))) = some r := by rw [if_neg (show ¬ (false = true) by decide)] at H; exact H
                      clear H
                      have H := H1
                      clear H1
                      by_cases c17 : t172 = 2
                      · rw [if_pos c17] at H
                        have c17b0 : (t172 == 2) = true := beq_iff_eq.mpr c17
                        have c17b1 : (t172 != 2) = false := bne_eq_false_iff_eq.mpr c17
                        clear c17
                        by_cases c18 : x5_1.length < 4398046511104
                        · rw [if_pos c18] at H
                          have LMc18 := Aside0.mk c18
                          clear c18
                          obtain ⟨y176, hy176⟩ : ∃ y_ : List (S43), y_ = (x5_1 ++ [(⟨3, (wrap64 (1 + t170)), (⟨#[]⟩ : ByteArray)⟩ : S43)]) := ⟨_, rfl⟩
                          replace H : (comitialaw4_Make.l0 kj11 (wrap64 (x0_1 - (wrap64 (1 + t170)))) l1 y176 (wrap64 (x6_1 - (wrap64 (1 + t170)))) (wrap64 (x7_1 + 1))) = some r := by first | (rw [hy176]; with_reducible exact H) | (have H2_ := (Option.bind_some _ _).symm.trans H; rw [hy176]; with_reducible exact H2_) | (have H2_ := (Option.bind_some _ _).symm.trans H; with_reducible exact H2_) | with_reducible exact H | (rw [hy176]; exact H) | exact H
                          have Ny176 := Aside0.mk hy176
                          clear hy176
                          have H' := Aside0.mk H
                          clear H
                          go_wp2_with (first | ((with_reducible refine gate_builtin (b := .append) (xs := #[.tmp 52, .tmp 55]) rfl ?_); at_builtin; refine Kd.R_append k43 (w0 := w) w.heap.size rfl (.tmp 52) (.tmp 55) 27 43 (.agg #[(.int .i64 0), (.int .i64 0), (.string ⟨#[]⟩)]) 32 rfl Try.underlying27 info43 rfl (by decide) (by omega) u5 x5_1 (⟨3, (wrap64 (1 + t170)), (⟨#[]⟩ : ByteArray)⟩ : S43) [.int .i64 3, .int .i64 (wrap64 (1 + t170)), .string (⟨#[]⟩ : ByteArray)] (fun _ => True) (fun _ => False) rfl rfl ?aP (fun _ hk => hk.elim) ?aF ?aO ?aB ?aS ?aL ?_; (case aP => exact k43_mkM _ _ _ (⟨3, (wrap64 (1 + t170)), (⟨#[]⟩ : ByteArray)⟩ : S43)); (case aB => exact (by repeat (first | (with_reducible first | exact HB.out | apply below_alloc | apply pw_below_drewN | apply below_drew1) | exact HB.out))); (case aF => exact (fun _ _ => trivial)); (case aO => exact (by (with_reducible repeat (first | apply Kd.R_alloc | apply Kd.R_drewN | apply Kd.R_drew)); exact HO_5.out)); (case aS => exact (below_size (by repeat (first | (with_reducible first | exact HB.out | apply below_alloc | apply pw_below_drewN | apply below_drew1) | exact HB.out)))); (case aL => have := LMc18.out; omega); intro v177 w19 ho hb hg hat; rw [← Ny176.out] at ho; have n0_ := Aside0.mk (hb); have n1_ := Aside0.mk (ho); clear HB; clear HO_5; have HB := n0_; have HO178 := n1_; clear n0_ n1_; clear ho hb hg hat))
                          go_roundg kj11
                          case measure => have := HK1.out; have := HJ2.out; have := HJ11.out; omega
                          case rel => exact ⟨(wrap64 (x0_1 - (wrap64 (1 + t170)))), (y176), (wrap64 (x6_1 - (wrap64 (1 + t170)))), (wrap64 (x7_1 + 1)), (by first | rfl | (simp; done) | (simp [*]; done) | exact congrArg Value.bool (emp_ne _)), (by first | rfl | (simp; done) | (simp [*]; done) | exact congrArg Value.bool (emp_ne _)), (by first | rfl | (simp; done) | (simp [*]; done) | exact congrArg Value.bool (emp_ne _)), H', ⟨by have := HK1.out; have := HJ2.out; have := HJ11.out; omega⟩, ⟨by (with_reducible repeat (first | apply Kd.R_alloc | apply Kd.R_drewN | apply Kd.R_drew)); exact HO178.out⟩, ⟨by repeat (first | (with_reducible first | exact HB.out | apply below_alloc | apply pw_below_drewN | apply below_drew1) | exact HB.out)⟩⟩
                        · rw [if_neg c18] at H
                          exact absurd H (by simp)
                      · rw [if_neg c17] at H
                        have c17b0 : (t172 == 2) = false := beq_eq_false_iff_ne.mpr c17
                        have c17b1 : (t172 != 2) = true := bne_iff_ne.mpr c17
                        by_cases c20 : t172 = 3
                        · rw [if_pos c20] at H
                          have c20b0 : (t172 == 3) = true := beq_iff_eq.mpr c20
                          have c20b1 : (t172 != 3) = false := bne_eq_false_iff_eq.mpr c20
                          clear c20
                          by_cases c21 : 0 ≤ x7_1
                          · rw [if_pos c21] at H
                            have c21b0 : decide (0 ≤ x7_1) = true := decide_eq_true c21
                            clear c21
                            by_cases c22 : x7_1 < (l1.length : Int)
                            · rw [if_pos c22] at H
                              have c22b0 : decide (x7_1 < (l1.length : Int)) = true := decide_eq_true c22
                              clear c22
                              replace H := Option.bind_eq_some_iff.mp H
                              obtain ⟨t180, A230, H⟩ := H
                              replace H : (if 0 ≤ (wrap64 (1 + t180)) then (if (wrap64 (1 + t180)) ≤ 10 then (if (wrap64 (x6_1 + (((⟨#[97, 98, 99, 100, 101, 102, 103, 104, 105, 106]⟩ : ByteArray).extract 0 ((wrap64 (1 + t180)) : Int).toNat).size : Int))) ≤ 120 then (if x5_1.length < 4398046511104 then (comitialaw4_Make.l0 kj11 x0_1 l1 (x5_1 ++ [(⟨2, 0, (⟨#[97, 98, 99, 100, 101, 102, 103, 104, 105, 106]⟩ : ByteArray).extract 0 ((wrap64 (1 + t180)) : Int).toNat⟩ : S43)]) (wrap64 (x6_1 + (((⟨#[97, 98, 99, 100, 101, 102, 103, 104, 105, 106]⟩ : ByteArray).extract 0 ((wrap64 (1 + t180)) : Int).toNat).size : Int))) (wrap64 (x7_1 + 1))) else (none)) else (comitialaw4_Make.l0 kj11 x0_1 l1 x5_1 x6_1 (wrap64 (x7_1 + 1)))) else (none)) else (none)) = some r := H
                              have A23 := Aside0.mk A230
                              clear A230
                              obtain ⟨ji24, hji24⟩ : ∃ j_ : Int, (wrap64 (1 + t180)) = j_ := ⟨_, rfl⟩
                              replace H : (if 0 ≤ (ji24) then (if (ji24) ≤ 10 then (if (wrap64 (x6_1 + (((⟨#[97, 98, 99, 100, 101, 102, 103, 104, 105, 106]⟩ : ByteArray).extract 0 ((ji24) : Int).toNat).size : Int))) ≤ 120 then (if x5_1.length < 4398046511104 then (comitialaw4_Make.l0 kj11 x0_1 l1 (x5_1 ++ [(⟨2, 0, (⟨#[97, 98, 99, 100, 101, 102, 103, 104, 105, 106]⟩ : ByteArray).extract 0 ((ji24) : Int).toNat⟩ : S43)]) (wrap64 (x6_1 + (((⟨#[97, 98, 99, 100, 101, 102, 103, 104, 105, 106]⟩ : ByteArray).extract 0 ((ji24) : Int).toNat).size : Int))) (wrap64 (x7_1 + 1))) else (none)) else (comitialaw4_Make.l0 kj11 x0_1 l1 x5_1 x6_1 (wrap64 (x7_1 + 1)))) else (none)) else (none)) = some r := by first | (rw [hji24] at H; exact H) | (simp only [hji24] at H ⊢; exact H)
                              (try rw [hji24] at A23)
                              have hji24w : (IntKind.i64.wrap (1 + t180)) = ji24 := (i64_w _).trans hji24
                              by_cases c25 : 0 ≤ (ji24)
                              · rw [if_pos c25] at H
                                have c25b0 := eq_true c25
                                have c25b1 : decide (0 ≤ (ji24)) = true := decide_eq_true c25
                                clear c25
                                by_cases c26 : (ji24) ≤ 10
                                · rw [if_pos c26] at H
                                  have c26b0 := eq_true c26
                                  have c26b1 : decide ((ji24) ≤ 10) = true := decide_eq_true c26
                                  clear c26
                                  by_cases c27 : (wrap64 (x6_1 + (((⟨#[97, 98, 99, 100, 101, 102, 103, 104, 105, 106]⟩ : ByteArray).extract 0 ((ji24) : Int).toNat).size : Int))) ≤ 120
                                  · rw [if_pos c27] at H
                                    have ezji24 := Aside0.mk (ext_size (⟨#[97, 98, 99, 100, 101, 102, 103, 104, 105, 106]⟩ : ByteArray) ji24 (show (ji24 : Int) ≤ 10 from of_decide_eq_true (by assumption)))
                                    have c27b0 : decide ((wrap64 (x6_1 + (((⟨#[97, 98, 99, 100, 101, 102, 103, 104, 105, 106]⟩ : ByteArray).extract 0 ((ji24) : Int).toNat).size : Int))) ≤ 120) = true := decide_eq_true c27
                                    have c27b8 : decide ((wrap64 (x6_1 + max ji24 0)) ≤ 120) = true := (by have h_ := c27b0; rw [ezji24.out] at h_; exact h_)
                                    clear c27
                                    by_cases c28 : x5_1.length < 4398046511104
                                    · rw [if_pos c28] at H
                                      have LMc28 := Aside0.mk c28
                                      clear c28
                                      obtain ⟨y181, hy181⟩ : ∃ y_ : List (S43), y_ = (x5_1 ++ [(⟨2, 0, (⟨#[97, 98, 99, 100, 101, 102, 103, 104, 105, 106]⟩ : ByteArray).extract 0 ((ji24) : Int).toNat⟩ : S43)]) := ⟨_, rfl⟩
                                      replace H : (comitialaw4_Make.l0 kj11 x0_1 l1 y181 (wrap64 (x6_1 + (((⟨#[97, 98, 99, 100, 101, 102, 103, 104, 105, 106]⟩ : ByteArray).extract 0 ((ji24) : Int).toNat).size : Int))) (wrap64 (x7_1 + 1))) = some r := by first | (rw [hy181]; with_reducible exact H) | (have H2_ := (Option.bind_some _ _).symm.trans H; rw [hy181]; with_reducible exact H2_) | (have H2_ := (Option.bind_some _ _).symm.trans H; with_reducible exact H2_) | with_reducible exact H | (rw [hy181]; exact H) | exact H
                                      have Ny181 := Aside0.mk hy181
                                      clear hy181
                                      have H' := Aside0.mk H
                                      clear H
                                      have p179 : 0 ≤ (x7_1 : Int) := of_decide_eq_true (by first | (with_reducible assumption) | assumption)
                                      have q179 : x7_1 < (l1.length : Int) := of_decide_eq_true (by first | (with_reducible assumption) | assumption)
                                      obtain ⟨ad179, e179, hx179_0⟩ := Kd.at_int HR1.out x7_1 p179 q179
                                      obtain rfl : ad169 = ad179 := (by injection e179)
                                      replace hx179_0 := (HB.out.cell (World.block_lt_of_cell? w _ hx179_0)).trans hx179_0
                                      replace p179 := eq_true p179
                                      replace q179 := eq_true q179
                                      go_wp2_with (first | ((with_reducible refine gate_callee (f := 29) rfl ?_); refine goesL_ (some 70) rfl rfl Try.func29 (by kernel_rfl) rfl #[.int .i64 (wrap64 (Int.tdiv (rd l1 x7_1) 7)), .int .i64 5] rfl (by (try simp only [List.map_toArray, List.map_cons, List.map_nil]); first | done | rfl | (simp only [List.length_drop, List.length_take]; rfl)) ?_; (with_reducible refine (comitialaw4_within.calls (wrap64 (Int.tdiv (rd l1 x7_1) 7)) 5 t180 _ A23.out).mono ?_); rintro e w' ⟨rfl, ⟨nd, rfl⟩⟩; refine ⟨_, rfl, ?_⟩) | ((with_reducible refine gate_builtin (b := .append) (xs := #[.tmp 78, .tmp 81]) rfl ?_); at_builtin; refine Kd.R_append k43 (w0 := w) w.heap.size rfl (.tmp 78) (.tmp 81) 27 43 (.agg #[(.int .i64 0), (.int .i64 0), (.string ⟨#[]⟩)]) 32 rfl Try.underlying27 info43 rfl (by decide) (by omega) u5 x5_1 (⟨2, 0, (⟨#[97, 98, 99, 100, 101, 102, 103, 104, 105, 106]⟩ : ByteArray).extract 0 ((ji24) : Int).toNat⟩ : S43) [.int .i64 2, .int .i64 0, .string ((⟨#[97, 98, 99, 100, 101, 102, 103, 104, 105, 106]⟩ : ByteArray).extract 0 ((ji24) : Int).toNat)] (fun _ => True) (fun _ => False) rfl rfl ?aP (fun _ hk => hk.elim) ?aF ?aO ?aB ?aS ?aL ?_; (case aP => exact k43_mkM _ _ _ (⟨2, 0, (⟨#[97, 98, 99, 100, 101, 102, 103, 104, 105, 106]⟩ : ByteArray).extract 0 ((ji24) : Int).toNat⟩ : S43)); (case aB => exact (by repeat (first | (with_reducible first | exact HB.out | apply below_alloc | apply pw_below_drewN | apply below_drew1) | exact HB.out))); (case aF => exact (fun _ _ => trivial)); (case aO => exact (by (with_reducible repeat (first | apply Kd.R_alloc | apply Kd.R_drewN | apply Kd.R_drew)); exact HO_5.out)); (case aS => exact (below_size (by repeat (first | (with_reducible first | exact HB.out | apply below_alloc | apply pw_below_drewN | apply below_drew1) | exact HB.out)))); (case aL => have := LMc28.out; omega); intro v182 w29 ho hb hg hat; rw [← Ny181.out] at ho; have n0_ := Aside0.mk (hb); have n1_ := Aside0.mk (ho); clear HB; clear HO_5; have HB := n0_; have HO183 := n1_; clear n0_ n1_; clear ho hb hg hat))
                                      go_roundg kj11
                                      case measure => have := HK1.out; have := HJ2.out; have := HJ11.out; omega
                                      case rel => exact ⟨(x0_1), (y181), (wrap64 (x6_1 + (((⟨#[97, 98, 99, 100, 101, 102, 103, 104, 105, 106]⟩ : ByteArray).extract 0 ((ji24) : Int).toNat).size : Int))), (wrap64 (x7_1 + 1)), (by first | rfl | (simp; done) | (rw [ezji24.out]) | (simp [*]; done) | exact congrArg Value.bool (emp_ne _)), (by first | rfl | (simp; done) | (rw [ezji24.out]) | (simp only [← hji24] <;> (first | rfl | simp)) | (simp [*]; done)), (by first | rfl | (simp; done) | (rw [ezji24.out]) | (simp [*]; done) | exact congrArg Value.bool (emp_ne _)), H', ⟨by have := HK1.out; have := HJ2.out; have := HJ11.out; omega⟩, ⟨by (with_reducible repeat (first | apply Kd.R_alloc | apply Kd.R_drewN | apply Kd.R_drew)); exact HO183.out⟩, ⟨by repeat (first | (with_reducible first | exact HB.out | apply below_alloc | apply pw_below_drewN | apply below_drew1) | exact HB.out)⟩⟩
                                    · rw [if_neg c28] at H
                                      exact absurd H (by simp)
                                  · rw [if_neg c27] at H
                                    have ezji24 := Aside0.mk (ext_size (⟨#[97, 98, 99, 100, 101, 102, 103, 104, 105, 106]⟩ : ByteArray) ji24 (show (ji24 : Int) ≤ 10 from of_decide_eq_true (by assumption)))
                                    have c27b0 : decide ((wrap64 (x6_1 + (((⟨#[97, 98, 99, 100, 101, 102, 103, 104, 105, 106]⟩ : ByteArray).extract 0 ((ji24) : Int).toNat).size : Int))) ≤ 120) = false := decide_eq_false c27
                                    have c27b8 : decide ((wrap64 (x6_1 + max ji24 0)) ≤ 120) = false := (by have h_ := c27b0; rw [ezji24.out] at h_; exact h_)
                                    clear c27
                                    have H' := Aside0.mk H
                                    clear H
                                    have p179 : 0 ≤ (x7_1 : Int) := of_decide_eq_true (by first | (with_reducible assumption) | assumption)
                                    have q179 : x7_1 < (l1.length : Int) := of_decide_eq_true (by first | (with_reducible assumption) | assumption)
                                    obtain ⟨ad179, e179, hx179_0⟩ := Kd.at_int HR1.out x7_1 p179 q179
                                    obtain rfl : ad169 = ad179 := (by injection e179)
                                    replace hx179_0 := (HB.out.cell (World.block_lt_of_cell? w _ hx179_0)).trans hx179_0
                                    replace p179 := eq_true p179
                                    replace q179 := eq_true q179
                                    go_wp2_with (first | ((with_reducible refine gate_callee (f := 29) rfl ?_); refine goesL_ (some 70) rfl rfl Try.func29 (by kernel_rfl) rfl #[.int .i64 (wrap64 (Int.tdiv (rd l1 x7_1) 7)), .int .i64 5] rfl (by (try simp only [List.map_toArray, List.map_cons, List.map_nil]); first | done | rfl | (simp only [List.length_drop, List.length_take]; rfl)) ?_; (with_reducible refine (comitialaw4_within.calls (wrap64 (Int.tdiv (rd l1 x7_1) 7)) 5 t180 _ A23.out).mono ?_); rintro e w' ⟨rfl, ⟨nd, rfl⟩⟩; refine ⟨_, rfl, ?_⟩))
                                    go_roundg kj11
                                    case measure => have := HK1.out; have := HJ2.out; have := HJ11.out; omega
                                    case rel => exact ⟨(x0_1), (x5_1), (x6_1), (wrap64 (x7_1 + 1)), (by first | rfl | (simp; done) | (rw [ezji24.out]) | (simp [*]; done) | exact congrArg Value.bool (emp_ne _)), (by first | rfl | (simp; done) | (rw [ezji24.out]) | (simp [*]; done) | exact congrArg Value.bool (emp_ne _)), (by first | rfl | (simp; done) | (rw [ezji24.out]) | (simp [*]; done) | exact congrArg Value.bool (emp_ne _)), H', ⟨by have := HK1.out; have := HJ2.out; have := HJ11.out; omega⟩, ⟨by (with_reducible repeat (first | apply Kd.R_alloc | apply Kd.R_drewN | apply Kd.R_drew)); exact HO_5.out⟩, ⟨by repeat (first | (with_reducible first | exact HB.out | apply below_alloc | apply pw_below_drewN | apply below_drew1) | exact HB.out)⟩⟩
                                · rw [if_neg c26] at H
                                  exact absurd H (by simp)
                              · rw [if_neg c25] at H
                                exact absurd H (by simp)
                            · rw [if_neg c22] at H
                              exact absurd H (by simp)
                          · rw [if_neg c21] at H
                            exact absurd H (by simp)
                        · rw [if_neg c20] at H
                          have c20b0 : (t172 == 3) = false := beq_eq_false_iff_ne.mpr c20
                          have c20b1 : (t172 != 3) = true := bne_iff_ne.mpr c20
                          have H' := Aside0.mk H
                          clear H
                          go_wp2
                          go_roundg kj11
                          case measure => have := HK1.out; have := HJ2.out; have := HJ11.out; omega
                          case rel => exact ⟨(x0_1), (x5_1), (x6_1), (wrap64 (x7_1 + 1)), (by first | rfl | (simp; done) | (rw [ezji24.out]) | (simp [*]; done) | exact congrArg Value.bool (emp_ne _)), (by first | rfl | (simp; done) | (rw [ezji24.out]) | (simp [*]; done) | exact congrArg Value.bool (emp_ne _)), (by first | rfl | (simp; done) | (rw [ezji24.out]) | (simp [*]; done) | exact congrArg Value.bool (emp_ne _)), H', ⟨by have := HK1.out; have := HJ2.out; have := HJ11.out; omega⟩, ⟨by (with_reducible repeat (first | apply Kd.R_alloc | apply Kd.R_drewN | apply Kd.R_drew)); exact HO_5.out⟩, ⟨by repeat (first | (with_reducible first | exact HB.out | apply below_alloc | apply pw_below_drewN | apply below_drew1) | exact HB.out)⟩⟩
              · rw [if_neg c8] at H
                exact absurd H (by simp)
            · rw [if_neg c7] at H
              exact absurd H (by simp)
          · replace c6 := Bool.eq_false_iff.mpr c6
            subst c6
            have H1 : (if x0_1 > 0 then (if x5_1.length < 4398046511104 then ((some (x5_1 ++ [(⟨1, x0_1, (⟨#[]⟩ : ByteArray)⟩ : S43)] : List (S43))).bind fun y184 => (if (l1.length : Int) > 0 then (if 0 < (l1.length : Int) then ((comitialaw4_within.f (wrap64 (Int.tdiv (rd l1 0) 3)) 3).bind fun t188 => (if t188 = 0 then (if x6_1 ≤ 115 then (if y184.length < 4398046511104 then (some (y184 ++ [(⟨2, 0, (⟨#[122]⟩ : ByteArray)⟩ : S43)])) else (none)) else (some y184)) else (some y184))) else (none)) else (some y184))) else (none)) else (if (l1.length : Int) > 0 then (if 0 < (l1.length : Int) then ((comitialaw4_within.f (wrap64 (Int.tdiv (rd l1 0) 3)) 3).bind fun t193 => (if t193 = 0 then (if x6_1 ≤ 115 then (if x5_1.length < 4398046511104 then (some (x5_1 ++ [(⟨2, 0, (⟨#[122]⟩ : ByteArray)⟩ : S43)])) else (none)) else (some x5_1)) else (some x5_1))) else (none)) else (some x5_1))) = some r := by rw [if_neg (show ¬ (false = true) by decide)] at H; exact H
            clear H
            have H := H1
            clear H1
            by_cases c30 : x0_1 > 0
            · rw [if_pos c30] at H
              have c30b0 : decide (0 < x0_1) = true := decide_eq_true c30
              clear c30
              by_cases c31 : x5_1.length < 4398046511104
              · rw [if_pos c31] at H
                have LMc31 := Aside0.mk c31
                clear c31
                obtain ⟨y184, hy184⟩ : ∃ y_ : List (S43), y_ = (x5_1 ++ [(⟨1, x0_1, (⟨#[]⟩ : ByteArray)⟩ : S43)]) := ⟨_, rfl⟩
                replace H : (if (l1.length : Int) > 0 then (if 0 < (l1.length : Int) then ((comitialaw4_within.f (wrap64 (Int.tdiv (rd l1 0) 3)) 3).bind fun t188 => (if t188 = 0 then (if x6_1 ≤ 115 then (if y184.length < 4398046511104 then (some (y184 ++ [(⟨2, 0, (⟨#[122]⟩ : ByteArray)⟩ : S43)])) else (none)) else (some y184)) else (some y184))) else (none)) else (some y184)) = some r := by first | (rw [hy184]; with_reducible exact H) | (have H2_ := (Option.bind_some _ _).symm.trans H; rw [hy184]; with_reducible exact H2_) | (have H2_ := (Option.bind_some _ _).symm.trans H; with_reducible exact H2_) | with_reducible exact H | (rw [hy184]; exact H) | exact H
                have Ny184 := Aside0.mk hy184
                clear hy184
                by_cases c32 : (l1.length : Int) > 0
                · rw [if_pos c32] at H
                  have c32b0 : decide (0 < (l1.length : Int)) = true := decide_eq_true c32
                  have c32b1 : decide (0 < l1.length) = true := decide_eq_true (by omega)
                  have c32b5 : (0 < l1.length) = True := eq_true (of_decide_eq_true c32b1)
                  clear c32
                  by_cases c33 : 0 < (l1.length : Int)
                  · rw [if_pos c33] at H
                    have c33b0 : decide (0 < (l1.length : Int)) = true := decide_eq_true c33
                    have c33b1 : decide (0 < l1.length) = true := decide_eq_true (by omega)
                    have c33b5 : (0 < l1.length) = True := eq_true (of_decide_eq_true c33b1)
                    clear c33
                    replace H := Option.bind_eq_some_iff.mp H
                    obtain ⟨t188, A340, H⟩ := H
                    replace H : (if t188 = 0 then (if x6_1 ≤ 115 then (if y184.length < 4398046511104 then (some (y184 ++ [(⟨2, 0, (⟨#[122]⟩ : ByteArray)⟩ : S43)])) else (none)) else (some y184)) else (some y184)) = some r := H
                    have A34 := Aside0.mk A340
                    clear A340
                    by_cases c35 : t188 = 0
                    · rw [if_pos c35] at H
                      have c35b0 : (t188 == 0) = true := beq_iff_eq.mpr c35
                      have c35b1 : (t188 != 0) = false := bne_eq_false_iff_eq.mpr c35
                      clear c35
                      by_cases c36 : x6_1 ≤ 115
                      · rw [if_pos c36] at H
                        have c36b0 : decide (x6_1 ≤ 115) = true := decide_eq_true c36
                        clear c36
                        by_cases c37 : y184.length < 4398046511104
                        · rw [if_pos c37] at H
                          have LMc37 := Aside0.mk c37
                          clear c37
                          obtain ⟨y189, hy189⟩ : ∃ y_ : List (S43), y_ = (y184 ++ [(⟨2, 0, (⟨#[122]⟩ : ByteArray)⟩ : S43)]) := ⟨_, rfl⟩
                          replace H : (some y189) = some r := by first | (rw [hy189]; with_reducible exact H) | (have H2_ := (Option.bind_some _ _).symm.trans H; rw [hy189]; with_reducible exact H2_) | (have H2_ := (Option.bind_some _ _).symm.trans H; with_reducible exact H2_) | with_reducible exact H | (rw [hy189]; exact H) | exact H
                          have Ny189 := Aside0.mk hy189
                          clear hy189
                          obtain rfl := Option.some.inj H
                          go_wp2_with (first | ((with_reducible refine gate_builtin (b := .append) (xs := #[.tmp 89, .tmp 92]) rfl ?_); at_builtin; refine Kd.R_append k43 (w0 := w) w.heap.size rfl (.tmp 89) (.tmp 92) 27 43 (.agg #[(.int .i64 0), (.int .i64 0), (.string ⟨#[]⟩)]) 32 rfl Try.underlying27 info43 rfl (by decide) (by omega) u5 x5_1 (⟨1, x0_1, (⟨#[]⟩ : ByteArray)⟩ : S43) [.int .i64 1, .int .i64 x0_1, .string (⟨#[]⟩ : ByteArray)] (fun _ => True) (fun _ => False) rfl rfl ?aP (fun _ hk => hk.elim) ?aF ?aO ?aB ?aS ?aL ?_; (case aP => exact k43_mkM _ _ _ (⟨1, x0_1, (⟨#[]⟩ : ByteArray)⟩ : S43)); (case aB => exact (by repeat (first | (with_reducible first | exact HB.out | apply below_alloc | apply pw_below_drewN | apply below_drew1) | exact HB.out))); (case aF => exact (fun _ _ => trivial)); (case aO => exact (by (with_reducible repeat (first | apply Kd.R_alloc | apply Kd.R_drewN | apply Kd.R_drew)); exact HO_5.out)); (case aS => exact (below_size (by repeat (first | (with_reducible first | exact HB.out | apply below_alloc | apply pw_below_drewN | apply below_drew1) | exact HB.out)))); (case aL => have := LMc31.out; omega); intro v185 w38 ho hb hg hat; rw [← Ny184.out] at ho; have n0_ := Aside0.mk (hb); have n1_ := Aside0.mk (ho); clear HB; clear HO_5; have HB := n0_; have HO186 := n1_; clear n0_ n1_; clear ho hb hg hat; have p187 : 0 ≤ (0 : Int) := (by omega); have q187 : 0 < (l1.length : Int) := of_decide_eq_true (by first | (with_reducible assumption) | assumption); obtain ⟨ad187, e187, hx187_0⟩ := Kd.at_int HR1.out 0 p187 q187; cases e187; have qi187 : (0 < l1.length) = True := eq_true (by omega); (try rw [show ((0 : Int)).toNat = 0 from rfl] at hx187_0); (try rw [Addr.add_zero'] at hx187_0); replace hx187_0 := (HB.out.cell (World.block_lt_of_cell? w _ hx187_0)).trans hx187_0; replace p187 := eq_true p187; replace q187 := eq_true q187) | (go_at_call 29; (with_reducible refine (comitialaw4_within.calls (wrap64 (Int.tdiv (rd l1 0) 3)) 3 t188 _ A34.out).mono ?_); rintro e w' ⟨rfl, ⟨nd, rfl⟩⟩) | ((with_reducible refine gate_builtin (b := .append) (xs := #[.tmp 109, .tmp 111]) rfl ?_); at_builtin; refine Kd.R_append k43 (w0 := w) w.heap.size rfl (.tmp 109) (.tmp 111) 27 43 (.agg #[(.int .i64 0), (.int .i64 0), (.string ⟨#[]⟩)]) 32 rfl Try.underlying27 info43 rfl (by decide) (by omega) v185 y184 (⟨2, 0, (⟨#[122]⟩ : ByteArray)⟩ : S43) [.int .i64 2, .int .i64 0, .string (⟨#[122]⟩ : ByteArray)] (fun _ => True) (fun _ => False) rfl rfl ?aP (fun _ hk => hk.elim) ?aF ?aO ?aB ?aS ?aL ?_; (case aP => exact k43_mkM _ _ _ (⟨2, 0, (⟨#[122]⟩ : ByteArray)⟩ : S43)); (case aB => exact (by repeat (first | (with_reducible first | exact HB.out | apply below_alloc | apply pw_below_drewN | apply below_drew1) | exact HB.out))); (case aF => exact (fun _ _ => trivial)); (case aO => exact (by (with_reducible repeat (first | apply Kd.R_alloc | apply Kd.R_drewN | apply Kd.R_drew)); exact HO186.out)); (case aS => exact (below_size (by repeat (first | (with_reducible first | exact HB.out | apply below_alloc | apply pw_below_drewN | apply below_drew1) | exact HB.out)))); (case aL => have := LMc37.out; omega); intro v190 w39 ho hb hg hat; rw [← Ny189.out] at ho; have n0_ := Aside0.mk (hb); have n1_ := Aside0.mk (ho); clear HB; clear HO186; have HB := n0_; have HO191 := n1_; clear n0_ n1_; clear ho hb hg hat))
                          go_ret
                          exact ⟨_, by first | rfl | (simp [errW_none, errW_some] <;> rfl) | (simp [*, errW_none, errW_some] <;> rfl), by (with_reducible repeat (first | apply Kd.R_alloc | apply Kd.R_drewN | apply Kd.R_drew)); exact HO191.out, by repeat (first | (with_reducible first | exact HB.out | apply below_alloc | apply pw_below_drewN | apply below_drew1) | exact HB.out)⟩
                        · rw [if_neg c37] at H
                          exact absurd H (by simp)
                      · rw [if_neg c36] at H
                        have c36b0 : decide (x6_1 ≤ 115) = false := decide_eq_false c36
                        clear c36
                        obtain rfl := Option.some.inj H
                        go_wp2_with (first | ((with_reducible refine gate_builtin (b := .append) (xs := #[.tmp 89, .tmp 92]) rfl ?_); at_builtin; refine Kd.R_append k43 (w0 := w) w.heap.size rfl (.tmp 89) (.tmp 92) 27 43 (.agg #[(.int .i64 0), (.int .i64 0), (.string ⟨#[]⟩)]) 32 rfl Try.underlying27 info43 rfl (by decide) (by omega) u5 x5_1 (⟨1, x0_1, (⟨#[]⟩ : ByteArray)⟩ : S43) [.int .i64 1, .int .i64 x0_1, .string (⟨#[]⟩ : ByteArray)] (fun _ => True) (fun _ => False) rfl rfl ?aP (fun _ hk => hk.elim) ?aF ?aO ?aB ?aS ?aL ?_; (case aP => exact k43_mkM _ _ _ (⟨1, x0_1, (⟨#[]⟩ : ByteArray)⟩ : S43)); (case aB => exact (by repeat (first | (with_reducible first | exact HB.out | apply below_alloc | apply pw_below_drewN | apply below_drew1) | exact HB.out))); (case aF => exact (fun _ _ => trivial)); (case aO => exact (by (with_reducible repeat (first | apply Kd.R_alloc | apply Kd.R_drewN | apply Kd.R_drew)); exact HO_5.out)); (case aS => exact (below_size (by repeat (first | (with_reducible first | exact HB.out | apply below_alloc | apply pw_below_drewN | apply below_drew1) | exact HB.out)))); (case aL => have := LMc31.out; omega); intro v185 w40 ho hb hg hat; rw [← Ny184.out] at ho; have n0_ := Aside0.mk (hb); have n1_ := Aside0.mk (ho); clear HB; clear HO_5; have HB := n0_; have HO186 := n1_; clear n0_ n1_; clear ho hb hg hat; have p187 : 0 ≤ (0 : Int) := (by omega); have q187 : 0 < (l1.length : Int) := of_decide_eq_true (by first | (with_reducible assumption) | assumption); obtain ⟨ad187, e187, hx187_0⟩ := Kd.at_int HR1.out 0 p187 q187; cases e187; have qi187 : (0 < l1.length) = True := eq_true (by omega); (try rw [show ((0 : Int)).toNat = 0 from rfl] at hx187_0); (try rw [Addr.add_zero'] at hx187_0); replace hx187_0 := (HB.out.cell (World.block_lt_of_cell? w _ hx187_0)).trans hx187_0; replace p187 := eq_true p187; replace q187 := eq_true q187) | (go_at_call 29; (with_reducible refine (comitialaw4_within.calls (wrap64 (Int.tdiv (rd l1 0) 3)) 3 t188 _ A34.out).mono ?_); rintro e w' ⟨rfl, ⟨nd, rfl⟩⟩))
                        go_ret
                        exact ⟨_, by first | rfl | (simp [errW_none, errW_some] <;> rfl) | (simp [*, errW_none, errW_some] <;> rfl), by (with_reducible repeat (first | apply Kd.R_alloc | apply Kd.R_drewN | apply Kd.R_drew)); exact HO186.out, by repeat (first | (with_reducible first | exact HB.out | apply below_alloc | apply pw_below_drewN | apply below_drew1) | exact HB.out)⟩
                    · rw [if_neg c35] at H
                      have c35b0 : (t188 == 0) = false := beq_eq_false_iff_ne.mpr c35
                      have c35b1 : (t188 != 0) = true := bne_iff_ne.mpr c35
                      obtain rfl := Option.some.inj H
                      go_wp2_with (first | ((with_reducible refine gate_builtin (b := .append) (xs := #[.tmp 89, .tmp 92]) rfl ?_); at_builtin; refine Kd.R_append k43 (w0 := w) w.heap.size rfl (.tmp 89) (.tmp 92) 27 43 (.agg #[(.int .i64 0), (.int .i64 0), (.string ⟨#[]⟩)]) 32 rfl Try.underlying27 info43 rfl (by decide) (by omega) u5 x5_1 (⟨1, x0_1, (⟨#[]⟩ : ByteArray)⟩ : S43) [.int .i64 1, .int .i64 x0_1, .string (⟨#[]⟩ : ByteArray)] (fun _ => True) (fun _ => False) rfl rfl ?aP (fun _ hk => hk.elim) ?aF ?aO ?aB ?aS ?aL ?_; (case aP => exact k43_mkM _ _ _ (⟨1, x0_1, (⟨#[]⟩ : ByteArray)⟩ : S43)); (case aB => exact (by repeat (first | (with_reducible first | exact HB.out | apply below_alloc | apply pw_below_drewN | apply below_drew1) | exact HB.out))); (case aF => exact (fun _ _ => trivial)); (case aO => exact (by (with_reducible repeat (first | apply Kd.R_alloc | apply Kd.R_drewN | apply Kd.R_drew)); exact HO_5.out)); (case aS => exact (below_size (by repeat (first | (with_reducible first | exact HB.out | apply below_alloc | apply pw_below_drewN | apply below_drew1) | exact HB.out)))); (case aL => have := LMc31.out; omega); intro v185 w41 ho hb hg hat; rw [← Ny184.out] at ho; have n0_ := Aside0.mk (hb); have n1_ := Aside0.mk (ho); clear HB; clear HO_5; have HB := n0_; have HO186 := n1_; clear n0_ n1_; clear ho hb hg hat; have p187 : 0 ≤ (0 : Int) := (by omega); have q187 : 0 < (l1.length : Int) := of_decide_eq_true (by first | (with_reducible assumption) | assumption); obtain ⟨ad187, e187, hx187_0⟩ := Kd.at_int HR1.out 0 p187 q187; cases e187; have qi187 : (0 < l1.length) = True := eq_true (by omega); (try rw [show ((0 : Int)).toNat = 0 from rfl] at hx187_0); (try rw [Addr.add_zero'] at hx187_0); replace hx187_0 := (HB.out.cell (World.block_lt_of_cell? w _ hx187_0)).trans hx187_0; replace p187 := eq_true p187; replace q187 := eq_true q187) | (go_at_call 29; (with_reducible refine (comitialaw4_within.calls (wrap64 (Int.tdiv (rd l1 0) 3)) 3 t188 _ A34.out).mono ?_); rintro e w' ⟨rfl, ⟨nd, rfl⟩⟩))
                      go_ret
                      exact ⟨_, by first | rfl | (simp [errW_none, errW_some] <;> rfl) | (simp [*, errW_none, errW_some] <;> rfl), by (with_reducible repeat (first | apply Kd.R_alloc | apply Kd.R_drewN | apply Kd.R_drew)); exact HO186.out, by repeat (first | (with_reducible first | exact HB.out | apply below_alloc | apply pw_below_drewN | apply below_drew1) | exact HB.out)⟩
                  · rw [if_neg c33] at H
                    exact absurd H (by simp)
                · rw [if_neg c32] at H
                  have c32b0 : decide (0 < (l1.length : Int)) = false := decide_eq_false c32
                  have c32b1 : decide (0 < l1.length) = false := decide_eq_false (by omega)
                  have c32b5 : (0 < l1.length) = False := eq_false (of_decide_eq_false c32b1)
                  clear c32
                  obtain rfl := Option.some.inj H
                  go_wp2_with (first | ((with_reducible refine gate_builtin (b := .append) (xs := #[.tmp 89, .tmp 92]) rfl ?_); at_builtin; refine Kd.R_append k43 (w0 := w) w.heap.size rfl (.tmp 89) (.tmp 92) 27 43 (.agg #[(.int .i64 0), (.int .i64 0), (.string ⟨#[]⟩)]) 32 rfl Try.underlying27 info43 rfl (by decide) (by omega) u5 x5_1 (⟨1, x0_1, (⟨#[]⟩ : ByteArray)⟩ : S43) [.int .i64 1, .int .i64 x0_1, .string (⟨#[]⟩ : ByteArray)] (fun _ => True) (fun _ => False) rfl rfl ?aP (fun _ hk => hk.elim) ?aF ?aO ?aB ?aS ?aL ?_; (case aP => exact k43_mkM _ _ _ (⟨1, x0_1, (⟨#[]⟩ : ByteArray)⟩ : S43)); (case aB => exact (by repeat (first | (with_reducible first | exact HB.out | apply below_alloc | apply pw_below_drewN | apply below_drew1) | exact HB.out))); (case aF => exact (fun _ _ => trivial)); (case aO => exact (by (with_reducible repeat (first | apply Kd.R_alloc | apply Kd.R_drewN | apply Kd.R_drew)); exact HO_5.out)); (case aS => exact (below_size (by repeat (first | (with_reducible first | exact HB.out | apply below_alloc | apply pw_below_drewN | apply below_drew1) | exact HB.out)))); (case aL => have := LMc31.out; omega); intro v185 w42 ho hb hg hat; rw [← Ny184.out] at ho; have n0_ := Aside0.mk (hb); have n1_ := Aside0.mk (ho); clear HB; clear HO_5; have HB := n0_; have HO186 := n1_; clear n0_ n1_; clear ho hb hg hat))
                  go_ret
                  exact ⟨_, by first | rfl | (simp [errW_none, errW_some] <;> rfl) | (simp [*, errW_none, errW_some] <;> rfl), by (with_reducible repeat (first | apply Kd.R_alloc | apply Kd.R_drewN | apply Kd.R_drew)); exact HO186.out, by repeat (first | (with_reducible first | exact HB.out | apply below_alloc | apply pw_below_drewN | apply below_drew1) | exact HB.out)⟩
              · rw [if_neg c31] at H
                exact absurd H (by simp)
            · rw [if_neg c30] at H
              have c30b0 : decide (0 < x0_1) = false := decide_eq_false c30
              clear c30
              by_cases c43 : (l1.length : Int) > 0
              · rw [if_pos c43] at H
                have c43b0 : decide (0 < (l1.length : Int)) = true := decide_eq_true c43
                have c43b1 : decide (0 < l1.length) = true := decide_eq_true (by omega)
                have c43b5 : (0 < l1.length) = True := eq_true (of_decide_eq_true c43b1)
                clear c43
                by_cases c44 : 0 < (l1.length : Int)
                · rw [if_pos c44] at H
                  have c44b0 : decide (0 < (l1.length : Int)) = true := decide_eq_true c44
                  have c44b1 : decide (0 < l1.length) = true := decide_eq_true (by omega)
                  have c44b5 : (0 < l1.length) = True := eq_true (of_decide_eq_true c44b1)
                  clear c44
                  replace H := Option.bind_eq_some_iff.mp H
                  obtain ⟨t193, A450, H⟩ := H
                  replace H : (if t193 = 0 then (if x6_1 ≤ 115 then (if x5_1.length < 4398046511104 then (some (x5_1 ++ [(⟨2, 0, (⟨#[122]⟩ : ByteArray)⟩ : S43)])) else (none)) else (some x5_1)) else (some x5_1)) = some r := H
                  have A45 := Aside0.mk A450
                  clear A450
                  by_cases c46 : t193 = 0
                  · rw [if_pos c46] at H
                    have c46b0 : (t193 == 0) = true := beq_iff_eq.mpr c46
                    have c46b1 : (t193 != 0) = false := bne_eq_false_iff_eq.mpr c46
                    clear c46
                    by_cases c47 : x6_1 ≤ 115
                    · rw [if_pos c47] at H
                      have c47b0 : decide (x6_1 ≤ 115) = true := decide_eq_true c47
                      clear c47
                      by_cases c48 : x5_1.length < 4398046511104
                      · rw [if_pos c48] at H
                        have LMc48 := Aside0.mk c48
                        clear c48
                        obtain ⟨y194, hy194⟩ : ∃ y_ : List (S43), y_ = (x5_1 ++ [(⟨2, 0, (⟨#[122]⟩ : ByteArray)⟩ : S43)]) := ⟨_, rfl⟩
                        replace H : (some y194) = some r := by first | (rw [hy194]; with_reducible exact H) | (have H2_ := (Option.bind_some _ _).symm.trans H; rw [hy194]; with_reducible exact H2_) | (have H2_ := (Option.bind_some _ _).symm.trans H; with_reducible exact H2_) | with_reducible exact H | (rw [hy194]; exact H) | exact H
                        have Ny194 := Aside0.mk hy194
                        clear hy194
                        obtain rfl := Option.some.inj H
                        have p192 : 0 ≤ (0 : Int) := (by omega)
                        have q192 : 0 < (l1.length : Int) := of_decide_eq_true (by first | (with_reducible assumption) | assumption)
                        obtain ⟨ad192, e192, hx192_0⟩ := Kd.at_int HR1.out 0 p192 q192
                        cases e192
                        have qi192 : (0 < l1.length) = True := eq_true (by omega)
                        (try rw [show ((0 : Int)).toNat = 0 from rfl] at hx192_0)
                        (try rw [Addr.add_zero'] at hx192_0)
                        replace hx192_0 := (HB.out.cell (World.block_lt_of_cell? w _ hx192_0)).trans hx192_0
                        replace p192 := eq_true p192
                        replace q192 := eq_true q192
                        go_wp2_with (first | (go_at_call 29; (with_reducible refine (comitialaw4_within.calls (wrap64 (Int.tdiv (rd l1 0) 3)) 3 t193 _ A45.out).mono ?_); rintro e w' ⟨rfl, ⟨nd, rfl⟩⟩) | ((with_reducible refine gate_builtin (b := .append) (xs := #[.tmp 109, .tmp 111]) rfl ?_); at_builtin; refine Kd.R_append k43 (w0 := w) w.heap.size rfl (.tmp 109) (.tmp 111) 27 43 (.agg #[(.int .i64 0), (.int .i64 0), (.string ⟨#[]⟩)]) 32 rfl Try.underlying27 info43 rfl (by decide) (by omega) u5 x5_1 (⟨2, 0, (⟨#[122]⟩ : ByteArray)⟩ : S43) [.int .i64 2, .int .i64 0, .string (⟨#[122]⟩ : ByteArray)] (fun _ => True) (fun _ => False) rfl rfl ?aP (fun _ hk => hk.elim) ?aF ?aO ?aB ?aS ?aL ?_; (case aP => exact k43_mkM _ _ _ (⟨2, 0, (⟨#[122]⟩ : ByteArray)⟩ : S43)); (case aB => exact (by repeat (first | (with_reducible first | exact HB.out | apply below_alloc | apply pw_below_drewN | apply below_drew1) | exact HB.out))); (case aF => exact (fun _ _ => trivial)); (case aO => exact (by (with_reducible repeat (first | apply Kd.R_alloc | apply Kd.R_drewN | apply Kd.R_drew)); exact HO_5.out)); (case aS => exact (below_size (by repeat (first | (with_reducible first | exact HB.out | apply below_alloc | apply pw_below_drewN | apply below_drew1) | exact HB.out)))); (case aL => have := LMc48.out; omega); intro v195 w49 ho hb hg hat; rw [← Ny194.out] at ho; have n0_ := Aside0.mk (hb); have n1_ := Aside0.mk (ho); clear HB; clear HO_5; have HB := n0_; have HO196 := n1_; clear n0_ n1_; clear ho hb hg hat))
                        go_ret
                        exact ⟨_, by first | rfl | (simp [errW_none, errW_some] <;> rfl) | (simp [*, errW_none, errW_some] <;> rfl), by (with_reducible repeat (first | apply Kd.R_alloc | apply Kd.R_drewN | apply Kd.R_drew)); exact HO196.out, by repeat (first | (with_reducible first | exact HB.out | apply below_alloc | apply pw_below_drewN | apply below_drew1) | exact HB.out)⟩
                      · rw [if_neg c48] at H
                        exact absurd H (by simp)
                    · rw [if_neg c47] at H
                      have c47b0 : decide (x6_1 ≤ 115) = false := decide_eq_false c47
                      clear c47
                      obtain rfl := Option.some.inj H
                      have p192 : 0 ≤ (0 : Int) := (by omega)
                      have q192 : 0 < (l1.length : Int) := of_decide_eq_true (by first | (with_reducible assumption) | assumption)
                      obtain ⟨ad192, e192, hx192_0⟩ := Kd.at_int HR1.out 0 p192 q192
                      cases e192
                      have qi192 : (0 < l1.length) = True := eq_true (by omega)
                      (try rw [show ((0 : Int)).toNat = 0 from rfl] at hx192_0)
                      (try rw [Addr.add_zero'] at hx192_0)
                      replace hx192_0 := (HB.out.cell (World.block_lt_of_cell? w _ hx192_0)).trans hx192_0
                      replace p192 := eq_true p192
                      replace q192 := eq_true q192
                      go_wp2_with (first | (go_at_call 29; (with_reducible refine (comitialaw4_within.calls (wrap64 (Int.tdiv (rd l1 0) 3)) 3 t193 _ A45.out).mono ?_); rintro e w' ⟨rfl, ⟨nd, rfl⟩⟩))
                      go_ret
                      exact ⟨_, by first | rfl | (simp [errW_none, errW_some] <;> rfl) | (simp [*, errW_none, errW_some] <;> rfl), by (with_reducible repeat (first | apply Kd.R_alloc | apply Kd.R_drewN | apply Kd.R_drew)); exact HO_5.out, by repeat (first | (with_reducible first | exact HB.out | apply below_alloc | apply pw_below_drewN | apply below_drew1) | exact HB.out)⟩
                  · rw [if_neg c46] at H
                    have c46b0 : (t193 == 0) = false := beq_eq_false_iff_ne.mpr c46
                    have c46b1 : (t193 != 0) = true := bne_iff_ne.mpr c46
                    obtain rfl := Option.some.inj H
                    have p192 : 0 ≤ (0 : Int) := (by omega)
                    have q192 : 0 < (l1.length : Int) := of_decide_eq_true (by first | (with_reducible assumption) | assumption)
                    obtain ⟨ad192, e192, hx192_0⟩ := Kd.at_int HR1.out 0 p192 q192
                    cases e192
                    have qi192 : (0 < l1.length) = True := eq_true (by omega)
                    (try rw [show ((0 : Int)).toNat = 0 from rfl] at hx192_0)
                    (try rw [Addr.add_zero'] at hx192_0)
                    replace hx192_0 := (HB.out.cell (World.block_lt_of_cell? w _ hx192_0)).trans hx192_0
                    replace p192 := eq_true p192
                    replace q192 := eq_true q192
                    go_wp2_with (first | (go_at_call 29; (with_reducible refine (comitialaw4_within.calls (wrap64 (Int.tdiv (rd l1 0) 3)) 3 t193 _ A45.out).mono ?_); rintro e w' ⟨rfl, ⟨nd, rfl⟩⟩))
                    go_ret
                    exact ⟨_, by first | rfl | (simp [errW_none, errW_some] <;> rfl) | (simp [*, errW_none, errW_some] <;> rfl), by (with_reducible repeat (first | apply Kd.R_alloc | apply Kd.R_drewN | apply Kd.R_drew)); exact HO_5.out, by repeat (first | (with_reducible first | exact HB.out | apply below_alloc | apply pw_below_drewN | apply below_drew1) | exact HB.out)⟩
                · rw [if_neg c44] at H
                  exact absurd H (by simp)
              · rw [if_neg c43] at H
                have c43b0 : decide (0 < (l1.length : Int)) = false := decide_eq_false c43
                have c43b1 : decide (0 < l1.length) = false := decide_eq_false (by omega)
                have c43b5 : (0 < l1.length) = False := eq_false (of_decide_eq_false c43b1)
                clear c43
                obtain rfl := Option.some.inj H
                go_wp2
                go_ret
                exact ⟨_, by first | rfl | (simp [errW_none, errW_some] <;> rfl) | (simp [*, errW_none, errW_some] <;> rfl), by (with_reducible repeat (first | apply Kd.R_alloc | apply Kd.R_drewN | apply Kd.R_drew)); exact HO_5.out, by repeat (first | (with_reducible first | exact HB.out | apply below_alloc | apply pw_below_drewN | apply below_drew1) | exact HB.out)⟩

end Go.Proofs.Ytjmnflgicolbdaa.Q

/- Contracts of Go functions: each call answers what the Lean function of its name answers. Conditions: stand in each theorem. Written by this seat's own program over the kit's printer. -/
import Derived.Test.YtmkblbkijjabdaaQ0
import Derived.Test.YtmkblbkijjabdaaQxcm
import Derived.Test.YtmkblbkijjabdaaQxinvertOp
import Derived.Test.YtmkblbkijjabdaaQxcomitialaw6known
import Derived.Test.YtmkblbkijjabdaaQxcomitialaw4Doc
import Derived.Test.YtmkblbkijjabdaaQxcomitialaw4Make
import Derived.Test.YtmkblbkijjabdaaQxcomitiaref4In
import Derived.Test.YtmkblbkijjabdaaQxcomitiaref4Out
namespace Go.Proofs.Ytmkblbkijjabdaa.Q
open Go.RowKit Go.Proofs.YtmkblbkijjabdaaW.PrintWords Go.Proofs.YtmkblbkijjabdaaW.PrintLast Go.Proofs.YtmkblbkijjabdaaW.PrintMore
attribute [local go_sem] max2_int min2_int max_two min_two max_three min_three max_four min_four   -- for this text's walks alone
set_option linter.unusedVariables false
set_option linter.unusedSimpArgs false

/-! ### comitialaw6_InvertLengths: function 8 -/
mutual
def comitialaw6_InvertLengths.l0 : Nat → ByteArray → List (S42) → List (S42) → Int → Int → Int → Int → Option (Bool)
  | 0, _, _, _, _, _, _, _ => none
  | k + 1, x5, x6, x7, x8, x9, x10, x11 => if x11 < (x6.length : Int) then (if 0 ≤ x11 then (if ((rd_T42 x6 x11).f0) = 3 then (comitialaw6_InvertLengths.l0 k x5 x6 x7 x8 (wrap64 (x9 + ((rd_T42 x6 x11).f1))) (wrap64 (x10 + (((rd_T42 x6 x11).f2).size : Int))) (wrap64 (x11 + 1))) else (comitialaw6_InvertLengths.l0 k x5 x6 x7 x8 x9 (wrap64 (x10 + (((rd_T42 x6 x11).f2).size : Int))) (wrap64 (x11 + 1)))) else (none)) else (comitialaw6_InvertLengths.l1 k x5 x6 x7 x8 x9 x10 0 0 0)
def comitialaw6_InvertLengths.l1 : Nat → ByteArray → List (S42) → List (S42) → Int → Int → Int → Int → Int → Int → Option (Bool)
  | 0, _, _, _, _, _, _, _, _, _ => none
  | k + 1, x5, x6, x7, x8, x9, x10, x12, x13, x14 => if x14 < (x7.length : Int) then (if 0 ≤ x14 then (if ((rd_T42 x7 x14).f0) = 3 then (comitialaw6_InvertLengths.l1 k x5 x6 x7 x8 x9 x10 (wrap64 (x12 + (((rd_T42 x7 x14).f2).size : Int))) (wrap64 (x13 + ((rd_T42 x7 x14).f1))) (wrap64 (x14 + 1))) else (comitialaw6_InvertLengths.l1 k x5 x6 x7 x8 x9 x10 (wrap64 (x12 + (((rd_T42 x7 x14).f2).size : Int))) x13 (wrap64 (x14 + 1)))) else (none)) else (if x8 = 0 then ((comitiaref4_In.f k x7).bind fun t417 => ((comitiaref4_Out.f k x6).bind fun t418 => (if t417 = t418 then ((comitiaref4_Out.f k x7).bind fun t419 => (if t419 = (x5.size : Int) then (if x12 = x9 then (some (x13 == x10)) else (some false)) else (some false))) else (some false)))) else (some false))
end
def comitialaw6_InvertLengths.f (k : Nat) (l0 : List Int) (l1 : List Int) : Option (Bool) := (comitialaw6_known.f).bind fun t402 => (if t402 = true then ((comitialaw4_Doc.f l0).bind fun t403 => ((comitialaw4_Make.f k (t403.size : Int) l1).bind fun t404 => ((invert_Op.f t403 t404).bind fun bt407 => (comitialaw6_InvertLengths.l0 k t403 t404 bt407.1 bt407.2 0 0 0)))) else (some false))
theorem comitialaw6_InvertLengths.mono_l : ∀ k, (∀ y0 y1 y2 y3 y4 y5 y6, LeO (comitialaw6_InvertLengths.l0 k y0 y1 y2 y3 y4 y5 y6) (comitialaw6_InvertLengths.l0 (k + 1) y0 y1 y2 y3 y4 y5 y6)) ∧ (∀ y0 y1 y2 y3 y4 y5 y6 y7 y8, LeO (comitialaw6_InvertLengths.l1 k y0 y1 y2 y3 y4 y5 y6 y7 y8) (comitialaw6_InvertLengths.l1 (k + 1) y0 y1 y2 y3 y4 y5 y6 y7 y8))
  | 0 => ⟨fun _ _ _ _ _ _ _ r h => by simp [comitialaw6_InvertLengths.l0] at h, fun _ _ _ _ _ _ _ _ _ r h => by simp [comitialaw6_InvertLengths.l1] at h⟩
  | k + 1 => by
    obtain ⟨ih0, ih1⟩ := comitialaw6_InvertLengths.mono_l k
    refine ⟨?_, ?_⟩
    · intro y0 y1 y2 y3 y4 y5 y6
      unfold comitialaw6_InvertLengths.l0
      repeat' first
      | (with_reducible exact ih0 _ _ _ _ _ _ _)
      | (with_reducible exact ih1 _ _ _ _ _ _ _ _ _)
      | (with_reducible exact comitialaw4_Make.mono _ _ _)
      | (with_reducible exact comitiaref4_In.mono _ _)
      | (with_reducible exact comitiaref4_Out.mono _ _)
      | (with_reducible exact LeO.refl _)
      | (with_reducible exact LeO.none _)
      | (with_reducible refine LeO.ite ?_ ?_)
      | (with_reducible refine LeO.bind ?_ (fun _ => ?_))
      | exact ih0 _ _ _ _ _ _ _
      | exact ih1 _ _ _ _ _ _ _ _ _
      | exact comitialaw4_Make.mono _ _ _
      | exact comitiaref4_In.mono _ _
      | exact comitiaref4_Out.mono _ _
      | exact LeO.none _
      | refine LeO.ite ?_ ?_
      | refine LeO.bind ?_ (fun _ => ?_)
    · intro y0 y1 y2 y3 y4 y5 y6 y7 y8
      unfold comitialaw6_InvertLengths.l1
      repeat' first
      | (with_reducible exact ih0 _ _ _ _ _ _ _)
      | (with_reducible exact ih1 _ _ _ _ _ _ _ _ _)
      | (with_reducible exact comitialaw4_Make.mono _ _ _)
      | (with_reducible exact comitiaref4_In.mono _ _)
      | (with_reducible exact comitiaref4_Out.mono _ _)
      | (with_reducible exact LeO.refl _)
      | (with_reducible exact LeO.none _)
      | (with_reducible refine LeO.ite ?_ ?_)
      | (with_reducible refine LeO.bind ?_ (fun _ => ?_))
      | exact ih0 _ _ _ _ _ _ _
      | exact ih1 _ _ _ _ _ _ _ _ _
      | exact comitialaw4_Make.mono _ _ _
      | exact comitiaref4_In.mono _ _
      | exact comitiaref4_Out.mono _ _
      | exact LeO.none _
      | refine LeO.ite ?_ ?_
      | refine LeO.bind ?_ (fun _ => ?_)
theorem comitialaw6_InvertLengths.mono : ∀ a0 a1 k, LeO (comitialaw6_InvertLengths.f k a0 a1) (comitialaw6_InvertLengths.f (k + 1) a0 a1) := by
  intro a0 a1 k
  obtain ⟨ih0, ih1⟩ := comitialaw6_InvertLengths.mono_l k
  unfold comitialaw6_InvertLengths.f
  repeat' first
      | (with_reducible exact ih0 _ _ _ _ _ _ _)
      | (with_reducible exact ih1 _ _ _ _ _ _ _ _ _)
      | (with_reducible exact comitialaw4_Make.mono _ _ _)
      | (with_reducible exact comitiaref4_In.mono _ _)
      | (with_reducible exact comitiaref4_Out.mono _ _)
      | (with_reducible exact LeO.refl _)
      | (with_reducible exact LeO.none _)
      | (with_reducible refine LeO.ite ?_ ?_)
      | (with_reducible refine LeO.bind ?_ (fun _ => ?_))
      | exact ih0 _ _ _ _ _ _ _
      | exact ih1 _ _ _ _ _ _ _ _ _
      | exact comitialaw4_Make.mono _ _ _
      | exact comitiaref4_In.mono _ _
      | exact comitiaref4_Out.mono _ _
      | exact LeO.none _
      | refine LeO.ite ?_ ?_
      | refine LeO.bind ?_ (fun _ => ?_)
set_option maxHeartbeats 8000000 in
set_option maxRecDepth 100000 in
theorem comitialaw6_InvertLengths.calls (k : Nat) (A0 : Option Addr) (c0 : Nat) (l0 : List Int) (A1 : Option Addr) (c1 : Nat) (l1 : List Int) (r : Bool) (w : World) (hr0 : Kd.C (Kd.int .u8) w A0 l0.length l0) (hc0 : l0.length ≤ c0) (hr1 : Kd.C (Kd.int .i64) w A1 l1.length l1) (hc1 : l1.length ≤ c1) (h : comitialaw6_InvertLengths.f k l0 l1 = some r) :
    Calls Try.prog 8 #[.slice A0 l0.length c0, .slice A1 l1.length c1] w fun e w' => e = .returned (.bool r) ∧ Below w.heap.size w w' := by
  have HR0 := Aside0.mk hr0
  have HC0 := Aside0.mk hc0
  clear hr0 hc0
  have HR1 := Aside0.mk hr1
  have HC1 := Aside0.mk hc1
  clear hr1 hc1
  have HB := Aside0.mk (Below.refl w.heap.size w)
  have H : ((comitialaw6_known.f).bind fun t402 => (if t402 = true then ((comitialaw4_Doc.f l0).bind fun t403 => ((comitialaw4_Make.f k (t403.size : Int) l1).bind fun t404 => ((invert_Op.f t403 t404).bind fun bt407 => (comitialaw6_InvertLengths.l0 k t403 t404 bt407.1 bt407.2 0 0 0)))) else (some false))) = some r := h
  clear h
  replace H := Option.bind_eq_some_iff.mp H
  obtain ⟨t402, A30, H⟩ := H
  replace H : (if t402 = true then ((comitialaw4_Doc.f l0).bind fun t403 => ((comitialaw4_Make.f k (t403.size : Int) l1).bind fun t404 => ((invert_Op.f t403 t404).bind fun bt407 => (comitialaw6_InvertLengths.l0 k t403 t404 bt407.1 bt407.2 0 0 0)))) else (some false)) = some r := H
  have A3 := Aside0.mk A30
  clear A30
  by_cases c4 : t402 = true
  · subst c4
    have H1 : ((comitialaw4_Doc.f l0).bind fun t403 => ((comitialaw4_Make.f k (t403.size : Int) l1).bind fun t404 => ((invert_Op.f t403 t404).bind fun bt407 => (comitialaw6_InvertLengths.l0 k t403 t404 bt407.1 bt407.2 0 0 0)))) = some r := by rw [if_pos rfl] at H; exact H
    clear H
    have H := H1
    clear H1
    replace H := Option.bind_eq_some_iff.mp H
    obtain ⟨t403, A50, H⟩ := H
    replace H : ((comitialaw4_Make.f k (t403.size : Int) l1).bind fun t404 => ((invert_Op.f t403 t404).bind fun bt407 => (comitialaw6_InvertLengths.l0 k t403 t404 bt407.1 bt407.2 0 0 0))) = some r := H
    have A5 := Aside0.mk A50
    clear A50
    replace H := Option.bind_eq_some_iff.mp H
    obtain ⟨t404, A60, H⟩ := H
    replace H : ((invert_Op.f t403 t404).bind fun bt407 => (comitialaw6_InvertLengths.l0 k t403 t404 bt407.1 bt407.2 0 0 0)) = some r := H
    have A6 := Aside0.mk A60
    clear A60
    replace H := Option.bind_eq_some_iff.mp H
    obtain ⟨⟨t407, t408⟩, A70, H⟩ := H
    replace H : (comitialaw6_InvertLengths.l0 k t403 t404 t407 t408 0 0 0) = some r := H
    have A7 := Aside0.mk A70
    clear A70
    have H' := Aside0.mk H
    clear H
    go_enter Try.func8, Try.ntmps8
    go_wp2_with (first | ((with_reducible refine gate_callee (f := 9) rfl ?_); refine goesL_ (some 15) rfl rfl Try.func9 (by kernel_rfl) rfl #[] rfl (by (try simp only [List.map_toArray, List.map_cons, List.map_nil]); first | done | rfl | (simp only [List.length_drop, List.length_take]; rfl)) ?_; (with_reducible refine (comitialaw6_known.calls  true _ A3.out).mono ?_); rintro e w8 ⟨rfl, hb⟩; refine ⟨_, rfl, ?_⟩; have n0_ := Aside0.mk (below_step (by repeat (first | (with_reducible first | exact HB.out | apply below_alloc | apply pw_below_drewN | apply below_drew1) | exact HB.out)) hb); clear HB; have HB := n0_; clear n0_; (try clear hb); (try clear hb2); (try clear hk); (try clear hi)) | ((with_reducible refine gate_callee (f := 10) rfl ?_); refine goesL_ (some 18) rfl rfl Try.func10 (by kernel_rfl) rfl #[.slice A0 l0.length c0] rfl (by (try simp only [List.map_toArray, List.map_cons, List.map_nil]); first | done | rfl | (simp only [List.length_drop, List.length_take]; rfl)) ?_; (with_reducible refine (comitialaw4_Doc.calls _ _ l0 t403 _ ?side1 ?side2 A5.out).mono ?_); (case side1 => repeat (first | exact (Kd.C_below HR0.out HB.out) | (with_reducible refine Kd.C_alloc ?_ _) | (with_reducible refine Kd.C_drewN ?_ _) | (with_reducible refine Kd.C_drew ?_))); (case side2 => exact HC0.out); rintro e w9 ⟨rfl, hb⟩; refine ⟨_, rfl, ?_⟩; have n0_ := Aside0.mk (below_step (by repeat (first | (with_reducible first | exact HB.out | apply below_alloc | apply pw_below_drewN | apply below_drew1) | exact HB.out)) hb); clear HB; have HB := n0_; clear n0_; (try clear hb); (try clear hb2); (try clear hk); (try clear hi)) | ((with_reducible refine gate_callee (f := 11) rfl ?_); refine goesL_ (some 22) rfl rfl Try.func11 (by kernel_rfl) rfl #[.int .i64 (t403.size : Int), .slice A1 l1.length c1] rfl (by (try simp only [List.map_toArray, List.map_cons, List.map_nil]); first | done | rfl | (simp only [List.length_drop, List.length_take]; rfl)) ?_; (with_reducible refine (comitialaw4_Make.calls k (t403.size : Int) _ _ l1 t404 _ ?side1 ?side2 A6.out).mono ?_); (case side1 => repeat (first | exact (Kd.C_below HR1.out HB.out) | (with_reducible refine Kd.C_alloc ?_ _) | (with_reducible refine Kd.C_drewN ?_ _) | (with_reducible refine Kd.C_drew ?_))); (case side2 => exact HC1.out); rintro e w10 ⟨v405, rfl, ho0, hb⟩; refine ⟨_, rfl, ?_⟩; have n0_ := Aside0.mk (Kd.R_lower ho0 (below_size (by repeat (first | (with_reducible first | exact HB.out | apply below_alloc | apply pw_below_drewN | apply below_drew1) | exact HB.out)))); have n1_ := Aside0.mk (below_step (by repeat (first | (with_reducible first | exact HB.out | apply below_alloc | apply pw_below_drewN | apply below_drew1) | exact HB.out)) hb); clear HB; have HO406 := n0_; have HB := n1_; clear n0_ n1_; (try clear hb); (try clear hb2); (try clear hk); (try clear hi); (try clear ho0); obtain ⟨Ao11, co11, eo11⟩ := Kd.R_slice HO406.out; subst eo11) | ((with_reducible refine gate_callee (f := 12) rfl ?_); refine goesL_ (some 26) rfl rfl Try.func12 (by kernel_rfl) rfl #[.string t403, .slice Ao11 t404.length co11] rfl (by (try simp only [List.map_toArray, List.map_cons, List.map_nil]); first | done | rfl | (simp only [List.length_drop, List.length_take]; rfl)) ?_; (with_reducible refine (invert_Op.calls t403 _ _ t404 t407 t408 _ ?side1 ?side2 A7.out).mono ?_); (case side1 => repeat (first | exact (Kd.R_reads' HO406.out).2.2 | (with_reducible refine Kd.C_alloc ?_ _) | (with_reducible refine Kd.C_drewN ?_ _) | (with_reducible refine Kd.C_drew ?_))); (case side2 => exact (Kd.R_reads' HO406.out).2.1); rintro e w12 ⟨v409, rfl, ho0, hb⟩; refine ⟨_, rfl, ?_⟩; have n0_ := Aside0.mk (Kd.R_elder' (by (with_reducible repeat (first | apply Kd.R_alloc | apply Kd.R_drewN | apply Kd.R_drew)); exact HO406.out) (Kd.R_base ho0) hb); have n1_ := Aside0.mk (Kd.R_lower (Kd.R_new' ho0 (Kd.R_lt (by (with_reducible repeat (first | apply Kd.R_alloc | apply Kd.R_drewN | apply Kd.R_drew)); exact HO406.out))) (below_size (by repeat (first | (with_reducible first | exact HB.out | apply below_alloc | apply pw_below_drewN | apply below_drew1) | exact HB.out)))); have n2_ := Aside0.mk (below_step (by repeat (first | (with_reducible first | exact HB.out | apply below_alloc | apply pw_below_drewN | apply below_drew1) | exact HB.out)) hb); clear HO406; clear HB; have HO406 := n0_; have HO410 := n1_; have HB := n2_; clear n0_ n1_ n2_; (try clear hb); (try clear hb2); (try clear hk); (try clear hi); (try clear ho0)))
    go_loopg [9, 10, 11] k (fun kq v9 v10 v11 w' => ∃ (x9_1 : Int) (x10_1 : Int) (x11_1 : Int), v9 = .int .i64 x9_1 ∧ v10 = .int .i64 x10_1 ∧ v11 = .int .i64 x11_1 ∧ Aside0 (comitialaw6_InvertLengths.l0 kq t403 t404 t407 t408 x9_1 x10_1 x11_1 = some r) ∧ Aside0 (kq ≤ k) ∧ Aside0 (Kd.R k42 42 w' w.heap.size (fun k_ => some k_ ≠ (v409 : Value).ownBlock) (.slice Ao11 t404.length co11) t404) ∧ Aside0 (Kd.R k42 42 w' w.heap.size (fun k_ => some k_ ≠ ((.slice Ao11 t404.length co11) : Value).ownBlock) v409 t407) ∧ Aside0 (Below w.heap.size w w'))
    case atStart => exact ⟨(0), (0), (0), (by first | rfl | (simp; done) | (simp [*]; done) | exact congrArg Value.bool (emp_ne _)), (by first | rfl | (simp; done) | (simp [*]; done) | exact congrArg Value.bool (emp_ne _)), (by first | rfl | (simp; done) | (simp [*]; done) | exact congrArg Value.bool (emp_ne _)), H', ⟨Nat.le_refl _⟩, ⟨by (with_reducible repeat (first | apply Kd.R_alloc | apply Kd.R_drewN | apply Kd.R_drew)); exact Kd.R_mono HO406.out (fun _ hk => hk.2)⟩, ⟨by (with_reducible repeat (first | apply Kd.R_alloc | apply Kd.R_drewN | apply Kd.R_drew)); exact Kd.R_mono HO410.out (fun _ hk => hk.2)⟩, ⟨by repeat (first | (with_reducible first | exact HB.out | apply below_alloc | apply pw_below_drewN | apply below_drew1) | exact HB.out)⟩⟩
    case round =>
      clear H'
      try clear c1
      try clear p2
      try clear c4
      try clear c8
      try clear c9
      try clear c10
      try clear c11
      try clear c12
      obtain ⟨x9_1, x10_1, x11_1, rfl, rfl, rfl, HA, HK1, HO_6, HO_7, HB⟩ := hrel
      cases gk with
      | zero => exact absurd HA.out (by simp [comitialaw6_InvertLengths.l0])
      | succ k1 =>
        have H := HA.out
        clear HA
        simp only [comitialaw6_InvertLengths.l0] at H
        by_cases c13 : x11_1 < (t404.length : Int)
        · rw [if_pos c13] at H
          have c13b0 : decide (x11_1 < (t404.length : Int)) = true := decide_eq_true c13
          clear c13
          by_cases c14 : 0 ≤ x11_1
          · rw [if_pos c14] at H
            have c14b0 : decide (0 ≤ x11_1) = true := decide_eq_true c14
            clear c14
            by_cases c15 : ((rd_T42 t404 x11_1).f0) = 3
            · rw [if_pos c15] at H
              have c15b0 : (((rd_T42 t404 x11_1).f0) == 3) = true := beq_iff_eq.mpr c15
              have c15b1 : (((rd_T42 t404 x11_1).f0) != 3) = false := bne_eq_false_iff_eq.mpr c15
              clear c15
              have H' := Aside0.mk H
              clear H
              have p411 : 0 ≤ (x11_1 : Int) := of_decide_eq_true (by first | (with_reducible assumption) | assumption)
              have q411 : x11_1 < (t404.length : Int) := of_decide_eq_true (by first | (with_reducible assumption) | assumption)
              obtain ⟨ad411, e411, hx411_0, hx411_1, hx411_2⟩ := at_T42 (Kd.R_reads' HO_6.out).2.2 x11_1 p411 q411
              cases e411
              replace p411 := eq_true p411
              replace q411 := eq_true q411
              have p412 : 0 ≤ (x11_1 : Int) := of_decide_eq_true (by first | (with_reducible assumption) | assumption)
              have q412 : x11_1 < (t404.length : Int) := of_decide_eq_true (by first | (with_reducible assumption) | assumption)
              obtain ⟨ad412, e412, hx412_0, hx412_1, hx412_2⟩ := at_T42 (Kd.R_reads' HO_6.out).2.2 x11_1 p412 q412
              obtain rfl : ad411 = ad412 := (by injection e412)
              replace p412 := eq_true p412
              replace q412 := eq_true q412
              have p413 : 0 ≤ (x11_1 : Int) := of_decide_eq_true (by first | (with_reducible assumption) | assumption)
              have q413 : x11_1 < (t404.length : Int) := of_decide_eq_true (by first | (with_reducible assumption) | assumption)
              obtain ⟨ad413, e413, hx413_0, hx413_1, hx413_2⟩ := at_T42 (Kd.R_reads' HO_6.out).2.2 x11_1 p413 q413
              obtain rfl : ad411 = ad413 := (by injection e413)
              replace p413 := eq_true p413
              replace q413 := eq_true q413
              go_wp2
              go_roundg k1
              case measure => have := HK1.out; omega
              case rel => exact ⟨(wrap64 (x9_1 + ((rd_T42 t404 x11_1).f1))), (wrap64 (x10_1 + (((rd_T42 t404 x11_1).f2).size : Int))), (wrap64 (x11_1 + 1)), (by first | rfl | (simp; done) | (simp [*]; done) | exact congrArg Value.bool (emp_ne _)), (by first | rfl | (simp; done) | (simp [*]; done) | exact congrArg Value.bool (emp_ne _)), (by first | rfl | (simp; done) | (simp [*]; done) | exact congrArg Value.bool (emp_ne _)), H', ⟨by have := HK1.out; omega⟩, ⟨by (with_reducible repeat (first | apply Kd.R_alloc | apply Kd.R_drewN | apply Kd.R_drew)); exact HO_6.out⟩, ⟨by (with_reducible repeat (first | apply Kd.R_alloc | apply Kd.R_drewN | apply Kd.R_drew)); exact HO_7.out⟩, ⟨by repeat (first | (with_reducible first | exact HB.out | apply below_alloc | apply pw_below_drewN | apply below_drew1) | exact HB.out)⟩⟩
            · rw [if_neg c15] at H
              have c15b0 : (((rd_T42 t404 x11_1).f0) == 3) = false := beq_eq_false_iff_ne.mpr c15
              have c15b1 : (((rd_T42 t404 x11_1).f0) != 3) = true := bne_iff_ne.mpr c15
              have H' := Aside0.mk H
              clear H
              have p411 : 0 ≤ (x11_1 : Int) := of_decide_eq_true (by first | (with_reducible assumption) | assumption)
              have q411 : x11_1 < (t404.length : Int) := of_decide_eq_true (by first | (with_reducible assumption) | assumption)
              obtain ⟨ad411, e411, hx411_0, hx411_1, hx411_2⟩ := at_T42 (Kd.R_reads' HO_6.out).2.2 x11_1 p411 q411
              cases e411
              replace p411 := eq_true p411
              replace q411 := eq_true q411
              have p412 : 0 ≤ (x11_1 : Int) := of_decide_eq_true (by first | (with_reducible assumption) | assumption)
              have q412 : x11_1 < (t404.length : Int) := of_decide_eq_true (by first | (with_reducible assumption) | assumption)
              obtain ⟨ad412, e412, hx412_0, hx412_1, hx412_2⟩ := at_T42 (Kd.R_reads' HO_6.out).2.2 x11_1 p412 q412
              obtain rfl : ad411 = ad412 := (by injection e412)
              replace p412 := eq_true p412
              replace q412 := eq_true q412
              go_wp2
              go_roundg k1
              case measure => have := HK1.out; omega
              case rel => exact ⟨(x9_1), (wrap64 (x10_1 + (((rd_T42 t404 x11_1).f2).size : Int))), (wrap64 (x11_1 + 1)), (by first | rfl | (simp; done) | (simp [*]; done) | exact congrArg Value.bool (emp_ne _)), (by first | rfl | (simp; done) | (simp [*]; done) | exact congrArg Value.bool (emp_ne _)), (by first | rfl | (simp; done) | (simp [*]; done) | exact congrArg Value.bool (emp_ne _)), H', ⟨by have := HK1.out; omega⟩, ⟨by (with_reducible repeat (first | apply Kd.R_alloc | apply Kd.R_drewN | apply Kd.R_drew)); exact HO_6.out⟩, ⟨by (with_reducible repeat (first | apply Kd.R_alloc | apply Kd.R_drewN | apply Kd.R_drew)); exact HO_7.out⟩, ⟨by repeat (first | (with_reducible first | exact HB.out | apply below_alloc | apply pw_below_drewN | apply below_drew1) | exact HB.out)⟩⟩
          · rw [if_neg c14] at H
            exact absurd H (by simp)
        · rw [if_neg c13] at H
          have c13b0 : decide (x11_1 < (t404.length : Int)) = false := decide_eq_false c13
          clear c13
          have H' := Aside0.mk H
          clear H
          go_wp2
          go_loopg [12, 13, 14] k1 (fun kq v12 v13 v14 w' => ∃ (x12_2 : Int) (x13_2 : Int) (x14_2 : Int), v12 = .int .i64 x12_2 ∧ v13 = .int .i64 x13_2 ∧ v14 = .int .i64 x14_2 ∧ Aside0 (comitialaw6_InvertLengths.l1 kq t403 t404 t407 t408 x9_1 x10_1 x12_2 x13_2 x14_2 = some r) ∧ Aside0 (kq ≤ k1) ∧ Aside0 (Kd.R k42 42 w' w.heap.size (fun k_ => some k_ ≠ (v409 : Value).ownBlock) (.slice Ao11 t404.length co11) t404) ∧ Aside0 (Kd.R k42 42 w' w.heap.size (fun k_ => some k_ ≠ ((.slice Ao11 t404.length co11) : Value).ownBlock) v409 t407) ∧ Aside0 (Below w.heap.size w w'))
          case atStart => exact ⟨(0), (0), (0), (by first | rfl | (simp; done) | (simp [*]; done) | exact congrArg Value.bool (emp_ne _)), (by first | rfl | (simp; done) | (simp [*]; done) | exact congrArg Value.bool (emp_ne _)), (by first | rfl | (simp; done) | (simp [*]; done) | exact congrArg Value.bool (emp_ne _)), H', ⟨Nat.le_refl _⟩, ⟨by (with_reducible repeat (first | apply Kd.R_alloc | apply Kd.R_drewN | apply Kd.R_drew)); exact HO_6.out⟩, ⟨by (with_reducible repeat (first | apply Kd.R_alloc | apply Kd.R_drewN | apply Kd.R_drew)); exact HO_7.out⟩, ⟨by repeat (first | (with_reducible first | exact HB.out | apply below_alloc | apply pw_below_drewN | apply below_drew1) | exact HB.out)⟩⟩
          case round =>
            clear H'
            try clear c1
            try clear p2
            try clear c4
            try clear p4
            try clear q4
            try clear hx4
            try clear p6
            try clear c8
            try clear c9
            try clear c10
            try clear c11
            try clear c12
            try clear c13
            try clear c13b0
            try clear c14
            try clear c14b0
            try clear c15
            try clear c15b0
            try clear c15b1
            try clear hx411_0
            try clear hx411_1
            try clear hx411_2
            try clear hx412_0
            try clear hx412_1
            try clear hx412_2
            try clear hx413_0
            try clear hx413_1
            try clear hx413_2
            try clear p2
            try clear p411
            try clear p412
            try clear p413
            try clear q411
            try clear q412
            try clear q413
            obtain ⟨x12_2, x13_2, x14_2, rfl, rfl, rfl, HA, HK2, HO_6, HO_7, HB⟩ := hrel
            cases gk with
            | zero => exact absurd HA.out (by simp [comitialaw6_InvertLengths.l1])
            | succ k2 =>
              have H := HA.out
              clear HA
              simp only [comitialaw6_InvertLengths.l1] at H
              by_cases c16 : x14_2 < (t407.length : Int)
              · rw [if_pos c16] at H
                have c16b0 : decide (x14_2 < (t407.length : Int)) = true := decide_eq_true c16
                clear c16
                by_cases c17 : 0 ≤ x14_2
                · rw [if_pos c17] at H
                  have c17b0 : decide (0 ≤ x14_2) = true := decide_eq_true c17
                  clear c17
                  by_cases c18 : ((rd_T42 t407 x14_2).f0) = 3
                  · rw [if_pos c18] at H
                    have c18b0 : (((rd_T42 t407 x14_2).f0) == 3) = true := beq_iff_eq.mpr c18
                    have c18b1 : (((rd_T42 t407 x14_2).f0) != 3) = false := bne_eq_false_iff_eq.mpr c18
                    clear c18
                    have H' := Aside0.mk H
                    clear H
                    obtain ⟨Ao19, co19, eo19⟩ := Kd.R_slice HO_7.out
                    subst eo19
                    have p414 : 0 ≤ (x14_2 : Int) := of_decide_eq_true (by first | (with_reducible assumption) | assumption)
                    have q414 : x14_2 < (t407.length : Int) := of_decide_eq_true (by first | (with_reducible assumption) | assumption)
                    obtain ⟨ad414, e414, hx414_0, hx414_1, hx414_2⟩ := at_T42 (Kd.R_reads' HO_7.out).2.2 x14_2 p414 q414
                    cases e414
                    replace p414 := eq_true p414
                    replace q414 := eq_true q414
                    have p415 : 0 ≤ (x14_2 : Int) := of_decide_eq_true (by first | (with_reducible assumption) | assumption)
                    have q415 : x14_2 < (t407.length : Int) := of_decide_eq_true (by first | (with_reducible assumption) | assumption)
                    obtain ⟨ad415, e415, hx415_0, hx415_1, hx415_2⟩ := at_T42 (Kd.R_reads' HO_7.out).2.2 x14_2 p415 q415
                    obtain rfl : ad414 = ad415 := (by injection e415)
                    replace p415 := eq_true p415
                    replace q415 := eq_true q415
                    have p416 : 0 ≤ (x14_2 : Int) := of_decide_eq_true (by first | (with_reducible assumption) | assumption)
                    have q416 : x14_2 < (t407.length : Int) := of_decide_eq_true (by first | (with_reducible assumption) | assumption)
                    obtain ⟨ad416, e416, hx416_0, hx416_1, hx416_2⟩ := at_T42 (Kd.R_reads' HO_7.out).2.2 x14_2 p416 q416
                    obtain rfl : ad414 = ad416 := (by injection e416)
                    replace p416 := eq_true p416
                    replace q416 := eq_true q416
                    go_wp2
                    go_roundg k2
                    case measure => have := HK1.out; have := HK2.out; omega
                    case rel => exact ⟨(wrap64 (x12_2 + (((rd_T42 t407 x14_2).f2).size : Int))), (wrap64 (x13_2 + ((rd_T42 t407 x14_2).f1))), (wrap64 (x14_2 + 1)), (by first | rfl | (simp; done) | (simp [*]; done) | exact congrArg Value.bool (emp_ne _)), (by first | rfl | (simp; done) | (simp [*]; done) | exact congrArg Value.bool (emp_ne _)), (by first | rfl | (simp; done) | (simp [*]; done) | exact congrArg Value.bool (emp_ne _)), H', ⟨by have := HK1.out; have := HK2.out; omega⟩, ⟨by (with_reducible repeat (first | apply Kd.R_alloc | apply Kd.R_drewN | apply Kd.R_drew)); exact HO_6.out⟩, ⟨by (with_reducible repeat (first | apply Kd.R_alloc | apply Kd.R_drewN | apply Kd.R_drew)); exact HO_7.out⟩, ⟨by repeat (first | (with_reducible first | exact HB.out | apply below_alloc | apply pw_below_drewN | apply below_drew1) | exact HB.out)⟩⟩
                  · rw [if_neg c18] at H
                    have c18b0 : (((rd_T42 t407 x14_2).f0) == 3) = false := beq_eq_false_iff_ne.mpr c18
                    have c18b1 : (((rd_T42 t407 x14_2).f0) != 3) = true := bne_iff_ne.mpr c18
                    have H' := Aside0.mk H
                    clear H
                    obtain ⟨Ao20, co20, eo20⟩ := Kd.R_slice HO_7.out
                    subst eo20
                    have p414 : 0 ≤ (x14_2 : Int) := of_decide_eq_true (by first | (with_reducible assumption) | assumption)
                    have q414 : x14_2 < (t407.length : Int) := of_decide_eq_true (by first | (with_reducible assumption) | assumption)
                    obtain ⟨ad414, e414, hx414_0, hx414_1, hx414_2⟩ := at_T42 (Kd.R_reads' HO_7.out).2.2 x14_2 p414 q414
                    cases e414
                    replace p414 := eq_true p414
                    replace q414 := eq_true q414
                    have p415 : 0 ≤ (x14_2 : Int) := of_decide_eq_true (by first | (with_reducible assumption) | assumption)
                    have q415 : x14_2 < (t407.length : Int) := of_decide_eq_true (by first | (with_reducible assumption) | assumption)
                    obtain ⟨ad415, e415, hx415_0, hx415_1, hx415_2⟩ := at_T42 (Kd.R_reads' HO_7.out).2.2 x14_2 p415 q415
                    obtain rfl : ad414 = ad415 := (by injection e415)
                    replace p415 := eq_true p415
                    replace q415 := eq_true q415
                    go_wp2
                    go_roundg k2
                    case measure => have := HK1.out; have := HK2.out; omega
                    case rel => exact ⟨(wrap64 (x12_2 + (((rd_T42 t407 x14_2).f2).size : Int))), (x13_2), (wrap64 (x14_2 + 1)), (by first | rfl | (simp; done) | (simp [*]; done) | exact congrArg Value.bool (emp_ne _)), (by first | rfl | (simp; done) | (simp [*]; done) | exact congrArg Value.bool (emp_ne _)), (by first | rfl | (simp; done) | (simp [*]; done) | exact congrArg Value.bool (emp_ne _)), H', ⟨by have := HK1.out; have := HK2.out; omega⟩, ⟨by (with_reducible repeat (first | apply Kd.R_alloc | apply Kd.R_drewN | apply Kd.R_drew)); exact HO_6.out⟩, ⟨by (with_reducible repeat (first | apply Kd.R_alloc | apply Kd.R_drewN | apply Kd.R_drew)); exact HO_7.out⟩, ⟨by repeat (first | (with_reducible first | exact HB.out | apply below_alloc | apply pw_below_drewN | apply below_drew1) | exact HB.out)⟩⟩
                · rw [if_neg c17] at H
                  exact absurd H (by simp)
              · rw [if_neg c16] at H
                have c16b0 : decide (x14_2 < (t407.length : Int)) = false := decide_eq_false c16
                clear c16
                by_cases c21 : t408 = 0
                · rw [if_pos c21] at H
                  have c21b0 : (t408 == 0) = true := beq_iff_eq.mpr c21
                  have c21b1 : (t408 != 0) = false := bne_eq_false_iff_eq.mpr c21
                  clear c21
                  replace H := Option.bind_eq_some_iff.mp H
                  obtain ⟨t417, A220, H⟩ := H
                  replace H : ((comitiaref4_Out.f k2 t404).bind fun t418 => (if t417 = t418 then ((comitiaref4_Out.f k2 t407).bind fun t419 => (if t419 = (t403.size : Int) then (if x12_2 = x9_1 then (some (x13_2 == x10_1)) else (some false)) else (some false))) else (some false))) = some r := H
                  have A22 := Aside0.mk A220
                  clear A220
                  replace H := Option.bind_eq_some_iff.mp H
                  obtain ⟨t418, A230, H⟩ := H
                  replace H : (if t417 = t418 then ((comitiaref4_Out.f k2 t407).bind fun t419 => (if t419 = (t403.size : Int) then (if x12_2 = x9_1 then (some (x13_2 == x10_1)) else (some false)) else (some false))) else (some false)) = some r := H
                  have A23 := Aside0.mk A230
                  clear A230
                  by_cases c24 : t417 = t418
                  · rw [if_pos c24] at H
                    have c24b0 : (t417 == t418) = true := beq_iff_eq.mpr c24
                    have c24b1 : (t417 != t418) = false := bne_eq_false_iff_eq.mpr c24
                    clear c24
                    replace H := Option.bind_eq_some_iff.mp H
                    obtain ⟨t419, A250, H⟩ := H
                    replace H : (if t419 = (t403.size : Int) then (if x12_2 = x9_1 then (some (x13_2 == x10_1)) else (some false)) else (some false)) = some r := H
                    have A25 := Aside0.mk A250
                    clear A250
                    by_cases c26 : t419 = (t403.size : Int)
                    · rw [if_pos c26] at H
                      have c26b0 : (t419 == (t403.size : Int)) = true := beq_iff_eq.mpr c26
                      have c26b1 : (t419 != (t403.size : Int)) = false := bne_eq_false_iff_eq.mpr c26
                      clear c26
                      by_cases c27 : x12_2 = x9_1
                      · rw [if_pos c27] at H
                        have c27b0 : (x12_2 == x9_1) = true := beq_iff_eq.mpr c27
                        have c27b1 : (x12_2 != x9_1) = false := bne_eq_false_iff_eq.mpr c27
                        clear c27
                        obtain rfl := Option.some.inj H
                        obtain ⟨Ao28, co28, eo28⟩ := Kd.R_slice HO_7.out
                        subst eo28
                        go_wp2_with (first | (go_at_call 18; (with_reducible refine (comitiaref4_In.calls k2 _ _ t407 t417 _ ?side1 ?side2 A22.out).mono ?_); (case side1 => repeat (first | exact (Kd.R_reads' HO_7.out).2.2 | (with_reducible refine Kd.C_alloc ?_ _) | (with_reducible refine Kd.C_drewN ?_ _) | (with_reducible refine Kd.C_drew ?_))); (case side2 => exact (Kd.R_reads' HO_7.out).2.1); rintro e w' ⟨rfl, ⟨nd, rfl⟩⟩) | (go_at_call 19; (with_reducible refine (comitiaref4_Out.calls k2 _ _ t404 t418 _ ?side1 ?side2 A23.out).mono ?_); (case side1 => repeat (first | exact (Kd.R_reads' HO_6.out).2.2 | (with_reducible refine Kd.C_alloc ?_ _) | (with_reducible refine Kd.C_drewN ?_ _) | (with_reducible refine Kd.C_drew ?_))); (case side2 => exact (Kd.R_reads' HO_6.out).2.1); rintro e w' ⟨rfl, ⟨nd, rfl⟩⟩) | (go_at_call 19; (with_reducible refine (comitiaref4_Out.calls k2 _ _ t407 t419 _ ?side1 ?side2 A25.out).mono ?_); (case side1 => repeat (first | exact (Kd.R_reads' HO_7.out).2.2 | (with_reducible refine Kd.C_alloc ?_ _) | (with_reducible refine Kd.C_drewN ?_ _) | (with_reducible refine Kd.C_drew ?_))); (case side2 => exact (Kd.R_reads' HO_7.out).2.1); rintro e w' ⟨rfl, ⟨nd, rfl⟩⟩))
                        go_ret
                        exact ⟨by first | rfl | (simp [errW_none, errW_some] <;> rfl) | (simp [*, errW_none, errW_some] <;> rfl), by repeat (first | (with_reducible first | exact HB.out | apply below_alloc | apply pw_below_drewN | apply below_drew1) | exact HB.out)⟩
                      · rw [if_neg c27] at H
                        have c27b0 : (x12_2 == x9_1) = false := beq_eq_false_iff_ne.mpr c27
                        have c27b1 : (x12_2 != x9_1) = true := bne_iff_ne.mpr c27
                        obtain rfl := Option.some.inj H
                        obtain ⟨Ao29, co29, eo29⟩ := Kd.R_slice HO_7.out
                        subst eo29
                        go_wp2_with (first | (go_at_call 18; (with_reducible refine (comitiaref4_In.calls k2 _ _ t407 t417 _ ?side1 ?side2 A22.out).mono ?_); (case side1 => repeat (first | exact (Kd.R_reads' HO_7.out).2.2 | (with_reducible refine Kd.C_alloc ?_ _) | (with_reducible refine Kd.C_drewN ?_ _) | (with_reducible refine Kd.C_drew ?_))); (case side2 => exact (Kd.R_reads' HO_7.out).2.1); rintro e w' ⟨rfl, ⟨nd, rfl⟩⟩) | (go_at_call 19; (with_reducible refine (comitiaref4_Out.calls k2 _ _ t404 t418 _ ?side1 ?side2 A23.out).mono ?_); (case side1 => repeat (first | exact (Kd.R_reads' HO_6.out).2.2 | (with_reducible refine Kd.C_alloc ?_ _) | (with_reducible refine Kd.C_drewN ?_ _) | (with_reducible refine Kd.C_drew ?_))); (case side2 => exact (Kd.R_reads' HO_6.out).2.1); rintro e w' ⟨rfl, ⟨nd, rfl⟩⟩) | (go_at_call 19; (with_reducible refine (comitiaref4_Out.calls k2 _ _ t407 t419 _ ?side1 ?side2 A25.out).mono ?_); (case side1 => repeat (first | exact (Kd.R_reads' HO_7.out).2.2 | (with_reducible refine Kd.C_alloc ?_ _) | (with_reducible refine Kd.C_drewN ?_ _) | (with_reducible refine Kd.C_drew ?_))); (case side2 => exact (Kd.R_reads' HO_7.out).2.1); rintro e w' ⟨rfl, ⟨nd, rfl⟩⟩))
                        go_ret
                        exact ⟨by first | rfl | (simp [errW_none, errW_some] <;> rfl) | (simp [*, errW_none, errW_some] <;> rfl), by repeat (first | (with_reducible first | exact HB.out | apply below_alloc | apply pw_below_drewN | apply below_drew1) | exact HB.out)⟩
                    · rw [if_neg c26] at H
                      have c26b0 : (t419 == (t403.size : Int)) = false := beq_eq_false_iff_ne.mpr c26
                      have c26b1 : (t419 != (t403.size : Int)) = true := bne_iff_ne.mpr c26
                      obtain rfl := Option.some.inj H
                      obtain ⟨Ao30, co30, eo30⟩ := Kd.R_slice HO_7.out
                      subst eo30
                      go_wp2_with (first | (go_at_call 18; (with_reducible refine (comitiaref4_In.calls k2 _ _ t407 t417 _ ?side1 ?side2 A22.out).mono ?_); (case side1 => repeat (first | exact (Kd.R_reads' HO_7.out).2.2 | (with_reducible refine Kd.C_alloc ?_ _) | (with_reducible refine Kd.C_drewN ?_ _) | (with_reducible refine Kd.C_drew ?_))); (case side2 => exact (Kd.R_reads' HO_7.out).2.1); rintro e w' ⟨rfl, ⟨nd, rfl⟩⟩) | (go_at_call 19; (with_reducible refine (comitiaref4_Out.calls k2 _ _ t404 t418 _ ?side1 ?side2 A23.out).mono ?_); (case side1 => repeat (first | exact (Kd.R_reads' HO_6.out).2.2 | (with_reducible refine Kd.C_alloc ?_ _) | (with_reducible refine Kd.C_drewN ?_ _) | (with_reducible refine Kd.C_drew ?_))); (case side2 => exact (Kd.R_reads' HO_6.out).2.1); rintro e w' ⟨rfl, ⟨nd, rfl⟩⟩) | (go_at_call 19; (with_reducible refine (comitiaref4_Out.calls k2 _ _ t407 t419 _ ?side1 ?side2 A25.out).mono ?_); (case side1 => repeat (first | exact (Kd.R_reads' HO_7.out).2.2 | (with_reducible refine Kd.C_alloc ?_ _) | (with_reducible refine Kd.C_drewN ?_ _) | (with_reducible refine Kd.C_drew ?_))); (case side2 => exact (Kd.R_reads' HO_7.out).2.1); rintro e w' ⟨rfl, ⟨nd, rfl⟩⟩))
                      go_ret
                      exact ⟨by first | rfl | (simp [errW_none, errW_some] <;> rfl) | (simp [*, errW_none, errW_some] <;> rfl), by repeat (first | (with_reducible first | exact HB.out | apply below_alloc | apply pw_below_drewN | apply below_drew1) | exact HB.out)⟩
                  · rw [if_neg c24] at H
                    have c24b0 : (t417 == t418) = false := beq_eq_false_iff_ne.mpr c24
                    have c24b1 : (t417 != t418) = true := bne_iff_ne.mpr c24
                    obtain rfl := Option.some.inj H
                    obtain ⟨Ao31, co31, eo31⟩ := Kd.R_slice HO_7.out
                    subst eo31
                    go_wp2_with (first | (go_at_call 18; (with_reducible refine (comitiaref4_In.calls k2 _ _ t407 t417 _ ?side1 ?side2 A22.out).mono ?_); (case side1 => repeat (first | exact (Kd.R_reads' HO_7.out).2.2 | (with_reducible refine Kd.C_alloc ?_ _) | (with_reducible refine Kd.C_drewN ?_ _) | (with_reducible refine Kd.C_drew ?_))); (case side2 => exact (Kd.R_reads' HO_7.out).2.1); rintro e w' ⟨rfl, ⟨nd, rfl⟩⟩) | (go_at_call 19; (with_reducible refine (comitiaref4_Out.calls k2 _ _ t404 t418 _ ?side1 ?side2 A23.out).mono ?_); (case side1 => repeat (first | exact (Kd.R_reads' HO_6.out).2.2 | (with_reducible refine Kd.C_alloc ?_ _) | (with_reducible refine Kd.C_drewN ?_ _) | (with_reducible refine Kd.C_drew ?_))); (case side2 => exact (Kd.R_reads' HO_6.out).2.1); rintro e w' ⟨rfl, ⟨nd, rfl⟩⟩))
                    go_ret
                    exact ⟨by first | rfl | (simp [errW_none, errW_some] <;> rfl) | (simp [*, errW_none, errW_some] <;> rfl), by repeat (first | (with_reducible first | exact HB.out | apply below_alloc | apply pw_below_drewN | apply below_drew1) | exact HB.out)⟩
                · rw [if_neg c21] at H
                  have c21b0 : (t408 == 0) = false := beq_eq_false_iff_ne.mpr c21
                  have c21b1 : (t408 != 0) = true := bne_iff_ne.mpr c21
                  obtain rfl := Option.some.inj H
                  obtain ⟨Ao32, co32, eo32⟩ := Kd.R_slice HO_7.out
                  subst eo32
                  go_wp2
                  go_ret
                  exact ⟨by first | rfl | (simp [errW_none, errW_some] <;> rfl) | (simp [*, errW_none, errW_some] <;> rfl), by repeat (first | (with_reducible first | exact HB.out | apply below_alloc | apply pw_below_drewN | apply below_drew1) | exact HB.out)⟩
  · replace c4 := Bool.eq_false_iff.mpr c4
    subst c4
    have H1 : (some false) = some r := by rw [if_neg (show ¬ (false = true) by decide)] at H; exact H
    clear H
    have H := H1
    clear H1
    obtain rfl := Option.some.inj H
    go_enter Try.func8, Try.ntmps8
    go_wp2_with (first | ((with_reducible refine gate_callee (f := 9) rfl ?_); refine goesL_ (some 15) rfl rfl Try.func9 (by kernel_rfl) rfl #[] rfl (by (try simp only [List.map_toArray, List.map_cons, List.map_nil]); first | done | rfl | (simp only [List.length_drop, List.length_take]; rfl)) ?_; (with_reducible refine (comitialaw6_known.calls  false _ A3.out).mono ?_); rintro e w33 ⟨rfl, hb⟩; refine ⟨_, rfl, ?_⟩; have n0_ := Aside0.mk (below_step (by repeat (first | (with_reducible first | exact HB.out | apply below_alloc | apply pw_below_drewN | apply below_drew1) | exact HB.out)) hb); clear HB; have HB := n0_; clear n0_; (try clear hb); (try clear hb2); (try clear hk); (try clear hi)))
    go_ret
    exact ⟨by first | rfl | (simp [errW_none, errW_some] <;> rfl) | (simp [*, errW_none, errW_some] <;> rfl), by repeat (first | (with_reducible first | exact HB.out | apply below_alloc | apply pw_below_drewN | apply below_drew1) | exact HB.out)⟩

/-- THE ONE PURE STATEMENT of comitialaw6_InvertLengths: yours. -/
def comitialaw6_InvertLengths.Pure : Prop := ∀ (l0 : List Int) (l1 : List Int), l0.length ≤ maxLen → l0.length * 1 ≤ 140737488351232 → (∀ x ∈ l0, (Lit.int .u8 x).wf = true) → l1.length ≤ maxLen → l1.length * 8 ≤ 140737488351232 → (∀ x ∈ l1, (Lit.int .i64 x).wf = true) → ∃ k, comitialaw6_InvertLengths.f k l0 l1 = some true
theorem comitialaw6_InvertLengths.walk (P : comitialaw6_InvertLengths.Pure) (a0 : Option Addr) (len0 cap0 : Nat) (z0 : List Int) (a1 : Option Addr) (len1 cap1 : Nat) (z1 : List Int) (w : World) (w0 : (a0 = none ∧ len0 = 0 ∧ cap0 = 0 ∧ z0 = []) ∨ ∃ x, a0 = some x ∧ len0 ≤ cap0 ∧ cap0 ≤ maxLen ∧ z0.length = cap0 ∧ (∀ i, i < z0.length → w.cell? (x.add i) = some (.int .u8 (z0.getD i 0))) ∧ ∀ n ∈ z0, (Lit.int .u8 n).wf = true) (y0 : len0 * 1 ≤ 140737488351232) (w1 : (a1 = none ∧ len1 = 0 ∧ cap1 = 0 ∧ z1 = []) ∨ ∃ x, a1 = some x ∧ len1 ≤ cap1 ∧ cap1 ≤ maxLen ∧ z1.length = cap1 ∧ (∀ i, i < z1.length → w.cell? (x.add i) = some (.int .i64 (z1.getD i 0))) ∧ ∀ n ∈ z1, (Lit.int .i64 n).wf = true) (y1 : len1 * 8 ≤ 140737488351232) :
    Calls Try.prog 8 #[.slice a0 len0 cap0, .slice a1 len1 cap1] w fun e w' => e = .returned (.bool true) ∧ Below w.heap.size w w' := by
  obtain ⟨l0, rfl, hr0, hm0, hw0, hc0⟩ := ReadsInt.ofRowC w0
  obtain ⟨l1, rfl, hr1, hm1, hw1, hc1⟩ := ReadsInt.ofRowC w1
  obtain ⟨k, h⟩ := P l0 l1 hm0 y0 hw0 hm1 y1 hw1
  refine (comitialaw6_InvertLengths.calls k _ _ l0 _ _ l1 true w (Kd.C_of_reads (d := (0 : Int)) (h1 := fun _ => rfl) hr0) hc0 (Kd.C_of_reads (d := (0 : Int)) (h1 := fun _ => rfl) hr1) hc1 h).mono ?_
  rintro e w' ⟨rfl, hd⟩
  exact ⟨rfl, hd⟩

end Go.Proofs.Ytmkblbkijjabdaa.Q

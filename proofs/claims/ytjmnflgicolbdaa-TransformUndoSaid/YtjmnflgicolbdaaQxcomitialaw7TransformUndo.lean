/- Contracts of Go functions: each call answers what the Lean function of its name answers. Conditions: stand in each theorem. Written by this seat's own program over the kit's printer. -/
import Derived.Test.YtjmnflgicolbdaaQ0
import Derived.Test.YtjmnflgicolbdaaQxcm
import Derived.Test.YtjmnflgicolbdaaQxcomitiaref4In
import Derived.Test.YtjmnflgicolbdaaQxcomitialaw7known
import Derived.Test.YtjmnflgicolbdaaQxcomitialaw7few
import Derived.Test.YtjmnflgicolbdaaQxcomitialaw4Make
import Derived.Test.YtjmnflgicolbdaaQxtransformOver
import Derived.Test.YtjmnflgicolbdaaQxcomitiaref6Op
namespace Go.Proofs.Ytjmnflgicolbdaa.Q
open Go.RowKit Go.Proofs.YtjmnflgicolbdaaW.PrintWords Go.Proofs.YtjmnflgicolbdaaW.PrintLast Go.Proofs.YtjmnflgicolbdaaW.PrintMore
attribute [local go_sem] max2_int min2_int max_two min_two max_three min_three max_four min_four   -- for this text's walks alone
set_option linter.unusedVariables false
set_option linter.unusedSimpArgs false

/-! ### comitialaw7_TransformUndo: function 11 -/
mutual
def comitialaw7_TransformUndo.j0 : Nat → List (S43) → List (S43) → Bool → Option (Bool)
  | 0, _, _, _ => none
  | k + 1, x8, x12, x56 => if x56 = true then (some false) else (comitialaw7_TransformUndo.l0 k x8 x12 0 0 0)
def comitialaw7_TransformUndo.l0 : Nat → List (S43) → List (S43) → Int → Int → Int → Option (Bool)
  | 0, _, _, _, _, _ => none
  | k + 1, x8, x12, x14, x15, x16 => if x16 < (x8.length : Int) then (if 0 ≤ x16 then (comitialaw7_TransformUndo.l0 k x8 x12 (wrap64 (x14 + (((rd_T43 x8 x16).f2).size : Int))) x15 (wrap64 (x16 + 1))) else (none)) else (comitialaw7_TransformUndo.l1 k x12 x14 x15 0)
def comitialaw7_TransformUndo.l1 : Nat → List (S43) → Int → Int → Int → Option (Bool)
  | 0, _, _, _, _ => none
  | k + 1, x12, x14, x15, x17 => if x17 < (x12.length : Int) then (if 0 ≤ x17 then (comitialaw7_TransformUndo.l1 k x12 x14 (wrap64 (x15 + (((rd_T43 x12 x17).f2).size : Int))) (wrap64 (x17 + 1))) else (none)) else (some (x14 == x15))
end
def comitialaw7_TransformUndo.f (k : Nat) (l0 : List Int) (l1 : List Int) (l2 : List Int) : Option (Bool) := (comitialaw7_known.f k).bind fun t247 => (if t247 = true then ((comitialaw7_few.f l0).bind fun t248 => ((comitialaw4_Make.f k (t248.size : Int) l1).bind fun t249 => ((comitialaw4_Make.f k (t248.size : Int) l2).bind fun t252 => ((comitiaref6_Op.f k t248 t252).bind fun bt255 => ((transform_Over.f k t249 (([t252, bt255.1] : List (List (S43))))).bind fun bt262 => (if bt262.2 = 0 then (if bt255.2 = 0 then ((comitiaref4_In.f k bt262.1).bind fun t266 => (comitialaw7_TransformUndo.j0 k t249 bt262.1 (t266 != (t248.size : Int)))) else (comitialaw7_TransformUndo.j0 k t249 bt262.1 true)) else (comitialaw7_TransformUndo.j0 k t249 bt262.1 true))))))) else (some false))
theorem comitialaw7_TransformUndo.mono_l : ∀ k, (∀ y0 y1 y2, LeO (comitialaw7_TransformUndo.j0 k y0 y1 y2) (comitialaw7_TransformUndo.j0 (k + 1) y0 y1 y2)) ∧ (∀ y0 y1 y2 y3 y4, LeO (comitialaw7_TransformUndo.l0 k y0 y1 y2 y3 y4) (comitialaw7_TransformUndo.l0 (k + 1) y0 y1 y2 y3 y4)) ∧ (∀ y0 y1 y2 y3, LeO (comitialaw7_TransformUndo.l1 k y0 y1 y2 y3) (comitialaw7_TransformUndo.l1 (k + 1) y0 y1 y2 y3))
  | 0 => ⟨fun _ _ _ r h => by simp [comitialaw7_TransformUndo.j0] at h, fun _ _ _ _ _ r h => by simp [comitialaw7_TransformUndo.l0] at h, fun _ _ _ _ r h => by simp [comitialaw7_TransformUndo.l1] at h⟩
  | k + 1 => by
    obtain ⟨ih0, ih1, ih2⟩ := comitialaw7_TransformUndo.mono_l k
    refine ⟨?_, ?_, ?_⟩
    · intro y0 y1 y2
      unfold comitialaw7_TransformUndo.j0
      repeat' first
      | (with_reducible exact ih0 _ _ _)
      | (with_reducible exact ih1 _ _ _ _ _)
      | (with_reducible exact ih2 _ _ _ _)
      | (with_reducible exact comitialaw4_Make.mono _ _ _)
      | (with_reducible exact comitialaw7_known.mono _)
      | (with_reducible exact comitiaref4_In.mono _ _)
      | (with_reducible exact comitiaref6_Op.mono _ _ _)
      | (with_reducible exact transform_Over.mono _ _ _)
      | (with_reducible exact LeO.refl _)
      | (with_reducible exact LeO.none _)
      | (with_reducible refine LeO.ite ?_ ?_)
      | (with_reducible refine LeO.bind ?_ (fun _ => ?_))
      | exact ih0 _ _ _
      | exact ih1 _ _ _ _ _
      | exact ih2 _ _ _ _
      | exact comitialaw4_Make.mono _ _ _
      | exact comitialaw7_known.mono _
      | exact comitiaref4_In.mono _ _
      | exact comitiaref6_Op.mono _ _ _
      | exact transform_Over.mono _ _ _
      | exact LeO.none _
      | refine LeO.ite ?_ ?_
      | refine LeO.bind ?_ (fun _ => ?_)
    · intro y0 y1 y2 y3 y4
      unfold comitialaw7_TransformUndo.l0
      repeat' first
      | (with_reducible exact ih0 _ _ _)
      | (with_reducible exact ih1 _ _ _ _ _)
      | (with_reducible exact ih2 _ _ _ _)
      | (with_reducible exact comitialaw4_Make.mono _ _ _)
      | (with_reducible exact comitialaw7_known.mono _)
      | (with_reducible exact comitiaref4_In.mono _ _)
      | (with_reducible exact comitiaref6_Op.mono _ _ _)
      | (with_reducible exact transform_Over.mono _ _ _)
      | (with_reducible exact LeO.refl _)
      | (with_reducible exact LeO.none _)
      | (with_reducible refine LeO.ite ?_ ?_)
      | (with_reducible refine LeO.bind ?_ (fun _ => ?_))
      | exact ih0 _ _ _
      | exact ih1 _ _ _ _ _
      | exact ih2 _ _ _ _
      | exact comitialaw4_Make.mono _ _ _
      | exact comitialaw7_known.mono _
      | exact comitiaref4_In.mono _ _
      | exact comitiaref6_Op.mono _ _ _
      | exact transform_Over.mono _ _ _
      | exact LeO.none _
      | refine LeO.ite ?_ ?_
      | refine LeO.bind ?_ (fun _ => ?_)
    · intro y0 y1 y2 y3
      unfold comitialaw7_TransformUndo.l1
      repeat' first
      | (with_reducible exact ih0 _ _ _)
      | (with_reducible exact ih1 _ _ _ _ _)
      | (with_reducible exact ih2 _ _ _ _)
      | (with_reducible exact comitialaw4_Make.mono _ _ _)
      | (with_reducible exact comitialaw7_known.mono _)
      | (with_reducible exact comitiaref4_In.mono _ _)
      | (with_reducible exact comitiaref6_Op.mono _ _ _)
      | (with_reducible exact transform_Over.mono _ _ _)
      | (with_reducible exact LeO.refl _)
      | (with_reducible exact LeO.none _)
      | (with_reducible refine LeO.ite ?_ ?_)
      | (with_reducible refine LeO.bind ?_ (fun _ => ?_))
      | exact ih0 _ _ _
      | exact ih1 _ _ _ _ _
      | exact ih2 _ _ _ _
      | exact comitialaw4_Make.mono _ _ _
      | exact comitialaw7_known.mono _
      | exact comitiaref4_In.mono _ _
      | exact comitiaref6_Op.mono _ _ _
      | exact transform_Over.mono _ _ _
      | exact LeO.none _
      | refine LeO.ite ?_ ?_
      | refine LeO.bind ?_ (fun _ => ?_)
theorem comitialaw7_TransformUndo.mono : ∀ a0 a1 a2 k, LeO (comitialaw7_TransformUndo.f k a0 a1 a2) (comitialaw7_TransformUndo.f (k + 1) a0 a1 a2) := by
  intro a0 a1 a2 k
  obtain ⟨ih0, ih1, ih2⟩ := comitialaw7_TransformUndo.mono_l k
  unfold comitialaw7_TransformUndo.f
  repeat' first
      | (with_reducible exact ih0 _ _ _)
      | (with_reducible exact ih1 _ _ _ _ _)
      | (with_reducible exact ih2 _ _ _ _)
      | (with_reducible exact comitialaw4_Make.mono _ _ _)
      | (with_reducible exact comitialaw7_known.mono _)
      | (with_reducible exact comitiaref4_In.mono _ _)
      | (with_reducible exact comitiaref6_Op.mono _ _ _)
      | (with_reducible exact transform_Over.mono _ _ _)
      | (with_reducible exact LeO.refl _)
      | (with_reducible exact LeO.none _)
      | (with_reducible refine LeO.ite ?_ ?_)
      | (with_reducible refine LeO.bind ?_ (fun _ => ?_))
      | exact ih0 _ _ _
      | exact ih1 _ _ _ _ _
      | exact ih2 _ _ _ _
      | exact comitialaw4_Make.mono _ _ _
      | exact comitialaw7_known.mono _
      | exact comitiaref4_In.mono _ _
      | exact comitiaref6_Op.mono _ _ _
      | exact transform_Over.mono _ _ _
      | exact LeO.none _
      | refine LeO.ite ?_ ?_
      | refine LeO.bind ?_ (fun _ => ?_)
set_option maxHeartbeats 8000000 in
set_option maxRecDepth 100000 in
theorem comitialaw7_TransformUndo.calls (k : Nat) (A0 : Option Addr) (c0 : Nat) (l0 : List Int) (A1 : Option Addr) (c1 : Nat) (l1 : List Int) (A2 : Option Addr) (c2 : Nat) (l2 : List Int) (r : Bool) (w : World) (hr0 : Kd.C (Kd.int .u8) w A0 l0.length l0) (hc0 : l0.length ≤ c0) (hr1 : Kd.C (Kd.int .i64) w A1 l1.length l1) (hc1 : l1.length ≤ c1) (hr2 : Kd.C (Kd.int .i64) w A2 l2.length l2) (hc2 : l2.length ≤ c2) (h : comitialaw7_TransformUndo.f k l0 l1 l2 = some r) :
    Calls Try.prog 11 #[.slice A0 l0.length c0, .slice A1 l1.length c1, .slice A2 l2.length c2] w fun e w' => e = .returned (.bool r) ∧ Below w.heap.size w w' := by
  have HR0 := Aside0.mk hr0
  have HC0 := Aside0.mk hc0
  clear hr0 hc0
  have HR1 := Aside0.mk hr1
  have HC1 := Aside0.mk hc1
  clear hr1 hc1
  have HR2 := Aside0.mk hr2
  have HC2 := Aside0.mk hc2
  clear hr2 hc2
  have HB := Aside0.mk (Below.refl w.heap.size w)
  have H : ((comitialaw7_known.f k).bind fun t247 => (if t247 = true then ((comitialaw7_few.f l0).bind fun t248 => ((comitialaw4_Make.f k (t248.size : Int) l1).bind fun t249 => ((comitialaw4_Make.f k (t248.size : Int) l2).bind fun t252 => ((comitiaref6_Op.f k t248 t252).bind fun bt255 => ((transform_Over.f k t249 (([t252, bt255.1] : List (List (S43))))).bind fun bt262 => (if bt262.2 = 0 then (if bt255.2 = 0 then ((comitiaref4_In.f k bt262.1).bind fun t266 => (comitialaw7_TransformUndo.j0 k t249 bt262.1 (t266 != (t248.size : Int)))) else (comitialaw7_TransformUndo.j0 k t249 bt262.1 true)) else (comitialaw7_TransformUndo.j0 k t249 bt262.1 true))))))) else (some false))) = some r := h
  clear h
  replace H := Option.bind_eq_some_iff.mp H
  obtain ⟨t247, A40, H⟩ := H
  replace H : (if t247 = true then ((comitialaw7_few.f l0).bind fun t248 => ((comitialaw4_Make.f k (t248.size : Int) l1).bind fun t249 => ((comitialaw4_Make.f k (t248.size : Int) l2).bind fun t252 => ((comitiaref6_Op.f k t248 t252).bind fun bt255 => ((transform_Over.f k t249 (([t252, bt255.1] : List (List (S43))))).bind fun bt262 => (if bt262.2 = 0 then (if bt255.2 = 0 then ((comitiaref4_In.f k bt262.1).bind fun t266 => (comitialaw7_TransformUndo.j0 k t249 bt262.1 (t266 != (t248.size : Int)))) else (comitialaw7_TransformUndo.j0 k t249 bt262.1 true)) else (comitialaw7_TransformUndo.j0 k t249 bt262.1 true))))))) else (some false)) = some r := H
  have A4 := Aside0.mk A40
  clear A40
  by_cases c5 : t247 = true
  · subst c5
    have H1 : ((comitialaw7_few.f l0).bind fun t248 => ((comitialaw4_Make.f k (t248.size : Int) l1).bind fun t249 => ((comitialaw4_Make.f k (t248.size : Int) l2).bind fun t252 => ((comitiaref6_Op.f k t248 t252).bind fun bt255 => ((transform_Over.f k t249 (([t252, bt255.1] : List (List (S43))))).bind fun bt262 => (if bt262.2 = 0 then (if bt255.2 = 0 then ((comitiaref4_In.f k bt262.1).bind fun t266 => (comitialaw7_TransformUndo.j0 k t249 bt262.1 (t266 != (t248.size : Int)))) else (comitialaw7_TransformUndo.j0 k t249 bt262.1 true)) else (comitialaw7_TransformUndo.j0 k t249 bt262.1 true))))))) = some r := by rw [if_pos rfl] at H; exact H
    clear H
    have H := H1
    clear H1
    replace H := Option.bind_eq_some_iff.mp H
    obtain ⟨t248, A60, H⟩ := H
    replace H : ((comitialaw4_Make.f k (t248.size : Int) l1).bind fun t249 => ((comitialaw4_Make.f k (t248.size : Int) l2).bind fun t252 => ((comitiaref6_Op.f k t248 t252).bind fun bt255 => ((transform_Over.f k t249 (([t252, bt255.1] : List (List (S43))))).bind fun bt262 => (if bt262.2 = 0 then (if bt255.2 = 0 then ((comitiaref4_In.f k bt262.1).bind fun t266 => (comitialaw7_TransformUndo.j0 k t249 bt262.1 (t266 != (t248.size : Int)))) else (comitialaw7_TransformUndo.j0 k t249 bt262.1 true)) else (comitialaw7_TransformUndo.j0 k t249 bt262.1 true)))))) = some r := H
    have A6 := Aside0.mk A60
    clear A60
    replace H := Option.bind_eq_some_iff.mp H
    obtain ⟨t249, A70, H⟩ := H
    replace H : ((comitialaw4_Make.f k (t248.size : Int) l2).bind fun t252 => ((comitiaref6_Op.f k t248 t252).bind fun bt255 => ((transform_Over.f k t249 (([t252, bt255.1] : List (List (S43))))).bind fun bt262 => (if bt262.2 = 0 then (if bt255.2 = 0 then ((comitiaref4_In.f k bt262.1).bind fun t266 => (comitialaw7_TransformUndo.j0 k t249 bt262.1 (t266 != (t248.size : Int)))) else (comitialaw7_TransformUndo.j0 k t249 bt262.1 true)) else (comitialaw7_TransformUndo.j0 k t249 bt262.1 true))))) = some r := H
    have A7 := Aside0.mk A70
    clear A70
    replace H := Option.bind_eq_some_iff.mp H
    obtain ⟨t252, A80, H⟩ := H
    replace H : ((comitiaref6_Op.f k t248 t252).bind fun bt255 => ((transform_Over.f k t249 (([t252, bt255.1] : List (List (S43))))).bind fun bt262 => (if bt262.2 = 0 then (if bt255.2 = 0 then ((comitiaref4_In.f k bt262.1).bind fun t266 => (comitialaw7_TransformUndo.j0 k t249 bt262.1 (t266 != (t248.size : Int)))) else (comitialaw7_TransformUndo.j0 k t249 bt262.1 true)) else (comitialaw7_TransformUndo.j0 k t249 bt262.1 true)))) = some r := H
    have A8 := Aside0.mk A80
    clear A80
    replace H := Option.bind_eq_some_iff.mp H
    obtain ⟨⟨t255, t256⟩, A90, H⟩ := H
    replace H : ((transform_Over.f k t249 (([t252, t255] : List (List (S43))))).bind fun bt262 => (if bt262.2 = 0 then (if t256 = 0 then ((comitiaref4_In.f k bt262.1).bind fun t266 => (comitialaw7_TransformUndo.j0 k t249 bt262.1 (t266 != (t248.size : Int)))) else (comitialaw7_TransformUndo.j0 k t249 bt262.1 true)) else (comitialaw7_TransformUndo.j0 k t249 bt262.1 true))) = some r := H
    have A9 := Aside0.mk A90
    clear A90
    obtain ⟨y259, hy259⟩ : ∃ y_ : List (List (S43)), y_ = (([t252, t255] : List (List (S43)))) := ⟨_, rfl⟩
    replace H : ((transform_Over.f k t249 y259).bind fun bt262 => (if bt262.2 = 0 then (if t256 = 0 then ((comitiaref4_In.f k bt262.1).bind fun t266 => (comitialaw7_TransformUndo.j0 k t249 bt262.1 (t266 != (t248.size : Int)))) else (comitialaw7_TransformUndo.j0 k t249 bt262.1 true)) else (comitialaw7_TransformUndo.j0 k t249 bt262.1 true))) = some r := by first | (rw [hy259]; with_reducible exact H) | (have H2_ := (Option.bind_some _ _).symm.trans H; rw [hy259]; with_reducible exact H2_) | (have H2_ := (Option.bind_some _ _).symm.trans H; with_reducible exact H2_) | with_reducible exact H | (rw [hy259]; exact H) | exact H
    have Ny259 := Aside0.mk hy259
    clear hy259
    replace H := Option.bind_eq_some_iff.mp H
    obtain ⟨⟨t262, t263⟩, A100, H⟩ := H
    replace H : (if t263 = 0 then (if t256 = 0 then ((comitiaref4_In.f k t262).bind fun t266 => (comitialaw7_TransformUndo.j0 k t249 t262 (t266 != (t248.size : Int)))) else (comitialaw7_TransformUndo.j0 k t249 t262 true)) else (comitialaw7_TransformUndo.j0 k t249 t262 true)) = some r := H
    have A10 := Aside0.mk A100
    clear A100
    have HC11 := Aside0.mk H
    clear H
    go_enter Try.func11, Try.ntmps11
    go_upto_region 7 with (first | ((with_reducible refine gate_callee (f := 12) rfl ?_); refine goesL_ (some 18) rfl rfl Try.func12 (by kernel_rfl) rfl #[] rfl (by (try simp only [List.map_toArray, List.map_cons, List.map_nil]); first | done | rfl | (simp only [List.length_drop, List.length_take]; rfl)) ?_; (with_reducible refine (comitialaw7_known.calls k  true _ A4.out).mono ?_); rintro e w12 ⟨rfl, hb⟩; refine ⟨_, rfl, ?_⟩; have n0_ := Aside0.mk (below_step (by repeat (first | (with_reducible first | exact HB.out | apply below_alloc | apply pw_below_drewN | apply below_drew1) | exact HB.out)) hb); clear HB; have HB := n0_; clear n0_; (try clear hb); (try clear hb2); (try clear hk); (try clear hi)) | ((with_reducible refine gate_callee (f := 13) rfl ?_); refine goesL_ (some 21) rfl rfl Try.func13 (by kernel_rfl) rfl #[.slice A0 l0.length c0] rfl (by (try simp only [List.map_toArray, List.map_cons, List.map_nil]); first | done | rfl | (simp only [List.length_drop, List.length_take]; rfl)) ?_; (with_reducible refine (comitialaw7_few.calls _ _ l0 t248 _ ?side1 ?side2 A6.out).mono ?_); (case side1 => repeat (first | exact (Kd.C_below HR0.out HB.out) | (with_reducible refine Kd.C_alloc ?_ _) | (with_reducible refine Kd.C_drewN ?_ _) | (with_reducible refine Kd.C_drew ?_))); (case side2 => exact HC0.out); rintro e w13 ⟨rfl, hb⟩; refine ⟨_, rfl, ?_⟩; have n0_ := Aside0.mk (below_step (by repeat (first | (with_reducible first | exact HB.out | apply below_alloc | apply pw_below_drewN | apply below_drew1) | exact HB.out)) hb); clear HB; have HB := n0_; clear n0_; (try clear hb); (try clear hb2); (try clear hk); (try clear hi)) | ((with_reducible refine gate_callee (f := 14) rfl ?_); refine goesL_ (some 25) rfl rfl Try.func14 (by kernel_rfl) rfl #[.int .i64 (t248.size : Int), .slice A1 l1.length c1] rfl (by (try simp only [List.map_toArray, List.map_cons, List.map_nil]); first | done | rfl | (simp only [List.length_drop, List.length_take]; rfl)) ?_; (with_reducible refine (comitialaw4_Make.calls k (t248.size : Int) _ _ l1 t249 _ ?side1 ?side2 A7.out).mono ?_); (case side1 => repeat (first | exact (Kd.C_below HR1.out HB.out) | (with_reducible refine Kd.C_alloc ?_ _) | (with_reducible refine Kd.C_drewN ?_ _) | (with_reducible refine Kd.C_drew ?_))); (case side2 => exact HC1.out); rintro e w14 ⟨v250, rfl, ho0, hb⟩; refine ⟨_, rfl, ?_⟩; have n0_ := Aside0.mk (Kd.R_lower ho0 (below_size (by repeat (first | (with_reducible first | exact HB.out | apply below_alloc | apply pw_below_drewN | apply below_drew1) | exact HB.out)))); have n1_ := Aside0.mk (below_step (by repeat (first | (with_reducible first | exact HB.out | apply below_alloc | apply pw_below_drewN | apply below_drew1) | exact HB.out)) hb); clear HB; have HO251 := n0_; have HB := n1_; clear n0_ n1_; (try clear hb); (try clear hb2); (try clear hk); (try clear hi); (try clear ho0)) | ((with_reducible refine gate_callee (f := 14) rfl ?_); refine goesL_ (some 29) rfl rfl Try.func14 (by kernel_rfl) rfl #[.int .i64 (t248.size : Int), .slice A2 l2.length c2] rfl (by (try simp only [List.map_toArray, List.map_cons, List.map_nil]); first | done | rfl | (simp only [List.length_drop, List.length_take]; rfl)) ?_; (with_reducible refine (comitialaw4_Make.calls k (t248.size : Int) _ _ l2 t252 _ ?side1 ?side2 A8.out).mono ?_); (case side1 => repeat (first | exact (Kd.C_below HR2.out HB.out) | (with_reducible refine Kd.C_alloc ?_ _) | (with_reducible refine Kd.C_drewN ?_ _) | (with_reducible refine Kd.C_drew ?_))); (case side2 => exact HC2.out); rintro e w15 ⟨v253, rfl, ho0, hb⟩; refine ⟨_, rfl, ?_⟩; have n0_ := Aside0.mk (Kd.R_elder' (by (with_reducible repeat (first | apply Kd.R_alloc | apply Kd.R_drewN | apply Kd.R_drew)); exact HO251.out) (Kd.R_base ho0) hb); have n1_ := Aside0.mk (Kd.R_lower (Kd.R_new' ho0 (Kd.R_lt (by (with_reducible repeat (first | apply Kd.R_alloc | apply Kd.R_drewN | apply Kd.R_drew)); exact HO251.out))) (below_size (by repeat (first | (with_reducible first | exact HB.out | apply below_alloc | apply pw_below_drewN | apply below_drew1) | exact HB.out)))); have n2_ := Aside0.mk (below_step (by repeat (first | (with_reducible first | exact HB.out | apply below_alloc | apply pw_below_drewN | apply below_drew1) | exact HB.out)) hb); clear HO251; clear HB; have HO251 := n0_; have HO254 := n1_; have HB := n2_; clear n0_ n1_ n2_; (try clear hb); (try clear hb2); (try clear hk); (try clear hi); (try clear ho0); obtain ⟨Ao16, co16, eo16⟩ := Kd.R_slice HO254.out; subst eo16) | ((with_reducible refine gate_callee (f := 28) rfl ?_); refine goesL_ (some 33) rfl rfl Try.func28 (by kernel_rfl) rfl #[.string t248, .slice Ao16 t252.length co16] rfl (by (try simp only [List.map_toArray, List.map_cons, List.map_nil]); first | done | rfl | (simp only [List.length_drop, List.length_take]; rfl)) ?_; (with_reducible refine (comitiaref6_Op.calls k t248 _ _ t252 t255 t256 _ ?side1 ?side2 A9.out).mono ?_); (case side1 => repeat (first | exact (Kd.R_reads' HO254.out).2.2 | (with_reducible refine Kd.C_alloc ?_ _) | (with_reducible refine Kd.C_drewN ?_ _) | (with_reducible refine Kd.C_drew ?_))); (case side2 => exact (Kd.R_reads' HO254.out).2.1); rintro e w17 ⟨v257, rfl, ho0, hb⟩; refine ⟨_, rfl, ?_⟩; have n0_ := Aside0.mk (Kd.R_elder' (by (with_reducible repeat (first | apply Kd.R_alloc | apply Kd.R_drewN | apply Kd.R_drew)); exact HO251.out) (Kd.R_base ho0) hb); have n1_ := Aside0.mk (Kd.R_elder' (by (with_reducible repeat (first | apply Kd.R_alloc | apply Kd.R_drewN | apply Kd.R_drew)); exact HO254.out) (Kd.R_base ho0) hb); have n2_ := Aside0.mk (Kd.R_lower (Kd.R_new' (Kd.R_new' ho0 (Kd.R_lt (by (with_reducible repeat (first | apply Kd.R_alloc | apply Kd.R_drewN | apply Kd.R_drew)); exact HO251.out))) (Kd.R_lt (by (with_reducible repeat (first | apply Kd.R_alloc | apply Kd.R_drewN | apply Kd.R_drew)); exact HO254.out))) (below_size (by repeat (first | (with_reducible first | exact HB.out | apply below_alloc | apply pw_below_drewN | apply below_drew1) | exact HB.out)))); have n3_ := Aside0.mk (below_step (by repeat (first | (with_reducible first | exact HB.out | apply below_alloc | apply pw_below_drewN | apply below_drew1) | exact HB.out)) hb); clear HO251; clear HO254; clear HB; have HO251 := n0_; have HO254 := n1_; have HO258 := n2_; have HB := n3_; clear n0_ n1_ n2_ n3_; (try clear hb); (try clear hb2); (try clear hk); (try clear hi); (try clear ho0); obtain ⟨Ao18, co18, eo18⟩ := Kd.R_slice HO258.out; subst eo18) | ((with_reducible refine gate_dst (N := 40) rfl ?_); (try (refine gate_guard (by rfl) ?_; dsimp only)); refine Kd.N_lit (Kd.slice 43 k43) _ 27 ?hg (N' := 40) ?hd (xs := ([t252, t255] : List (List (S43)))) (inner := [.slice Ao16 t252.length co16, .slice Ao18 t255.length co18]) (ok := (fun k_ => some k_ ≠ (v250 : Value).ownBlock)) (okp := (fun k_ => some k_ ≠ (v250 : Value).ownBlock)) ?hr ?hp (fun _ hk => hk) ((show ∀ k_, w17.heap.size ≤ k_ → (fun k_ => some k_ ≠ (v250 : Value).ownBlock) k_ from fun k_ hk => Kd.fresh' (Kd.R_lt (by (with_reducible repeat (first | apply Kd.R_alloc | apply Kd.R_drewN | apply Kd.R_drew)); exact HO251.out)) k_ hk) _ (Nat.le_refl _)) (Below.refl _ _) (Nat.le_refl _) (by simp) ?_; (case hd => rfl); (case hg => rfl); (case hr => first | (go_simp; done) | (go_simp; rfl)); (case hp => exact (Reps.one (show Kd.FK (Kd.slice 43 k43) _ _ t252 [.slice Ao16 t252.length co16] from (Kd.FK_slice_mk (Kd.R_reads' (Kd.R_mono (ok' := (fun k_ => some k_ ≠ (v250 : Value).ownBlock)) (HO254.out) (fun k_ hk => hk.1.2))).2.1 (Kd.R_F (Kd.R_mono (ok' := (fun k_ => some k_ ≠ (v250 : Value).ownBlock)) (HO254.out) (fun k_ hk => hk.1.2))))) (Reps.one (show Kd.FK (Kd.slice 43 k43) _ _ t255 [.slice Ao18 t255.length co18] from (Kd.FK_slice_mk (Kd.R_reads' (Kd.R_mono (ok' := (fun k_ => some k_ ≠ (v250 : Value).ownBlock)) (HO258.out) (fun k_ hk => hk.1.2))).2.1 (Kd.R_F (Kd.R_mono (ok' := (fun k_ => some k_ ≠ (v250 : Value).ownBlock)) (HO258.out) (fun k_ hk => hk.1.2))))) (Reps.none _ _)))); intro v260 w19 ho20 hb hg_ hnew_; clear hg_ hnew_; (first | rw [← Ny259.out] at ho20 | (simp only [Int.reduceToNat] at ho20; rw [← Ny259.out] at ho20)); have n0_ := Aside0.mk (Kd.R_below (by (with_reducible repeat (first | apply Kd.R_alloc | apply Kd.R_drewN | apply Kd.R_drew)); exact HO251.out) hb); have n1_ := Aside0.mk (Kd.N_lower ho20 (below_size (by repeat (first | (with_reducible first | exact HB.out | apply below_alloc | apply pw_below_drewN | apply below_drew1) | exact HB.out)))); have n2_ := Aside0.mk (below_step (by repeat (first | (with_reducible first | exact HB.out | apply below_alloc | apply pw_below_drewN | apply below_drew1) | exact HB.out)) hb); clear HO251; clear HB; clear HO254; clear HO258; have HO251 := n0_; have HO261 := n1_; have HB := n2_; clear n0_ n1_ n2_; clear hb ho20; obtain ⟨Ao21, co21, eo21⟩ := Kd.R_slice HO251.out; subst eo21; obtain ⟨Ao22, co22, eo22⟩ := Kd.N_slice HO261.out; subst eo22) | ((with_reducible refine gate_callee (f := 27) rfl ?_); refine goesL_ (some 41) rfl rfl Try.func27 (by kernel_rfl) rfl #[.slice Ao21 t249.length co21, .slice Ao22 y259.length co22] rfl (by (try simp only [List.map_toArray, List.map_cons, List.map_nil]); first | done | rfl | (simp only [List.length_drop, List.length_take]; rfl)) ?_; (with_reducible refine (transform_Over.calls k _ _ t249 _ _ y259 t262 t263 _ ?side1 ?side2 ?side3 ?side4 A10.out).mono ?_); (case side1 => repeat (first | exact (Kd.R_reads' HO251.out).2.2 | (with_reducible refine Kd.C_alloc ?_ _) | (with_reducible refine Kd.C_drewN ?_ _) | (with_reducible refine Kd.C_drew ?_))); (case side2 => exact (Kd.R_reads' HO251.out).2.1); (case side3 => repeat (first | exact (Kd.N_reads' HO261.out).2.2 | (with_reducible refine Kd.C_alloc ?_ _) | (with_reducible refine Kd.C_drewN ?_ _) | (with_reducible refine Kd.C_drew ?_))); (case side4 => exact (Kd.N_reads' HO261.out).2.1); rintro e w23 ⟨v264, rfl, ho0, hb⟩; refine ⟨_, rfl, ?_⟩; have n0_ := Aside0.mk (Kd.R_elder' (by (with_reducible repeat (first | apply Kd.R_alloc | apply Kd.R_drewN | apply Kd.R_drew)); exact HO251.out) (Kd.R_base ho0) hb); have n1_ := Aside0.mk (Kd.N_elder' (by (with_reducible repeat (first | apply Kd.N_alloc | apply Kd.N_drewN | apply Kd.N_drew)); exact HO261.out) (Kd.R_base ho0) hb); have n2_ := Aside0.mk (Kd.R_lower (Kd.R_new' ho0 (Kd.R_lt (by (with_reducible repeat (first | apply Kd.R_alloc | apply Kd.R_drewN | apply Kd.R_drew)); exact HO251.out))) (below_size (by repeat (first | (with_reducible first | exact HB.out | apply below_alloc | apply pw_below_drewN | apply below_drew1) | exact HB.out)))); have n3_ := Aside0.mk (below_step (by repeat (first | (with_reducible first | exact HB.out | apply below_alloc | apply pw_below_drewN | apply below_drew1) | exact HB.out)) hb); clear HO251; clear HO261; clear HB; have HO251 := n0_; have HO261 := n1_; have HO265 := n2_; have HB := n3_; clear n0_ n1_ n2_ n3_; (try clear hb); (try clear hb2); (try clear hk); (try clear hi); (try clear ho0)))
    (try simp only [Act.put, List.setIfInBounds_toArray, List.set_cons_zero, List.set_cons_succ])
    go_cut [56] (fun v56 wc => ∃ (kq : Nat) (x56_10 : Bool), v56 = .bool x56_10 ∧ Aside0 (comitialaw7_TransformUndo.j0 kq t249 t262 x56_10 = some r) ∧ Aside0 (kq ≤ k) ∧ Aside0 (Kd.R k43 43 wc w.heap.size (fun k_ => some k_ ≠ (v264 : Value).ownBlock) (.slice Ao21 t249.length co21) t249) ∧ Aside0 (Kd.R k43 43 wc w.heap.size (fun k_ => some k_ ≠ ((.slice Ao21 t249.length co21) : Value).ownBlock) v264 t262) ∧ Aside0 (Below w.heap.size w wc))
    case first =>
      have H := HC11.out
      clear HC11
      by_cases c24 : t263 = 0
      · rw [if_pos c24] at H
        have c24b0 : (t263 == 0) = true := beq_iff_eq.mpr c24
        have c24b1 : (t263 != 0) = false := bne_eq_false_iff_eq.mpr c24
        clear c24
        (first | rw [c24b0] | rw [c24b1] | (simp only [i64_w, i32_w]; rw [c24b0]) | skip)
        by_cases c25 : t256 = 0
        · rw [if_pos c25] at H
          have c25b0 : (t256 == 0) = true := beq_iff_eq.mpr c25
          have c25b1 : (t256 != 0) = false := bne_eq_false_iff_eq.mpr c25
          clear c25
          replace H := Option.bind_eq_some_iff.mp H
          obtain ⟨t266, A260, H⟩ := H
          replace H : (comitialaw7_TransformUndo.j0 k t249 t262 (t266 != (t248.size : Int))) = some r := H
          have A26 := Aside0.mk A260
          clear A260
          have H' := Aside0.mk H
          clear H
          obtain ⟨Ao27, co27, eo27⟩ := Kd.R_slice HO265.out
          subst eo27
          go_wp2_with (first | (go_at_call 22; (with_reducible refine (comitiaref4_In.calls k _ _ t262 t266 _ ?side1 ?side2 A26.out).mono ?_); (case side1 => repeat (first | exact (Kd.R_reads' HO265.out).2.2 | (with_reducible refine Kd.C_alloc ?_ _) | (with_reducible refine Kd.C_drewN ?_ _) | (with_reducible refine Kd.C_drew ?_))); (case side2 => exact (Kd.R_reads' HO265.out).2.1); rintro e w' ⟨rfl, ⟨nd, rfl⟩⟩))
          go_meet
          case rel => exact ⟨_, ((t266 != (t248.size : Int))), (by first | rfl | (simp; done) | (simp [*]; done) | exact congrArg Value.bool (emp_ne _)), H', ⟨by first | omega | exact Nat.le_refl _⟩, ⟨by (with_reducible repeat (first | apply Kd.R_alloc | apply Kd.R_drewN | apply Kd.R_drew)); exact Kd.R_mono HO251.out (fun _ hk => hk.2)⟩, ⟨by (with_reducible repeat (first | apply Kd.R_alloc | apply Kd.R_drewN | apply Kd.R_drew)); exact Kd.R_mono HO265.out (fun _ hk => hk.2)⟩, ⟨by repeat (first | (with_reducible first | exact HB.out | apply below_alloc | apply pw_below_drewN | apply below_drew1) | exact HB.out)⟩⟩
        · rw [if_neg c25] at H
          have c25b0 : (t256 == 0) = false := beq_eq_false_iff_ne.mpr c25
          have c25b1 : (t256 != 0) = true := bne_iff_ne.mpr c25
          have H' := Aside0.mk H
          clear H
          go_wp2
          go_meet
          case rel => exact ⟨_, (true), (by first | rfl | (simp; done) | (simp [*]; done) | exact congrArg Value.bool (emp_ne _)), H', ⟨by first | omega | exact Nat.le_refl _⟩, ⟨by (with_reducible repeat (first | apply Kd.R_alloc | apply Kd.R_drewN | apply Kd.R_drew)); exact Kd.R_mono HO251.out (fun _ hk => hk.2)⟩, ⟨by (with_reducible repeat (first | apply Kd.R_alloc | apply Kd.R_drewN | apply Kd.R_drew)); exact Kd.R_mono HO265.out (fun _ hk => hk.2)⟩, ⟨by repeat (first | (with_reducible first | exact HB.out | apply below_alloc | apply pw_below_drewN | apply below_drew1) | exact HB.out)⟩⟩
      · rw [if_neg c24] at H
        have c24b0 : (t263 == 0) = false := beq_eq_false_iff_ne.mpr c24
        have c24b1 : (t263 != 0) = true := bne_iff_ne.mpr c24
        (first | rw [c24b0] | rw [c24b1] | (simp only [i64_w, i32_w]; rw [c24b0]) | skip)
        have H' := Aside0.mk H
        clear H
        go_wp2
        go_meet
        case rel => exact ⟨_, (true), (by first | rfl | (simp; done) | (simp [*]; done) | exact congrArg Value.bool (emp_ne _)), H', ⟨by first | omega | exact Nat.le_refl _⟩, ⟨by (with_reducible repeat (first | apply Kd.R_alloc | apply Kd.R_drewN | apply Kd.R_drew)); exact Kd.R_mono HO251.out (fun _ hk => hk.2)⟩, ⟨by (with_reducible repeat (first | apply Kd.R_alloc | apply Kd.R_drewN | apply Kd.R_drew)); exact Kd.R_mono HO265.out (fun _ hk => hk.2)⟩, ⟨by repeat (first | (with_reducible first | exact HB.out | apply below_alloc | apply pw_below_drewN | apply below_drew1) | exact HB.out)⟩⟩
    case rest =>
      clear HC11
      try clear c1
      try clear c2
      try clear p2
      try clear c5
      try clear c11
      try clear c12
      try clear c13
      try clear c14
      try clear c24
      try clear c24b0
      try clear c24b1
      try clear c25
      try clear c25b0
      try clear c25b1
      try clear c27
      obtain ⟨kq, x56_10, rfl, HA, HJ10, HO_8, HO_12, HB⟩ := hcut
      cases kq with
      | zero => exact absurd HA.out (by simp [comitialaw7_TransformUndo.j0])
      | succ kj10 =>
        have H := HA.out
        clear HA
        simp only [comitialaw7_TransformUndo.j0] at H
        by_cases c28 : x56_10 = true
        · subst c28
          have H1 : (some false) = some r := by rw [if_pos rfl] at H; exact H
          clear H
          have H := H1
          clear H1
          obtain rfl := Option.some.inj H
          go_wp2
          go_ret
          exact ⟨by first | rfl | (simp [errW_none, errW_some] <;> rfl) | (simp [*, errW_none, errW_some] <;> rfl), by repeat (first | (with_reducible first | exact HB.out | apply below_alloc | apply pw_below_drewN | apply below_drew1) | exact HB.out)⟩
        · replace c28 := Bool.eq_false_iff.mpr c28
          subst c28
          have H1 : (comitialaw7_TransformUndo.l0 kj10 t249 t262 0 0 0) = some r := by rw [if_neg (show ¬ (false = true) by decide)] at H; exact H
          clear H
          have H := H1
          clear H1
          have H' := Aside0.mk H
          clear H
          go_wp2
          go_loopg [14, 16] kj10 (fun kq v14 v16 w' => ∃ (x14_2 : Int) (x16_2 : Int), v14 = .int .i64 x14_2 ∧ v16 = .int .i64 x16_2 ∧ Aside0 (comitialaw7_TransformUndo.l0 kq t249 t262 x14_2 0 x16_2 = some r) ∧ Aside0 (kq ≤ kj10) ∧ Aside0 (Kd.R k43 43 w' w.heap.size (fun k_ => some k_ ≠ (v264 : Value).ownBlock) (.slice Ao21 t249.length co21) t249) ∧ Aside0 (Kd.R k43 43 w' w.heap.size (fun k_ => some k_ ≠ ((.slice Ao21 t249.length co21) : Value).ownBlock) v264 t262) ∧ Aside0 (Below w.heap.size w w'))
          case atStart => exact ⟨(0), (0), (by first | rfl | (simp; done) | (simp [*]; done) | exact congrArg Value.bool (emp_ne _)), (by first | rfl | (simp; done) | (simp [*]; done) | exact congrArg Value.bool (emp_ne _)), H', ⟨Nat.le_refl _⟩, ⟨by (with_reducible repeat (first | apply Kd.R_alloc | apply Kd.R_drewN | apply Kd.R_drew)); exact HO_8.out⟩, ⟨by (with_reducible repeat (first | apply Kd.R_alloc | apply Kd.R_drewN | apply Kd.R_drew)); exact HO_12.out⟩, ⟨by repeat (first | (with_reducible first | exact HB.out | apply below_alloc | apply pw_below_drewN | apply below_drew1) | exact HB.out)⟩⟩
          case round =>
            clear H'
            try clear c1
            try clear c2
            try clear p2
            try clear c5
            try clear c11
            try clear c12
            try clear c13
            try clear c14
            try clear c24
            try clear c24b0
            try clear c24b1
            try clear c25
            try clear c25b0
            try clear c25b1
            try clear c27
            try clear c28
            try clear p2
            obtain ⟨x14_2, x16_2, rfl, rfl, HA, HK2, HO_8, HO_12, HB⟩ := hrel
            cases gk with
            | zero => exact absurd HA.out (by simp [comitialaw7_TransformUndo.l0])
            | succ k2 =>
              have H := HA.out
              clear HA
              simp only [comitialaw7_TransformUndo.l0] at H
              by_cases c29 : x16_2 < (t249.length : Int)
              · rw [if_pos c29] at H
                have c29b0 : decide (x16_2 < (t249.length : Int)) = true := decide_eq_true c29
                clear c29
                by_cases c30 : 0 ≤ x16_2
                · rw [if_pos c30] at H
                  have c30b0 : decide (0 ≤ x16_2) = true := decide_eq_true c30
                  clear c30
                  have H' := Aside0.mk H
                  clear H
                  have p267 : 0 ≤ (x16_2 : Int) := of_decide_eq_true (by first | (with_reducible assumption) | assumption)
                  have q267 : x16_2 < (t249.length : Int) := of_decide_eq_true (by first | (with_reducible assumption) | assumption)
                  obtain ⟨ad267, e267, hx267_0, hx267_1, hx267_2⟩ := at_T43 (Kd.R_reads' HO_8.out).2.2 x16_2 p267 q267
                  cases e267
                  replace p267 := eq_true p267
                  replace q267 := eq_true q267
                  go_wp2
                  go_roundg k2
                  case measure => have := HJ10.out; have := HK2.out; omega
                  case rel => exact ⟨(wrap64 (x14_2 + (((rd_T43 t249 x16_2).f2).size : Int))), (wrap64 (x16_2 + 1)), (by first | rfl | (simp; done) | (simp [*]; done) | exact congrArg Value.bool (emp_ne _)), (by first | rfl | (simp; done) | (simp [*]; done) | exact congrArg Value.bool (emp_ne _)), H', ⟨by have := HJ10.out; have := HK2.out; omega⟩, ⟨by (with_reducible repeat (first | apply Kd.R_alloc | apply Kd.R_drewN | apply Kd.R_drew)); exact HO_8.out⟩, ⟨by (with_reducible repeat (first | apply Kd.R_alloc | apply Kd.R_drewN | apply Kd.R_drew)); exact HO_12.out⟩, ⟨by repeat (first | (with_reducible first | exact HB.out | apply below_alloc | apply pw_below_drewN | apply below_drew1) | exact HB.out)⟩⟩
                · rw [if_neg c30] at H
                  exact absurd H (by simp)
              · rw [if_neg c29] at H
                have c29b0 : decide (x16_2 < (t249.length : Int)) = false := decide_eq_false c29
                clear c29
                have H' := Aside0.mk H
                clear H
                go_wp2
                go_loopg [15, 17] k2 (fun kq v15 v17 w' => ∃ (x15_3 : Int) (x17_3 : Int), v15 = .int .i64 x15_3 ∧ v17 = .int .i64 x17_3 ∧ Aside0 (comitialaw7_TransformUndo.l1 kq t262 x14_2 x15_3 x17_3 = some r) ∧ Aside0 (kq ≤ k2) ∧ Aside0 (Kd.R k43 43 w' w.heap.size (fun _ => True) v264 t262) ∧ Aside0 (Below w.heap.size w w'))
                case atStart => exact ⟨(0), (0), (by first | rfl | (simp; done) | (simp [*]; done) | exact congrArg Value.bool (emp_ne _)), (by first | rfl | (simp; done) | (simp [*]; done) | exact congrArg Value.bool (emp_ne _)), H', ⟨Nat.le_refl _⟩, ⟨by (with_reducible repeat (first | apply Kd.R_alloc | apply Kd.R_drewN | apply Kd.R_drew)); exact Kd.R_mono HO_12.out (fun _ hk => trivial)⟩, ⟨by repeat (first | (with_reducible first | exact HB.out | apply below_alloc | apply pw_below_drewN | apply below_drew1) | exact HB.out)⟩⟩
                case round =>
                  clear H'
                  try clear c1
                  try clear c2
                  try clear p2
                  try clear q2
                  try clear hx2
                  try clear c3
                  try clear c5
                  try clear p6
                  try clear c11
                  try clear c12
                  try clear c13
                  try clear c14
                  try clear c24
                  try clear c24b0
                  try clear c24b1
                  try clear c25
                  try clear c25b0
                  try clear c25b1
                  try clear p26
                  try clear q26
                  try clear hx26
                  try clear c27
                  try clear c28
                  try clear c29
                  try clear c29b0
                  try clear c30
                  try clear c30b0
                  try clear hx267_0
                  try clear hx267_1
                  try clear hx267_2
                  try clear p2
                  try clear p267
                  try clear q267
                  obtain ⟨x15_3, x17_3, rfl, rfl, HA, HK3, HO_12, HB⟩ := hrel
                  cases gk with
                  | zero => exact absurd HA.out (by simp [comitialaw7_TransformUndo.l1])
                  | succ k3 =>
                    have H := HA.out
                    clear HA
                    simp only [comitialaw7_TransformUndo.l1] at H
                    by_cases c31 : x17_3 < (t262.length : Int)
                    · rw [if_pos c31] at H
                      have c31b0 : decide (x17_3 < (t262.length : Int)) = true := decide_eq_true c31
                      clear c31
                      by_cases c32 : 0 ≤ x17_3
                      · rw [if_pos c32] at H
                        have c32b0 : decide (0 ≤ x17_3) = true := decide_eq_true c32
                        clear c32
                        have H' := Aside0.mk H
                        clear H
                        obtain ⟨Ao33, co33, eo33⟩ := Kd.R_slice HO_12.out
                        subst eo33
                        have p268 : 0 ≤ (x17_3 : Int) := of_decide_eq_true (by first | (with_reducible assumption) | assumption)
                        have q268 : x17_3 < (t262.length : Int) := of_decide_eq_true (by first | (with_reducible assumption) | assumption)
                        obtain ⟨ad268, e268, hx268_0, hx268_1, hx268_2⟩ := at_T43 (Kd.R_reads' HO_12.out).2.2 x17_3 p268 q268
                        cases e268
                        replace p268 := eq_true p268
                        replace q268 := eq_true q268
                        go_wp2
                        go_roundg k3
                        case measure => have := HJ10.out; have := HK2.out; have := HK3.out; omega
                        case rel => exact ⟨(wrap64 (x15_3 + (((rd_T43 t262 x17_3).f2).size : Int))), (wrap64 (x17_3 + 1)), (by first | rfl | (simp; done) | (simp [*]; done) | exact congrArg Value.bool (emp_ne _)), (by first | rfl | (simp; done) | (simp [*]; done) | exact congrArg Value.bool (emp_ne _)), H', ⟨by have := HJ10.out; have := HK2.out; have := HK3.out; omega⟩, ⟨by (with_reducible repeat (first | apply Kd.R_alloc | apply Kd.R_drewN | apply Kd.R_drew)); exact HO_12.out⟩, ⟨by repeat (first | (with_reducible first | exact HB.out | apply below_alloc | apply pw_below_drewN | apply below_drew1) | exact HB.out)⟩⟩
                      · rw [if_neg c32] at H
                        exact absurd H (by simp)
                    · rw [if_neg c31] at H
                      have c31b0 : decide (x17_3 < (t262.length : Int)) = false := decide_eq_false c31
                      clear c31
                      obtain rfl := Option.some.inj H
                      obtain ⟨Ao34, co34, eo34⟩ := Kd.R_slice HO_12.out
                      subst eo34
                      go_wp2
                      go_ret
                      exact ⟨by first | rfl | (simp [errW_none, errW_some] <;> rfl) | (simp [*, errW_none, errW_some] <;> rfl), by repeat (first | (with_reducible first | exact HB.out | apply below_alloc | apply pw_below_drewN | apply below_drew1) | exact HB.out)⟩
  · replace c5 := Bool.eq_false_iff.mpr c5
    subst c5
    have H1 : (some false) = some r := by rw [if_neg (show ¬ (false = true) by decide)] at H; exact H
    clear H
    have H := H1
    clear H1
    obtain rfl := Option.some.inj H
    go_enter Try.func11, Try.ntmps11
    go_wp2_with (first | ((with_reducible refine gate_callee (f := 12) rfl ?_); refine goesL_ (some 18) rfl rfl Try.func12 (by kernel_rfl) rfl #[] rfl (by (try simp only [List.map_toArray, List.map_cons, List.map_nil]); first | done | rfl | (simp only [List.length_drop, List.length_take]; rfl)) ?_; (with_reducible refine (comitialaw7_known.calls k  false _ A4.out).mono ?_); rintro e w35 ⟨rfl, hb⟩; refine ⟨_, rfl, ?_⟩; have n0_ := Aside0.mk (below_step (by repeat (first | (with_reducible first | exact HB.out | apply below_alloc | apply pw_below_drewN | apply below_drew1) | exact HB.out)) hb); clear HB; have HB := n0_; clear n0_; (try clear hb); (try clear hb2); (try clear hk); (try clear hi)))
    go_ret
    exact ⟨by first | rfl | (simp [errW_none, errW_some] <;> rfl) | (simp [*, errW_none, errW_some] <;> rfl), by repeat (first | (with_reducible first | exact HB.out | apply below_alloc | apply pw_below_drewN | apply below_drew1) | exact HB.out)⟩

/-- THE ONE PURE STATEMENT of comitialaw7_TransformUndo: yours. -/
def comitialaw7_TransformUndo.Pure : Prop := ∀ (l0 : List Int) (l1 : List Int) (l2 : List Int), l0.length ≤ maxLen → l0.length * 1 ≤ 140737488351232 → (∀ x ∈ l0, (Lit.int .u8 x).wf = true) → l1.length ≤ maxLen → l1.length * 8 ≤ 140737488351232 → (∀ x ∈ l1, (Lit.int .i64 x).wf = true) → l2.length ≤ maxLen → l2.length * 8 ≤ 140737488351232 → (∀ x ∈ l2, (Lit.int .i64 x).wf = true) → ∃ k, comitialaw7_TransformUndo.f k l0 l1 l2 = some true
theorem comitialaw7_TransformUndo.walk (P : comitialaw7_TransformUndo.Pure) (a0 : Option Addr) (len0 cap0 : Nat) (z0 : List Int) (a1 : Option Addr) (len1 cap1 : Nat) (z1 : List Int) (a2 : Option Addr) (len2 cap2 : Nat) (z2 : List Int) (w : World) (w0 : (a0 = none ∧ len0 = 0 ∧ cap0 = 0 ∧ z0 = []) ∨ ∃ x, a0 = some x ∧ len0 ≤ cap0 ∧ cap0 ≤ maxLen ∧ z0.length = cap0 ∧ (∀ i, i < z0.length → w.cell? (x.add i) = some (.int .u8 (z0.getD i 0))) ∧ ∀ n ∈ z0, (Lit.int .u8 n).wf = true) (y0 : len0 * 1 ≤ 140737488351232) (w1 : (a1 = none ∧ len1 = 0 ∧ cap1 = 0 ∧ z1 = []) ∨ ∃ x, a1 = some x ∧ len1 ≤ cap1 ∧ cap1 ≤ maxLen ∧ z1.length = cap1 ∧ (∀ i, i < z1.length → w.cell? (x.add i) = some (.int .i64 (z1.getD i 0))) ∧ ∀ n ∈ z1, (Lit.int .i64 n).wf = true) (y1 : len1 * 8 ≤ 140737488351232) (w2 : (a2 = none ∧ len2 = 0 ∧ cap2 = 0 ∧ z2 = []) ∨ ∃ x, a2 = some x ∧ len2 ≤ cap2 ∧ cap2 ≤ maxLen ∧ z2.length = cap2 ∧ (∀ i, i < z2.length → w.cell? (x.add i) = some (.int .i64 (z2.getD i 0))) ∧ ∀ n ∈ z2, (Lit.int .i64 n).wf = true) (y2 : len2 * 8 ≤ 140737488351232) :
    Calls Try.prog 11 #[.slice a0 len0 cap0, .slice a1 len1 cap1, .slice a2 len2 cap2] w fun e w' => e = .returned (.bool true) ∧ Below w.heap.size w w' := by
  obtain ⟨l0, rfl, hr0, hm0, hw0, hc0⟩ := ReadsInt.ofRowC w0
  obtain ⟨l1, rfl, hr1, hm1, hw1, hc1⟩ := ReadsInt.ofRowC w1
  obtain ⟨l2, rfl, hr2, hm2, hw2, hc2⟩ := ReadsInt.ofRowC w2
  obtain ⟨k, h⟩ := P l0 l1 l2 hm0 y0 hw0 hm1 y1 hw1 hm2 y2 hw2
  refine (comitialaw7_TransformUndo.calls k _ _ l0 _ _ l1 _ _ l2 true w (Kd.C_of_reads (d := (0 : Int)) (h1 := fun _ => rfl) hr0) hc0 (Kd.C_of_reads (d := (0 : Int)) (h1 := fun _ => rfl) hr1) hc1 (Kd.C_of_reads (d := (0 : Int)) (h1 := fun _ => rfl) hr2) hc2 h).mono ?_
  rintro e w' ⟨rfl, hd⟩
  exact ⟨rfl, hd⟩

end Go.Proofs.Ytjmnflgicolbdaa.Q

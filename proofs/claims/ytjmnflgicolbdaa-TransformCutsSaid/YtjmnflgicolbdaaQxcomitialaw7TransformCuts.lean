/- Contracts of Go functions: each call answers what the Lean function of its name answers. Conditions: stand in each theorem. Written by this seat's own program over the kit's printer. -/
import Derived.Test.YtjmnflgicolbdaaQ0
import Derived.Test.YtjmnflgicolbdaaQxcm
import Derived.Test.YtjmnflgicolbdaaQxtransformPair
import Derived.Test.YtjmnflgicolbdaaQxcomitiaref4Apply
import Derived.Test.YtjmnflgicolbdaaQxcomitialaw7known
import Derived.Test.YtjmnflgicolbdaaQxcomitialaw7text
import Derived.Test.YtjmnflgicolbdaaQxcomitialaw7in
import Derived.Test.YtjmnflgicolbdaaQxcomitialaw7taken
namespace Go.Proofs.Ytjmnflgicolbdaa.Q
open Go.RowKit Go.Proofs.YtjmnflgicolbdaaW.PrintWords Go.Proofs.YtjmnflgicolbdaaW.PrintLast Go.Proofs.YtjmnflgicolbdaaW.PrintMore
attribute [local go_sem] max2_int min2_int max_two min_two max_three min_three max_four min_four   -- for this text's walks alone
set_option linter.unusedVariables false
set_option linter.unusedSimpArgs false

/-! ### comitialaw7_TransformCuts: function 9 -/
def comitialaw7_TransformCuts.l0 : Nat → Int → Int → Int → Int → Int → Int → ByteArray → ByteArray → Int → ByteArray → Int → ByteArray → Int → Option (Bool)
  | 0, _, _, _, _, _, _, _, _, _, _, _, _, _ => none
  | k + 1, x0, x1, x2, x3, x4, x15, x16, x21, x22, x23, x24, x25, x26 => if x26 < x0 then ((comitialaw7_in.f x0 x1 x2 x26).bind fun t307 => (if t307 = true then (comitialaw7_TransformCuts.l0 k x0 x1 x2 x3 x4 x15 x16 x21 x22 x23 x24 x25 (wrap64 (x26 + 1))) else ((comitialaw7_in.f x0 x3 x4 x26).bind fun t308 => (if t308 = true then (comitialaw7_TransformCuts.l0 k x0 x1 x2 x3 x4 x15 x16 x21 x22 x23 x24 x25 (wrap64 (x26 + 1))) else (if 0 ≤ x26 then (if x26 ≤ (wrap64 (x26 + 1)) then (if (wrap64 (x26 + 1)) ≤ (x16.size : Int) then (if x25.size + (x16.extract (x26 : Int).toNat ((wrap64 (x26 + 1)) : Int).toNat).size ≤ 9223372036854775807 then (comitialaw7_TransformCuts.l0 k x0 x1 x2 x3 x4 x15 x16 x21 x22 x23 x24 (x25 ++ (x16.extract (x26 : Int).toNat ((wrap64 (x26 + 1)) : Int).toNat)) (wrap64 (x26 + 1))) else (none)) else (none)) else (none)) else (none)))))) else (if x15 = 0 then (if x22 = 0 then (if x24 = 0 then (if x21.toList = x25.toList then (some (x23.toList == x25.toList)) else (some false)) else (some false)) else (some false)) else (some false))
def comitialaw7_TransformCuts.f (k : Nat) (a0 : Int) (a1 : Int) (a2 : Int) (a3 : Int) (a4 : Int) : Option (Bool) := (comitialaw7_known.f k).bind fun t284 => (if t284 = true then ((comitialaw7_taken.f k (1 + (mn (mx (Int.tmod a0 50) 0) 49)) a1 a2).bind fun t285 => ((comitialaw7_taken.f k (1 + (mn (mx (Int.tmod a0 50) 0) 49)) a3 a4).bind fun t288 => ((transform_Pair.f t285 t288).bind fun bt291 => ((comitialaw7_text.f k (1 + (mn (mx (Int.tmod a0 50) 0) 49))).bind fun t298 => ((comitiaref4_Apply.f k t298 t285).bind fun bt299 => ((comitiaref4_Apply.f k t298 t288).bind fun bt301 => ((comitiaref4_Apply.f k bt299.1 bt291.2.1).bind fun bt303 => ((comitiaref4_Apply.f k bt301.1 bt291.1).bind fun bt305 => (comitialaw7_TransformCuts.l0 k (1 + (mn (mx (Int.tmod a0 50) 0) 49)) a1 a2 a3 a4 bt291.2.2 t298 bt303.1 bt303.2 bt305.1 bt305.2 (⟨#[]⟩ : ByteArray) 0))))))))) else (some false))
theorem comitialaw7_TransformCuts.mono_l : ∀ k, (∀ y0 y1 y2 y3 y4 y5 y6 y7 y8 y9 y10 y11 y12, LeO (comitialaw7_TransformCuts.l0 k y0 y1 y2 y3 y4 y5 y6 y7 y8 y9 y10 y11 y12) (comitialaw7_TransformCuts.l0 (k + 1) y0 y1 y2 y3 y4 y5 y6 y7 y8 y9 y10 y11 y12))
  | 0 => fun _ _ _ _ _ _ _ _ _ _ _ _ _ r h => by simp [comitialaw7_TransformCuts.l0] at h
  | k + 1 => by
    have ih0 := comitialaw7_TransformCuts.mono_l k
    · intro y0 y1 y2 y3 y4 y5 y6 y7 y8 y9 y10 y11 y12
      unfold comitialaw7_TransformCuts.l0
      repeat' first
      | (with_reducible exact ih0 _ _ _ _ _ _ _ _ _ _ _ _ _)
      | (with_reducible exact comitialaw7_known.mono _)
      | (with_reducible exact comitialaw7_taken.mono _ _ _ _)
      | (with_reducible exact comitialaw7_text.mono _ _)
      | (with_reducible exact comitiaref4_Apply.mono _ _ _)
      | (with_reducible exact LeO.refl _)
      | (with_reducible exact LeO.none _)
      | (with_reducible refine LeO.ite ?_ ?_)
      | (with_reducible refine LeO.bind ?_ (fun _ => ?_))
      | exact ih0 _ _ _ _ _ _ _ _ _ _ _ _ _
      | exact comitialaw7_known.mono _
      | exact comitialaw7_taken.mono _ _ _ _
      | exact comitialaw7_text.mono _ _
      | exact comitiaref4_Apply.mono _ _ _
      | exact LeO.none _
      | refine LeO.ite ?_ ?_
      | refine LeO.bind ?_ (fun _ => ?_)
theorem comitialaw7_TransformCuts.mono : ∀ a0 a1 a2 a3 a4 k, LeO (comitialaw7_TransformCuts.f k a0 a1 a2 a3 a4) (comitialaw7_TransformCuts.f (k + 1) a0 a1 a2 a3 a4) := by
  intro a0 a1 a2 a3 a4 k
  have ih0 := comitialaw7_TransformCuts.mono_l k
  unfold comitialaw7_TransformCuts.f
  repeat' first
      | (with_reducible exact ih0 _ _ _ _ _ _ _ _ _ _ _ _ _)
      | (with_reducible exact comitialaw7_known.mono _)
      | (with_reducible exact comitialaw7_taken.mono _ _ _ _)
      | (with_reducible exact comitialaw7_text.mono _ _)
      | (with_reducible exact comitiaref4_Apply.mono _ _ _)
      | (with_reducible exact LeO.refl _)
      | (with_reducible exact LeO.none _)
      | (with_reducible refine LeO.ite ?_ ?_)
      | (with_reducible refine LeO.bind ?_ (fun _ => ?_))
      | exact ih0 _ _ _ _ _ _ _ _ _ _ _ _ _
      | exact comitialaw7_known.mono _
      | exact comitialaw7_taken.mono _ _ _ _
      | exact comitialaw7_text.mono _ _
      | exact comitiaref4_Apply.mono _ _ _
      | exact LeO.none _
      | refine LeO.ite ?_ ?_
      | refine LeO.bind ?_ (fun _ => ?_)
set_option maxHeartbeats 8000000 in
set_option maxRecDepth 100000 in
theorem comitialaw7_TransformCuts.calls (k : Nat) (a0 : Int) (a1 : Int) (a2 : Int) (a3 : Int) (a4 : Int) (r : Bool) (w : World) (h : comitialaw7_TransformCuts.f k a0 a1 a2 a3 a4 = some r) :
    Calls Try.prog 9 #[.int .i64 a0, .int .i64 a1, .int .i64 a2, .int .i64 a3, .int .i64 a4] w fun e w' => e = .returned (.bool r) ∧ Below w.heap.size w w' := by
  have HB := Aside0.mk (Below.refl w.heap.size w)
  have H : ((comitialaw7_known.f k).bind fun t284 => (if t284 = true then ((comitialaw7_taken.f k (1 + (mn (mx (Int.tmod a0 50) 0) 49)) a1 a2).bind fun t285 => ((comitialaw7_taken.f k (1 + (mn (mx (Int.tmod a0 50) 0) 49)) a3 a4).bind fun t288 => ((transform_Pair.f t285 t288).bind fun bt291 => ((comitialaw7_text.f k (1 + (mn (mx (Int.tmod a0 50) 0) 49))).bind fun t298 => ((comitiaref4_Apply.f k t298 t285).bind fun bt299 => ((comitiaref4_Apply.f k t298 t288).bind fun bt301 => ((comitiaref4_Apply.f k bt299.1 bt291.2.1).bind fun bt303 => ((comitiaref4_Apply.f k bt301.1 bt291.1).bind fun bt305 => (comitialaw7_TransformCuts.l0 k (1 + (mn (mx (Int.tmod a0 50) 0) 49)) a1 a2 a3 a4 bt291.2.2 t298 bt303.1 bt303.2 bt305.1 bt305.2 (⟨#[]⟩ : ByteArray) 0))))))))) else (some false))) = some r := h
  clear h
  replace H := Option.bind_eq_some_iff.mp H
  obtain ⟨t284, A60, H⟩ := H
  replace H : (if t284 = true then ((comitialaw7_taken.f k (1 + (mn (mx (Int.tmod a0 50) 0) 49)) a1 a2).bind fun t285 => ((comitialaw7_taken.f k (1 + (mn (mx (Int.tmod a0 50) 0) 49)) a3 a4).bind fun t288 => ((transform_Pair.f t285 t288).bind fun bt291 => ((comitialaw7_text.f k (1 + (mn (mx (Int.tmod a0 50) 0) 49))).bind fun t298 => ((comitiaref4_Apply.f k t298 t285).bind fun bt299 => ((comitiaref4_Apply.f k t298 t288).bind fun bt301 => ((comitiaref4_Apply.f k bt299.1 bt291.2.1).bind fun bt303 => ((comitiaref4_Apply.f k bt301.1 bt291.1).bind fun bt305 => (comitialaw7_TransformCuts.l0 k (1 + (mn (mx (Int.tmod a0 50) 0) 49)) a1 a2 a3 a4 bt291.2.2 t298 bt303.1 bt303.2 bt305.1 bt305.2 (⟨#[]⟩ : ByteArray) 0))))))))) else (some false)) = some r := H
  have A6 := Aside0.mk A60
  clear A60
  by_cases c7 : t284 = true
  · subst c7
    have H1 : ((comitialaw7_taken.f k (1 + (mn (mx (Int.tmod a0 50) 0) 49)) a1 a2).bind fun t285 => ((comitialaw7_taken.f k (1 + (mn (mx (Int.tmod a0 50) 0) 49)) a3 a4).bind fun t288 => ((transform_Pair.f t285 t288).bind fun bt291 => ((comitialaw7_text.f k (1 + (mn (mx (Int.tmod a0 50) 0) 49))).bind fun t298 => ((comitiaref4_Apply.f k t298 t285).bind fun bt299 => ((comitiaref4_Apply.f k t298 t288).bind fun bt301 => ((comitiaref4_Apply.f k bt299.1 bt291.2.1).bind fun bt303 => ((comitiaref4_Apply.f k bt301.1 bt291.1).bind fun bt305 => (comitialaw7_TransformCuts.l0 k (1 + (mn (mx (Int.tmod a0 50) 0) 49)) a1 a2 a3 a4 bt291.2.2 t298 bt303.1 bt303.2 bt305.1 bt305.2 (⟨#[]⟩ : ByteArray) 0))))))))) = some r := by rw [if_pos rfl] at H; exact H
    clear H
    have H := H1
    clear H1
    obtain ⟨ji8, hji8⟩ : ∃ j_ : Int, (mx (Int.tmod a0 50) 0) = j_ := ⟨_, rfl⟩
    replace H : ((comitialaw7_taken.f k (1 + (mn (ji8) 49)) a1 a2).bind fun t285 => ((comitialaw7_taken.f k (1 + (mn (ji8) 49)) a3 a4).bind fun t288 => ((transform_Pair.f t285 t288).bind fun bt291 => ((comitialaw7_text.f k (1 + (mn (ji8) 49))).bind fun t298 => ((comitiaref4_Apply.f k t298 t285).bind fun bt299 => ((comitiaref4_Apply.f k t298 t288).bind fun bt301 => ((comitiaref4_Apply.f k bt299.1 bt291.2.1).bind fun bt303 => ((comitiaref4_Apply.f k bt301.1 bt291.1).bind fun bt305 => (comitialaw7_TransformCuts.l0 k (1 + (mn (ji8) 49)) a1 a2 a3 a4 bt291.2.2 t298 bt303.1 bt303.2 bt305.1 bt305.2 (⟨#[]⟩ : ByteArray) 0))))))))) = some r := by first | (rw [hji8] at H; exact H) | (simp only [hji8] at H ⊢; exact H)
    (try rw [hji8] at A6)
    (try (have hji8l : 0 ≤ ji8 := by (rw [← hji8]; unfold mx; (repeat' split) <;> omega)))
    (try (have hji8m : 0 ≤ ji8 := by omega))
    have hji8_ : (if (Int.tmod a0 50) < 0 then 0 else (Int.tmod a0 50)) = ji8 := hji8
    obtain ⟨ji9, hji9⟩ : ∃ j_ : Int, (mn (ji8) 49) = j_ := ⟨_, rfl⟩
    replace H : ((comitialaw7_taken.f k (1 + (ji9)) a1 a2).bind fun t285 => ((comitialaw7_taken.f k (1 + (ji9)) a3 a4).bind fun t288 => ((transform_Pair.f t285 t288).bind fun bt291 => ((comitialaw7_text.f k (1 + (ji9))).bind fun t298 => ((comitiaref4_Apply.f k t298 t285).bind fun bt299 => ((comitiaref4_Apply.f k t298 t288).bind fun bt301 => ((comitiaref4_Apply.f k bt299.1 bt291.2.1).bind fun bt303 => ((comitiaref4_Apply.f k bt301.1 bt291.1).bind fun bt305 => (comitialaw7_TransformCuts.l0 k (1 + (ji9)) a1 a2 a3 a4 bt291.2.2 t298 bt303.1 bt303.2 bt305.1 bt305.2 (⟨#[]⟩ : ByteArray) 0))))))))) = some r := by first | (rw [hji9] at H; exact H) | (simp only [hji9] at H ⊢; exact H)
    (try rw [hji9] at A6)
    have hji9_ : (if 49 < (ji8) then 49 else (ji8)) = ji9 := hji9
    replace H := Option.bind_eq_some_iff.mp H
    obtain ⟨t285, A100, H⟩ := H
    replace H : ((comitialaw7_taken.f k (1 + (ji9)) a3 a4).bind fun t288 => ((transform_Pair.f t285 t288).bind fun bt291 => ((comitialaw7_text.f k (1 + (ji9))).bind fun t298 => ((comitiaref4_Apply.f k t298 t285).bind fun bt299 => ((comitiaref4_Apply.f k t298 t288).bind fun bt301 => ((comitiaref4_Apply.f k bt299.1 bt291.2.1).bind fun bt303 => ((comitiaref4_Apply.f k bt301.1 bt291.1).bind fun bt305 => (comitialaw7_TransformCuts.l0 k (1 + (ji9)) a1 a2 a3 a4 bt291.2.2 t298 bt303.1 bt303.2 bt305.1 bt305.2 (⟨#[]⟩ : ByteArray) 0)))))))) = some r := H
    have A10 := Aside0.mk A100
    clear A100
    replace H := Option.bind_eq_some_iff.mp H
    obtain ⟨t288, A110, H⟩ := H
    replace H : ((transform_Pair.f t285 t288).bind fun bt291 => ((comitialaw7_text.f k (1 + (ji9))).bind fun t298 => ((comitiaref4_Apply.f k t298 t285).bind fun bt299 => ((comitiaref4_Apply.f k t298 t288).bind fun bt301 => ((comitiaref4_Apply.f k bt299.1 bt291.2.1).bind fun bt303 => ((comitiaref4_Apply.f k bt301.1 bt291.1).bind fun bt305 => (comitialaw7_TransformCuts.l0 k (1 + (ji9)) a1 a2 a3 a4 bt291.2.2 t298 bt303.1 bt303.2 bt305.1 bt305.2 (⟨#[]⟩ : ByteArray) 0))))))) = some r := H
    have A11 := Aside0.mk A110
    clear A110
    replace H := Option.bind_eq_some_iff.mp H
    obtain ⟨⟨t291, t292, t293⟩, A120, H⟩ := H
    replace H : ((comitialaw7_text.f k (1 + (ji9))).bind fun t298 => ((comitiaref4_Apply.f k t298 t285).bind fun bt299 => ((comitiaref4_Apply.f k t298 t288).bind fun bt301 => ((comitiaref4_Apply.f k bt299.1 t292).bind fun bt303 => ((comitiaref4_Apply.f k bt301.1 t291).bind fun bt305 => (comitialaw7_TransformCuts.l0 k (1 + (ji9)) a1 a2 a3 a4 t293 t298 bt303.1 bt303.2 bt305.1 bt305.2 (⟨#[]⟩ : ByteArray) 0)))))) = some r := H
    have A12 := Aside0.mk A120
    clear A120
    replace H := Option.bind_eq_some_iff.mp H
    obtain ⟨t298, A130, H⟩ := H
    replace H : ((comitiaref4_Apply.f k t298 t285).bind fun bt299 => ((comitiaref4_Apply.f k t298 t288).bind fun bt301 => ((comitiaref4_Apply.f k bt299.1 t292).bind fun bt303 => ((comitiaref4_Apply.f k bt301.1 t291).bind fun bt305 => (comitialaw7_TransformCuts.l0 k (1 + (ji9)) a1 a2 a3 a4 t293 t298 bt303.1 bt303.2 bt305.1 bt305.2 (⟨#[]⟩ : ByteArray) 0))))) = some r := H
    have A13 := Aside0.mk A130
    clear A130
    replace H := Option.bind_eq_some_iff.mp H
    obtain ⟨⟨t299, t300⟩, A140, H⟩ := H
    replace H : ((comitiaref4_Apply.f k t298 t288).bind fun bt301 => ((comitiaref4_Apply.f k t299 t292).bind fun bt303 => ((comitiaref4_Apply.f k bt301.1 t291).bind fun bt305 => (comitialaw7_TransformCuts.l0 k (1 + (ji9)) a1 a2 a3 a4 t293 t298 bt303.1 bt303.2 bt305.1 bt305.2 (⟨#[]⟩ : ByteArray) 0)))) = some r := H
    have A14 := Aside0.mk A140
    clear A140
    replace H := Option.bind_eq_some_iff.mp H
    obtain ⟨⟨t301, t302⟩, A150, H⟩ := H
    replace H : ((comitiaref4_Apply.f k t299 t292).bind fun bt303 => ((comitiaref4_Apply.f k t301 t291).bind fun bt305 => (comitialaw7_TransformCuts.l0 k (1 + (ji9)) a1 a2 a3 a4 t293 t298 bt303.1 bt303.2 bt305.1 bt305.2 (⟨#[]⟩ : ByteArray) 0))) = some r := H
    have A15 := Aside0.mk A150
    clear A150
    replace H := Option.bind_eq_some_iff.mp H
    obtain ⟨⟨t303, t304⟩, A160, H⟩ := H
    replace H : ((comitiaref4_Apply.f k t301 t291).bind fun bt305 => (comitialaw7_TransformCuts.l0 k (1 + (ji9)) a1 a2 a3 a4 t293 t298 t303 t304 bt305.1 bt305.2 (⟨#[]⟩ : ByteArray) 0)) = some r := H
    have A16 := Aside0.mk A160
    clear A160
    replace H := Option.bind_eq_some_iff.mp H
    obtain ⟨⟨t305, t306⟩, A170, H⟩ := H
    replace H : (comitialaw7_TransformCuts.l0 k (1 + (ji9)) a1 a2 a3 a4 t293 t298 t303 t304 t305 t306 (⟨#[]⟩ : ByteArray) 0) = some r := H
    have A17 := Aside0.mk A170
    clear A170
    have H' := Aside0.mk H
    clear H
    go_enter Try.func9, Try.ntmps9
    go_wp2_with (first | ((with_reducible refine gate_callee (f := 12) rfl ?_); refine goesL_ (some 27) rfl rfl Try.func12 (by kernel_rfl) rfl #[] rfl (by (try simp only [List.map_toArray, List.map_cons, List.map_nil]); first | done | rfl | (simp only [List.length_drop, List.length_take]; rfl)) ?_; (with_reducible refine (comitialaw7_known.calls k  true _ A6.out).mono ?_); rintro e w18 ⟨rfl, hb⟩; refine ⟨_, rfl, ?_⟩; have n0_ := Aside0.mk (below_step (by repeat (first | (with_reducible first | exact HB.out | apply below_alloc | apply pw_below_drewN | apply below_drew1) | exact HB.out)) hb); clear HB; have HB := n0_; clear n0_; (try clear hb); (try clear hb2); (try clear hk); (try clear hi)) | ((with_reducible refine gate_callee (f := 24) rfl ?_); refine goesL_ (some 37) rfl rfl Try.func24 (by kernel_rfl) rfl #[.int .i64 (1 + (ji9)), .int .i64 a1, .int .i64 a2] rfl (by (try simp only [List.map_toArray, List.map_cons, List.map_nil]); first | done | (simp only [hji9]; rfl) | rfl | (simp only [List.length_drop, List.length_take]; rfl)) ?_; (with_reducible refine (comitialaw7_taken.calls k (1 + (ji9)) a1 a2 t285 _ A10.out).mono ?_); rintro e w19 ⟨v286, rfl, ho0, hb⟩; refine ⟨_, rfl, ?_⟩; have n0_ := Aside0.mk (Kd.R_lower ho0 (below_size (by repeat (first | (with_reducible first | exact HB.out | apply below_alloc | apply pw_below_drewN | apply below_drew1) | exact HB.out)))); have n1_ := Aside0.mk (below_step (by repeat (first | (with_reducible first | exact HB.out | apply below_alloc | apply pw_below_drewN | apply below_drew1) | exact HB.out)) hb); clear HB; have HO287 := n0_; have HB := n1_; clear n0_ n1_; (try clear hb); (try clear hb2); (try clear hk); (try clear hi); (try clear ho0)) | ((with_reducible refine gate_callee (f := 24) rfl ?_); refine goesL_ (some 41) rfl rfl Try.func24 (by kernel_rfl) rfl #[.int .i64 (1 + (ji9)), .int .i64 a3, .int .i64 a4] rfl (by (try simp only [List.map_toArray, List.map_cons, List.map_nil]); first | done | (simp only [hji9]; rfl) | rfl | (simp only [List.length_drop, List.length_take]; rfl)) ?_; (with_reducible refine (comitialaw7_taken.calls k (1 + (ji9)) a3 a4 t288 _ A11.out).mono ?_); rintro e w20 ⟨v289, rfl, ho0, hb⟩; refine ⟨_, rfl, ?_⟩; have n0_ := Aside0.mk (Kd.R_elder' (by (with_reducible repeat (first | apply Kd.R_alloc | apply Kd.R_drewN | apply Kd.R_drew)); exact HO287.out) (Kd.R_base ho0) hb); have n1_ := Aside0.mk (Kd.R_lower (Kd.R_new' ho0 (Kd.R_lt (by (with_reducible repeat (first | apply Kd.R_alloc | apply Kd.R_drewN | apply Kd.R_drew)); exact HO287.out))) (below_size (by repeat (first | (with_reducible first | exact HB.out | apply below_alloc | apply pw_below_drewN | apply below_drew1) | exact HB.out)))); have n2_ := Aside0.mk (below_step (by repeat (first | (with_reducible first | exact HB.out | apply below_alloc | apply pw_below_drewN | apply below_drew1) | exact HB.out)) hb); clear HO287; clear HB; have HO287 := n0_; have HO290 := n1_; have HB := n2_; clear n0_ n1_ n2_; (try clear hb); (try clear hb2); (try clear hk); (try clear hi); (try clear ho0); obtain ⟨Ao21, co21, eo21⟩ := Kd.R_slice HO287.out; subst eo21; obtain ⟨Ao22, co22, eo22⟩ := Kd.R_slice HO290.out; subst eo22) | ((with_reducible refine gate_callee (f := 15) rfl ?_); refine goesL_ (some 45) rfl rfl Try.func15 (by kernel_rfl) rfl #[.slice Ao21 t285.length co21, .slice Ao22 t288.length co22] rfl (by (try simp only [List.map_toArray, List.map_cons, List.map_nil]); first | done | rfl | (simp only [List.length_drop, List.length_take]; rfl)) ?_; (with_reducible refine (transform_Pair.calls _ _ t285 _ _ t288 t291 t292 t293 _ ?side1 ?side2 ?side3 ?side4 A12.out).mono ?_); (case side1 => repeat (first | exact (Kd.R_reads' HO287.out).2.2 | (with_reducible refine Kd.C_alloc ?_ _) | (with_reducible refine Kd.C_drewN ?_ _) | (with_reducible refine Kd.C_drew ?_))); (case side2 => exact (Kd.R_reads' HO287.out).2.1); (case side3 => repeat (first | exact (Kd.R_reads' HO290.out).2.2 | (with_reducible refine Kd.C_alloc ?_ _) | (with_reducible refine Kd.C_drewN ?_ _) | (with_reducible refine Kd.C_drew ?_))); (case side4 => exact (Kd.R_reads' HO290.out).2.1); rintro e w23 ⟨v294, v296, rfl, ho0, ho1, hb⟩; refine ⟨_, rfl, ?_⟩; have n0_ := Aside0.mk (Kd.R_mono (Kd.R_told (Kd.R_told (Kd.R_old (by (with_reducible repeat (first | apply Kd.R_alloc | apply Kd.R_drewN | apply Kd.R_drew)); exact HO287.out) hb) (Kd.R_base ho0)) (Kd.R_base ho1)) (fun _ h_ => h_.1)); have n1_ := Aside0.mk (Kd.R_mono (Kd.R_told (Kd.R_told (Kd.R_old (by (with_reducible repeat (first | apply Kd.R_alloc | apply Kd.R_drewN | apply Kd.R_drew)); exact HO290.out) hb) (Kd.R_base ho0)) (Kd.R_base ho1)) (fun _ h_ => h_.1)); have n2_ := Aside0.mk (Kd.R_lower (Kd.R_new' (Kd.R_new' ho0 (Kd.R_lt (by (with_reducible repeat (first | apply Kd.R_alloc | apply Kd.R_drewN | apply Kd.R_drew)); exact HO287.out))) (Kd.R_lt (by (with_reducible repeat (first | apply Kd.R_alloc | apply Kd.R_drewN | apply Kd.R_drew)); exact HO290.out))) (below_size (by repeat (first | (with_reducible first | exact HB.out | apply below_alloc | apply pw_below_drewN | apply below_drew1) | exact HB.out)))); have n3_ := Aside0.mk (Kd.R_lower (Kd.R_new' (Kd.R_new' ho1 (Kd.R_lt (by (with_reducible repeat (first | apply Kd.R_alloc | apply Kd.R_drewN | apply Kd.R_drew)); exact HO287.out))) (Kd.R_lt (by (with_reducible repeat (first | apply Kd.R_alloc | apply Kd.R_drewN | apply Kd.R_drew)); exact HO290.out))) (below_size (by repeat (first | (with_reducible first | exact HB.out | apply below_alloc | apply pw_below_drewN | apply below_drew1) | exact HB.out)))); have n4_ := Aside0.mk (below_step (by repeat (first | (with_reducible first | exact HB.out | apply below_alloc | apply pw_below_drewN | apply below_drew1) | exact HB.out)) hb); clear HO287; clear HO290; clear HB; have HO287 := n0_; have HO290 := n1_; have HO295 := n2_; have HO297 := n3_; have HB := n4_; clear n0_ n1_ n2_ n3_ n4_; (try clear hb); (try clear hb2); (try clear hk); (try clear hi); (try clear ho0); (try clear ho1)) | ((with_reducible refine gate_callee (f := 21) rfl ?_); refine goesL_ (some 50) rfl rfl Try.func21 (by kernel_rfl) rfl #[.int .i64 (1 + (ji9))] rfl (by (try simp only [List.map_toArray, List.map_cons, List.map_nil]); first | done | (simp only [hji9]; rfl) | rfl | (simp only [List.length_drop, List.length_take]; rfl)) ?_; (with_reducible refine (comitialaw7_text.calls k (1 + (ji9)) t298 _ A13.out).mono ?_); rintro e w24 ⟨rfl, hb⟩; refine ⟨_, rfl, ?_⟩; have n0_ := Aside0.mk (Kd.R_below (by (with_reducible repeat (first | apply Kd.R_alloc | apply Kd.R_drewN | apply Kd.R_drew)); exact HO287.out) hb); have n1_ := Aside0.mk (Kd.R_below (by (with_reducible repeat (first | apply Kd.R_alloc | apply Kd.R_drewN | apply Kd.R_drew)); exact HO290.out) hb); have n2_ := Aside0.mk (Kd.R_below (by (with_reducible repeat (first | apply Kd.R_alloc | apply Kd.R_drewN | apply Kd.R_drew)); exact HO295.out) hb); have n3_ := Aside0.mk (Kd.R_below (by (with_reducible repeat (first | apply Kd.R_alloc | apply Kd.R_drewN | apply Kd.R_drew)); exact HO297.out) hb); have n4_ := Aside0.mk (below_step (by repeat (first | (with_reducible first | exact HB.out | apply below_alloc | apply pw_below_drewN | apply below_drew1) | exact HB.out)) hb); clear HO287; clear HO290; clear HO295; clear HO297; clear HB; have HO287 := n0_; have HO290 := n1_; have HO295 := n2_; have HO297 := n3_; have HB := n4_; clear n0_ n1_ n2_ n3_ n4_; (try clear hb); (try clear hb2); (try clear hk); (try clear hi)) | ((with_reducible refine gate_callee (f := 18) rfl ?_); refine goesL_ (some 54) rfl rfl Try.func18 (by kernel_rfl) rfl #[.string t298, .slice Ao21 t285.length co21] rfl (by (try simp only [List.map_toArray, List.map_cons, List.map_nil]); first | done | rfl | (simp only [List.length_drop, List.length_take]; rfl)) ?_; (with_reducible refine (comitiaref4_Apply.calls k t298 _ _ t285 t299 t300 _ ?side1 ?side2 A14.out).mono ?_); (case side1 => repeat (first | exact (Kd.R_reads' HO287.out).2.2 | (with_reducible refine Kd.C_alloc ?_ _) | (with_reducible refine Kd.C_drewN ?_ _) | (with_reducible refine Kd.C_drew ?_))); (case side2 => exact (Kd.R_reads' HO287.out).2.1); rintro e w' ⟨rfl, ⟨nd, rfl⟩⟩; refine ⟨_, rfl, ?_⟩) | ((with_reducible refine gate_callee (f := 18) rfl ?_); refine goesL_ (some 60) rfl rfl Try.func18 (by kernel_rfl) rfl #[.string t298, .slice Ao22 t288.length co22] rfl (by (try simp only [List.map_toArray, List.map_cons, List.map_nil]); first | done | rfl | (simp only [List.length_drop, List.length_take]; rfl)) ?_; (with_reducible refine (comitiaref4_Apply.calls k t298 _ _ t288 t301 t302 _ ?side1 ?side2 A15.out).mono ?_); (case side1 => repeat (first | exact (Kd.R_reads' HO290.out).2.2 | (with_reducible refine Kd.C_alloc ?_ _) | (with_reducible refine Kd.C_drewN ?_ _) | (with_reducible refine Kd.C_drew ?_))); (case side2 => exact (Kd.R_reads' HO290.out).2.1); rintro e w' ⟨rfl, ⟨nd, rfl⟩⟩; refine ⟨_, rfl, ?_⟩; obtain ⟨Ao25, co25, eo25⟩ := Kd.R_slice HO297.out; subst eo25) | ((with_reducible refine gate_callee (f := 18) rfl ?_); refine goesL_ (some 66) rfl rfl Try.func18 (by kernel_rfl) rfl #[.string t299, .slice Ao25 t292.length co25] rfl (by (try simp only [List.map_toArray, List.map_cons, List.map_nil]); first | done | rfl | (simp only [List.length_drop, List.length_take]; rfl)) ?_; (with_reducible refine (comitiaref4_Apply.calls k t299 _ _ t292 t303 t304 _ ?side1 ?side2 A16.out).mono ?_); (case side1 => repeat (first | exact (Kd.R_reads' HO297.out).2.2 | (with_reducible refine Kd.C_alloc ?_ _) | (with_reducible refine Kd.C_drewN ?_ _) | (with_reducible refine Kd.C_drew ?_))); (case side2 => exact (Kd.R_reads' HO297.out).2.1); rintro e w' ⟨rfl, ⟨nd, rfl⟩⟩; refine ⟨_, rfl, ?_⟩; obtain ⟨Ao26, co26, eo26⟩ := Kd.R_slice HO295.out; subst eo26) | ((with_reducible refine gate_callee (f := 18) rfl ?_); refine goesL_ (some 72) rfl rfl Try.func18 (by kernel_rfl) rfl #[.string t301, .slice Ao26 t291.length co26] rfl (by (try simp only [List.map_toArray, List.map_cons, List.map_nil]); first | done | rfl | (simp only [List.length_drop, List.length_take]; rfl)) ?_; (with_reducible refine (comitiaref4_Apply.calls k t301 _ _ t291 t305 t306 _ ?side1 ?side2 A17.out).mono ?_); (case side1 => repeat (first | exact (Kd.R_reads' HO295.out).2.2 | (with_reducible refine Kd.C_alloc ?_ _) | (with_reducible refine Kd.C_drewN ?_ _) | (with_reducible refine Kd.C_drew ?_))); (case side2 => exact (Kd.R_reads' HO295.out).2.1); rintro e w' ⟨rfl, ⟨nd, rfl⟩⟩; refine ⟨_, rfl, ?_⟩))
    go_loopg [25, 26] k (fun kq v25 v26 w' => ∃ (x25_1 : ByteArray) (x26_1 : Int), v25 = .string x25_1 ∧ v26 = .int .i64 x26_1 ∧ Aside0 (comitialaw7_TransformCuts.l0 kq (1 + (ji9)) a1 a2 a3 a4 t293 t298 t303 t304 t305 t306 x25_1 x26_1 = some r) ∧ Aside0 (kq ≤ k) ∧ Aside0 (Below w.heap.size w w'))
    case atStart => exact ⟨((⟨#[]⟩ : ByteArray)), (0), (by first | rfl | (simp; done) | (simp [*]; done) | exact congrArg Value.bool (emp_ne _)), (by first | rfl | (simp; done) | (simp [*]; done) | exact congrArg Value.bool (emp_ne _)), H', ⟨Nat.le_refl _⟩, ⟨by repeat (first | (with_reducible first | exact HB.out | apply below_alloc | apply pw_below_drewN | apply below_drew1) | exact HB.out)⟩⟩
    case round =>
      clear H'
      try clear c1
      try clear c2
      try clear p2
      try clear c7
      try clear c9
      try clear c12
      try clear c15
      try clear c18
      try clear c21
      try clear c24
      obtain ⟨x25_1, x26_1, rfl, rfl, HA, HK1, HB⟩ := hrel
      cases gk with
      | zero => exact absurd HA.out (by simp [comitialaw7_TransformCuts.l0])
      | succ k1 =>
        have H := HA.out
        clear HA
        simp only [comitialaw7_TransformCuts.l0] at H
        by_cases c27 : x26_1 < (1 + (ji9))
        · rw [if_pos c27] at H
          have c27b0 : decide (x26_1 < (1 + (ji9))) = true := decide_eq_true c27
          clear c27
          replace H := Option.bind_eq_some_iff.mp H
          obtain ⟨t307, A280, H⟩ := H
          replace H : (if t307 = true then (comitialaw7_TransformCuts.l0 k1 (1 + (ji9)) a1 a2 a3 a4 t293 t298 t303 t304 t305 t306 x25_1 (wrap64 (x26_1 + 1))) else ((comitialaw7_in.f (1 + (ji9)) a3 a4 x26_1).bind fun t308 => (if t308 = true then (comitialaw7_TransformCuts.l0 k1 (1 + (ji9)) a1 a2 a3 a4 t293 t298 t303 t304 t305 t306 x25_1 (wrap64 (x26_1 + 1))) else (if 0 ≤ x26_1 then (if x26_1 ≤ (wrap64 (x26_1 + 1)) then (if (wrap64 (x26_1 + 1)) ≤ (t298.size : Int) then (if x25_1.size + (t298.extract (x26_1 : Int).toNat ((wrap64 (x26_1 + 1)) : Int).toNat).size ≤ 9223372036854775807 then (comitialaw7_TransformCuts.l0 k1 (1 + (ji9)) a1 a2 a3 a4 t293 t298 t303 t304 t305 t306 (x25_1 ++ (t298.extract (x26_1 : Int).toNat ((wrap64 (x26_1 + 1)) : Int).toNat)) (wrap64 (x26_1 + 1))) else (none)) else (none)) else (none)) else (none))))) = some r := H
          have A28 := Aside0.mk A280
          clear A280
          by_cases c29 : t307 = true
          · subst c29
            have H1 : (comitialaw7_TransformCuts.l0 k1 (1 + (ji9)) a1 a2 a3 a4 t293 t298 t303 t304 t305 t306 x25_1 (wrap64 (x26_1 + 1))) = some r := by rw [if_pos rfl] at H; exact H
            clear H
            have H := H1
            clear H1
            have H' := Aside0.mk H
            clear H
            go_wp2_with (first | ((with_reducible refine gate_callee (f := 25) rfl ?_); refine goesL_ (some 84) rfl rfl Try.func25 (by kernel_rfl) rfl #[.int .i64 (1 + (ji9)), .int .i64 a1, .int .i64 a2, .int .i64 x26_1] rfl (by (try simp only [List.map_toArray, List.map_cons, List.map_nil]); first | done | (simp only [hji9]; rfl) | rfl | (simp only [List.length_drop, List.length_take]; rfl)) ?_; (with_reducible refine (comitialaw7_in.calls (1 + (ji9)) a1 a2 x26_1 true _ A28.out).mono ?_); rintro e w30 ⟨rfl, hb⟩; refine ⟨_, rfl, ?_⟩; have n0_ := Aside0.mk (below_step (by repeat (first | (with_reducible first | exact HB.out | apply below_alloc | apply pw_below_drewN | apply below_drew1) | exact HB.out)) hb); clear HB; have HB := n0_; clear n0_; (try clear hb); (try clear hb2); (try clear hk); (try clear hi)))
            go_roundg k1
            case measure => have := HK1.out; omega
            case rel => exact ⟨(x25_1), (wrap64 (x26_1 + 1)), (by first | rfl | (simp; done) | (simp [*]; done) | exact congrArg Value.bool (emp_ne _)), (by first | rfl | (simp; done) | (simp [*]; done) | exact congrArg Value.bool (emp_ne _)), H', ⟨by have := HK1.out; omega⟩, ⟨by repeat (first | (with_reducible first | exact HB.out | apply below_alloc | apply pw_below_drewN | apply below_drew1) | exact HB.out)⟩⟩
          · replace c29 := Bool.eq_false_iff.mpr c29
            subst c29
            have H1 : ((comitialaw7_in.f (1 + (ji9)) a3 a4 x26_1).bind fun t308 => (if t308 = true then (comitialaw7_TransformCuts.l0 k1 (1 + (ji9)) a1 a2 a3 a4 t293 t298 t303 t304 t305 t306 x25_1 (wrap64 (x26_1 + 1))) else (if 0 ≤ x26_1 then (if x26_1 ≤ (wrap64 (x26_1 + 1)) then (if (wrap64 (x26_1 + 1)) ≤ (t298.size : Int) then (if x25_1.size + (t298.extract (x26_1 : Int).toNat ((wrap64 (x26_1 + 1)) : Int).toNat).size ≤ 9223372036854775807 then (comitialaw7_TransformCuts.l0 k1 (1 + (ji9)) a1 a2 a3 a4 t293 t298 t303 t304 t305 t306 (x25_1 ++ (t298.extract (x26_1 : Int).toNat ((wrap64 (x26_1 + 1)) : Int).toNat)) (wrap64 (x26_1 + 1))) else (none)) else (none)) else (none)) else (none)))) = some r := by rw [if_neg (show ¬ (false = true) by decide)] at H; exact H
            clear H
            have H := H1
            clear H1
            replace H := Option.bind_eq_some_iff.mp H
            obtain ⟨t308, A310, H⟩ := H
            replace H : (if t308 = true then (comitialaw7_TransformCuts.l0 k1 (1 + (ji9)) a1 a2 a3 a4 t293 t298 t303 t304 t305 t306 x25_1 (wrap64 (x26_1 + 1))) else (if 0 ≤ x26_1 then (if x26_1 ≤ (wrap64 (x26_1 + 1)) then (if (wrap64 (x26_1 + 1)) ≤ (t298.size : Int) then (if x25_1.size + (t298.extract (x26_1 : Int).toNat ((wrap64 (x26_1 + 1)) : Int).toNat).size ≤ 9223372036854775807 then (comitialaw7_TransformCuts.l0 k1 (1 + (ji9)) a1 a2 a3 a4 t293 t298 t303 t304 t305 t306 (x25_1 ++ (t298.extract (x26_1 : Int).toNat ((wrap64 (x26_1 + 1)) : Int).toNat)) (wrap64 (x26_1 + 1))) else (none)) else (none)) else (none)) else (none))) = some r := H
            have A31 := Aside0.mk A310
            clear A310
            by_cases c32 : t308 = true
            · subst c32
              have H1 : (comitialaw7_TransformCuts.l0 k1 (1 + (ji9)) a1 a2 a3 a4 t293 t298 t303 t304 t305 t306 x25_1 (wrap64 (x26_1 + 1))) = some r := by rw [if_pos rfl] at H; exact H
              clear H
              have H := H1
              clear H1
              have H' := Aside0.mk H
              clear H
              go_wp2_with (first | ((with_reducible refine gate_callee (f := 25) rfl ?_); refine goesL_ (some 84) rfl rfl Try.func25 (by kernel_rfl) rfl #[.int .i64 (1 + (ji9)), .int .i64 a1, .int .i64 a2, .int .i64 x26_1] rfl (by (try simp only [List.map_toArray, List.map_cons, List.map_nil]); first | done | (simp only [hji9]; rfl) | rfl | (simp only [List.length_drop, List.length_take]; rfl)) ?_; (with_reducible refine (comitialaw7_in.calls (1 + (ji9)) a1 a2 x26_1 false _ A28.out).mono ?_); rintro e w33 ⟨rfl, hb⟩; refine ⟨_, rfl, ?_⟩; have n0_ := Aside0.mk (below_step (by repeat (first | (with_reducible first | exact HB.out | apply below_alloc | apply pw_below_drewN | apply below_drew1) | exact HB.out)) hb); clear HB; have HB := n0_; clear n0_; (try clear hb); (try clear hb2); (try clear hk); (try clear hi)) | (go_at_call 25; (with_reducible refine (comitialaw7_in.calls (1 + (ji9)) a3 a4 x26_1 true _ A31.out).mono ?_); rintro e w34 ⟨rfl, hb⟩; have n0_ := Aside0.mk (below_step (by repeat (first | (with_reducible first | exact HB.out | apply below_alloc | apply pw_below_drewN | apply below_drew1) | exact HB.out)) hb); clear HB; have HB := n0_; clear n0_; (try clear hb); (try clear hb2); (try clear hk); (try clear hi)))
              go_roundg k1
              case measure => have := HK1.out; omega
              case rel => exact ⟨(x25_1), (wrap64 (x26_1 + 1)), (by first | rfl | (simp; done) | (simp [*]; done) | exact congrArg Value.bool (emp_ne _)), (by first | rfl | (simp; done) | (simp [*]; done) | exact congrArg Value.bool (emp_ne _)), H', ⟨by have := HK1.out; omega⟩, ⟨by repeat (first | (with_reducible first | exact HB.out | apply below_alloc | apply pw_below_drewN | apply below_drew1) | exact HB.out)⟩⟩
            · replace c32 := Bool.eq_false_iff.mpr c32
              subst c32
              have H1 : (if 0 ≤ x26_1 then (if x26_1 ≤ (wrap64 (x26_1 + 1)) then (if (wrap64 (x26_1 + 1)) ≤ (t298.size : Int) then (if x25_1.size + (t298.extract (x26_1 : Int).toNat ((wrap64 (x26_1 + 1)) : Int).toNat).size ≤ 9223372036854775807 then (comitialaw7_TransformCuts.l0 k1 (1 + (ji9)) a1 a2 a3 a4 t293 t298 t303 t304 t305 t306 (x25_1 ++ (t298.extract (x26_1 : Int).toNat ((wrap64 (x26_1 + 1)) : Int).toNat)) (wrap64 (x26_1 + 1))) else (none)) else (none)) else (none)) else (none)) = some r := by rw [if_neg (show ¬ (false = true) by decide)] at H; exact H
              clear H
              have H := H1
              clear H1
              by_cases c35 : 0 ≤ x26_1
              · rw [if_pos c35] at H
                have c35b0 := eq_true c35
                have c35b1 : decide (0 ≤ x26_1) = true := decide_eq_true c35
                clear c35
                by_cases c36 : x26_1 ≤ (wrap64 (x26_1 + 1))
                · rw [if_pos c36] at H
                  have c36b0 := eq_true c36
                  have c36b1 : decide (x26_1 ≤ (wrap64 (x26_1 + 1))) = true := decide_eq_true c36
                  by_cases c37 : (wrap64 (x26_1 + 1)) ≤ (t298.size : Int)
                  · rw [if_pos c37] at H
                    have c37b0 := eq_true c37
                    have c37b1 : decide ((wrap64 (x26_1 + 1)) ≤ (t298.size : Int)) = true := decide_eq_true c37
                    by_cases c38 : x25_1.size + (t298.extract (x26_1 : Int).toNat ((wrap64 (x26_1 + 1)) : Int).toNat).size ≤ 9223372036854775807
                    · rw [if_pos c38] at H
                      have c38b0 := eq_true c38
                      have c38b1 : decide (x25_1.size + (t298.extract (x26_1 : Int).toNat ((wrap64 (x26_1 + 1)) : Int).toNat).size ≤ 9223372036854775807) = true := decide_eq_true c38
                      try have c38b2 : (9223372036854775807 < x25_1.size + (t298.extract (x26_1 : Int).toNat ((wrap64 (x26_1 + 1)) : Int).toNat).size) = False := eq_false (Nat.not_lt.2 c38)
                      have H' := Aside0.mk H
                      clear H
                      go_wp2_with (first | ((with_reducible refine gate_callee (f := 25) rfl ?_); refine goesL_ (some 84) rfl rfl Try.func25 (by kernel_rfl) rfl #[.int .i64 (1 + (ji9)), .int .i64 a1, .int .i64 a2, .int .i64 x26_1] rfl (by (try simp only [List.map_toArray, List.map_cons, List.map_nil]); first | done | (simp only [hji9]; rfl) | rfl | (simp only [List.length_drop, List.length_take]; rfl)) ?_; (with_reducible refine (comitialaw7_in.calls (1 + (ji9)) a1 a2 x26_1 false _ A28.out).mono ?_); rintro e w39 ⟨rfl, hb⟩; refine ⟨_, rfl, ?_⟩; have n0_ := Aside0.mk (below_step (by repeat (first | (with_reducible first | exact HB.out | apply below_alloc | apply pw_below_drewN | apply below_drew1) | exact HB.out)) hb); clear HB; have HB := n0_; clear n0_; (try clear hb); (try clear hb2); (try clear hk); (try clear hi)) | (go_at_call 25; (with_reducible refine (comitialaw7_in.calls (1 + (ji9)) a3 a4 x26_1 false _ A31.out).mono ?_); rintro e w40 ⟨rfl, hb⟩; have n0_ := Aside0.mk (below_step (by repeat (first | (with_reducible first | exact HB.out | apply below_alloc | apply pw_below_drewN | apply below_drew1) | exact HB.out)) hb); clear HB; have HB := n0_; clear n0_; (try clear hb); (try clear hb2); (try clear hk); (try clear hi)))
                      go_roundg k1
                      case measure => have := HK1.out; omega
                      case rel => exact ⟨(x25_1 ++ (t298.extract (x26_1 : Int).toNat ((wrap64 (x26_1 + 1)) : Int).toNat)), (wrap64 (x26_1 + 1)), (by first | rfl | (simp; done) | (simp [*]; done) | exact congrArg Value.bool (emp_ne _)), (by first | rfl | (simp; done) | (simp [*]; done) | exact congrArg Value.bool (emp_ne _)), H', ⟨by have := HK1.out; omega⟩, ⟨by repeat (first | (with_reducible first | exact HB.out | apply below_alloc | apply pw_below_drewN | apply below_drew1) | exact HB.out)⟩⟩
                    · rw [if_neg c38] at H
                      exact absurd H (by simp)
                  · rw [if_neg c37] at H
                    exact absurd H (by simp)
                · rw [if_neg c36] at H
                  exact absurd H (by simp)
              · rw [if_neg c35] at H
                exact absurd H (by simp)
        · rw [if_neg c27] at H
          have c27b0 : decide (x26_1 < (1 + (ji9))) = false := decide_eq_false c27
          clear c27
          by_cases c41 : t293 = 0
          · rw [if_pos c41] at H
            have c41b0 : (t293 == 0) = true := beq_iff_eq.mpr c41
            have c41b1 : (t293 != 0) = false := bne_eq_false_iff_eq.mpr c41
            clear c41
            by_cases c42 : t304 = 0
            · rw [if_pos c42] at H
              have c42b0 : (t304 == 0) = true := beq_iff_eq.mpr c42
              have c42b1 : (t304 != 0) = false := bne_eq_false_iff_eq.mpr c42
              clear c42
              by_cases c43 : t306 = 0
              · rw [if_pos c43] at H
                have c43b0 : (t306 == 0) = true := beq_iff_eq.mpr c43
                have c43b1 : (t306 != 0) = false := bne_eq_false_iff_eq.mpr c43
                clear c43
                by_cases c44 : t303.toList = x25_1.toList
                · rw [if_pos c44] at H
                  have c44b0 : (t303.toList == x25_1.toList) = true := beq_iff_eq.mpr c44
                  have c44b1 : (t303.toList != x25_1.toList) = false := bne_eq_false_iff_eq.mpr c44
                  clear c44
                  obtain rfl := Option.some.inj H
                  go_wp2
                  go_ret
                  exact ⟨by first | rfl | (simp [errW_none, errW_some] <;> rfl) | (simp only [← hji8, ← hji9]; first | rfl | (simp [errW_none, errW_some] <;> rfl)) | (simp [*, errW_none, errW_some] <;> rfl), by repeat (first | (with_reducible first | exact HB.out | apply below_alloc | apply pw_below_drewN | apply below_drew1) | exact HB.out)⟩
                · rw [if_neg c44] at H
                  have c44b0 : (t303.toList == x25_1.toList) = false := beq_eq_false_iff_ne.mpr c44
                  have c44b1 : (t303.toList != x25_1.toList) = true := bne_iff_ne.mpr c44
                  obtain rfl := Option.some.inj H
                  go_wp2
                  go_ret
                  exact ⟨by first | rfl | (simp [errW_none, errW_some] <;> rfl) | (simp only [← hji8, ← hji9]; first | rfl | (simp [errW_none, errW_some] <;> rfl)) | (simp [*, errW_none, errW_some] <;> rfl), by repeat (first | (with_reducible first | exact HB.out | apply below_alloc | apply pw_below_drewN | apply below_drew1) | exact HB.out)⟩
              · rw [if_neg c43] at H
                have c43b0 : (t306 == 0) = false := beq_eq_false_iff_ne.mpr c43
                have c43b1 : (t306 != 0) = true := bne_iff_ne.mpr c43
                obtain rfl := Option.some.inj H
                go_wp2
                go_ret
                exact ⟨by first | rfl | (simp [errW_none, errW_some] <;> rfl) | (simp only [← hji8, ← hji9]; first | rfl | (simp [errW_none, errW_some] <;> rfl)) | (simp [*, errW_none, errW_some] <;> rfl), by repeat (first | (with_reducible first | exact HB.out | apply below_alloc | apply pw_below_drewN | apply below_drew1) | exact HB.out)⟩
            · rw [if_neg c42] at H
              have c42b0 : (t304 == 0) = false := beq_eq_false_iff_ne.mpr c42
              have c42b1 : (t304 != 0) = true := bne_iff_ne.mpr c42
              obtain rfl := Option.some.inj H
              go_wp2
              go_ret
              exact ⟨by first | rfl | (simp [errW_none, errW_some] <;> rfl) | (simp only [← hji8, ← hji9]; first | rfl | (simp [errW_none, errW_some] <;> rfl)) | (simp [*, errW_none, errW_some] <;> rfl), by repeat (first | (with_reducible first | exact HB.out | apply below_alloc | apply pw_below_drewN | apply below_drew1) | exact HB.out)⟩
          · rw [if_neg c41] at H
            have c41b0 : (t293 == 0) = false := beq_eq_false_iff_ne.mpr c41
            have c41b1 : (t293 != 0) = true := bne_iff_ne.mpr c41
            obtain rfl := Option.some.inj H
            go_wp2
            go_ret
            exact ⟨by first | rfl | (simp [errW_none, errW_some] <;> rfl) | (simp only [← hji8, ← hji9]; first | rfl | (simp [errW_none, errW_some] <;> rfl)) | (simp [*, errW_none, errW_some] <;> rfl), by repeat (first | (with_reducible first | exact HB.out | apply below_alloc | apply pw_below_drewN | apply below_drew1) | exact HB.out)⟩
  · replace c7 := Bool.eq_false_iff.mpr c7
    subst c7
    have H1 : (some false) = some r := by rw [if_neg (show ¬ (false = true) by decide)] at H; exact H
    clear H
    have H := H1
    clear H1
    obtain rfl := Option.some.inj H
    go_enter Try.func9, Try.ntmps9
    go_wp2_with (first | ((with_reducible refine gate_callee (f := 12) rfl ?_); refine goesL_ (some 27) rfl rfl Try.func12 (by kernel_rfl) rfl #[] rfl (by (try simp only [List.map_toArray, List.map_cons, List.map_nil]); first | done | rfl | (simp only [List.length_drop, List.length_take]; rfl)) ?_; (with_reducible refine (comitialaw7_known.calls k  false _ A6.out).mono ?_); rintro e w45 ⟨rfl, hb⟩; refine ⟨_, rfl, ?_⟩; have n0_ := Aside0.mk (below_step (by repeat (first | (with_reducible first | exact HB.out | apply below_alloc | apply pw_below_drewN | apply below_drew1) | exact HB.out)) hb); clear HB; have HB := n0_; clear n0_; (try clear hb); (try clear hb2); (try clear hk); (try clear hi)))
    go_ret
    exact ⟨by first | rfl | (simp [errW_none, errW_some] <;> rfl) | (simp [*, errW_none, errW_some] <;> rfl), by repeat (first | (with_reducible first | exact HB.out | apply below_alloc | apply pw_below_drewN | apply below_drew1) | exact HB.out)⟩

/-- THE ONE PURE STATEMENT of comitialaw7_TransformCuts: yours. -/
def comitialaw7_TransformCuts.Pure : Prop := ∀ (a0 : Int) (a1 : Int) (a2 : Int) (a3 : Int) (a4 : Int), (Lit.int .i64 a0).wf = true → (Lit.int .i64 a1).wf = true → (Lit.int .i64 a2).wf = true → (Lit.int .i64 a3).wf = true → (Lit.int .i64 a4).wf = true → ∃ k, comitialaw7_TransformCuts.f k a0 a1 a2 a3 a4 = some true
theorem comitialaw7_TransformCuts.walk (P : comitialaw7_TransformCuts.Pure) (a0 : Int) (a1 : Int) (a2 : Int) (a3 : Int) (a4 : Int) (w : World) (w0 : (Lit.int .i64 a0).wf = true) (w1 : (Lit.int .i64 a1).wf = true) (w2 : (Lit.int .i64 a2).wf = true) (w3 : (Lit.int .i64 a3).wf = true) (w4 : (Lit.int .i64 a4).wf = true) :
    Calls Try.prog 9 #[.int .i64 a0, .int .i64 a1, .int .i64 a2, .int .i64 a3, .int .i64 a4] w fun e w' => e = .returned (.bool true) ∧ Below w.heap.size w w' := by
  obtain ⟨k, h⟩ := P a0 a1 a2 a3 a4 w0 w1 w2 w3 w4
  refine (comitialaw7_TransformCuts.calls k a0 a1 a2 a3 a4 true w h).mono ?_
  rintro e w' ⟨rfl, hd⟩
  exact ⟨rfl, hd⟩

end Go.Proofs.Ytjmnflgicolbdaa.Q

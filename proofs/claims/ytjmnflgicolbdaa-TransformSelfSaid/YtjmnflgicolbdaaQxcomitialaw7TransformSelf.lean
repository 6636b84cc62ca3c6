/- Contracts of Go functions: each call answers what the Lean function of its name answers. Conditions: stand in each theorem. Written by this seat's own program over the kit's printer. -/
import Derived.Test.YtjmnflgicolbdaaQ0
import Derived.Test.YtjmnflgicolbdaaQxcm
import Derived.Test.YtjmnflgicolbdaaQxtransformPair
import Derived.Test.YtjmnflgicolbdaaQxcomitiaref4In
import Derived.Test.YtjmnflgicolbdaaQxcomitiaref4Apply
import Derived.Test.YtjmnflgicolbdaaQxcomitialaw7known
import Derived.Test.YtjmnflgicolbdaaQxcomitialaw7few
import Derived.Test.YtjmnflgicolbdaaQxcomitialaw4Make
namespace Go.Proofs.Ytjmnflgicolbdaa.Q
open Go.RowKit Go.Proofs.YtjmnflgicolbdaaW.PrintWords Go.Proofs.YtjmnflgicolbdaaW.PrintLast Go.Proofs.YtjmnflgicolbdaaW.PrintMore
attribute [local go_sem] max2_int min2_int max_two min_two max_three min_three max_four min_four   -- for this text's walks alone
set_option linter.unusedVariables false
set_option linter.unusedSimpArgs false

/-! ### comitialaw7_TransformSelf: function 6 -/
def comitialaw7_TransformSelf.l0 : Nat → List (S43) → List (S43) → List (S43) → Int → ByteArray → ByteArray → Int → Int → Int → Option (Bool)
  | 0, _, _, _, _, _, _, _, _, _ => none
  | k + 1, x6, x7, x8, x9, x10, x12, x13, x14, x15 => if x15 < (x6.length : Int) then (if 0 ≤ x15 then (comitialaw7_TransformSelf.l0 k x6 x7 x8 x9 x10 x12 x13 (wrap64 (x14 + (((rd_T43 x6 x15).f2).size : Int))) (wrap64 (x15 + 1))) else (none)) else (if x9 = 0 then ((comitiaref4_In.f k x7).bind fun t426 => (if t426 = (x10.size : Int) then ((comitiaref4_In.f k x8).bind fun t427 => (if t427 = (x10.size : Int) then (if x13 = 0 then (some ((x12.size : Int) == (wrap64 ((x10.size : Int) + x14)))) else (if (wrap64 ((x10.size : Int) + x14)) > 120 then (some true) else (some false))) else (some false))) else (some false))) else (some false))
def comitialaw7_TransformSelf.f (k : Nat) (l0 : List Int) (l1 : List Int) : Option (Bool) := (comitialaw7_known.f k).bind fun t409 => (if t409 = true then ((comitialaw7_few.f l0).bind fun t410 => ((comitialaw4_Make.f k (t410.size : Int) l1).bind fun t411 => ((transform_Pair.f t411 t411).bind fun bt414 => ((comitiaref4_Apply.f k t410 t411).bind fun bt421 => ((comitiaref4_Apply.f k bt421.1 bt414.2.1).bind fun bt423 => (comitialaw7_TransformSelf.l0 k t411 bt414.1 bt414.2.1 bt414.2.2 bt421.1 bt423.1 bt423.2 0 0)))))) else (some false))
theorem comitialaw7_TransformSelf.mono_l : ∀ k, (∀ y0 y1 y2 y3 y4 y5 y6 y7 y8, LeO (comitialaw7_TransformSelf.l0 k y0 y1 y2 y3 y4 y5 y6 y7 y8) (comitialaw7_TransformSelf.l0 (k + 1) y0 y1 y2 y3 y4 y5 y6 y7 y8))
  | 0 => fun _ _ _ _ _ _ _ _ _ r h => by simp [comitialaw7_TransformSelf.l0] at h
  | k + 1 => by
    have ih0 := comitialaw7_TransformSelf.mono_l k
    · intro y0 y1 y2 y3 y4 y5 y6 y7 y8
      unfold comitialaw7_TransformSelf.l0
      repeat' first
      | (with_reducible exact ih0 _ _ _ _ _ _ _ _ _)
      | (with_reducible exact comitialaw4_Make.mono _ _ _)
      | (with_reducible exact comitialaw7_known.mono _)
      | (with_reducible exact comitiaref4_Apply.mono _ _ _)
      | (with_reducible exact comitiaref4_In.mono _ _)
      | (with_reducible exact LeO.refl _)
      | (with_reducible exact LeO.none _)
      | (with_reducible refine LeO.ite ?_ ?_)
      | (with_reducible refine LeO.bind ?_ (fun _ => ?_))
      | exact ih0 _ _ _ _ _ _ _ _ _
      | exact comitialaw4_Make.mono _ _ _
      | exact comitialaw7_known.mono _
      | exact comitiaref4_Apply.mono _ _ _
      | exact comitiaref4_In.mono _ _
      | exact LeO.none _
      | refine LeO.ite ?_ ?_
      | refine LeO.bind ?_ (fun _ => ?_)
theorem comitialaw7_TransformSelf.mono : ∀ a0 a1 k, LeO (comitialaw7_TransformSelf.f k a0 a1) (comitialaw7_TransformSelf.f (k + 1) a0 a1) := by
  intro a0 a1 k
  have ih0 := comitialaw7_TransformSelf.mono_l k
  unfold comitialaw7_TransformSelf.f
  repeat' first
      | (with_reducible exact ih0 _ _ _ _ _ _ _ _ _)
      | (with_reducible exact comitialaw4_Make.mono _ _ _)
      | (with_reducible exact comitialaw7_known.mono _)
      | (with_reducible exact comitiaref4_Apply.mono _ _ _)
      | (with_reducible exact comitiaref4_In.mono _ _)
      | (with_reducible exact LeO.refl _)
      | (with_reducible exact LeO.none _)
      | (with_reducible refine LeO.ite ?_ ?_)
      | (with_reducible refine LeO.bind ?_ (fun _ => ?_))
      | exact ih0 _ _ _ _ _ _ _ _ _
      | exact comitialaw4_Make.mono _ _ _
      | exact comitialaw7_known.mono _
      | exact comitiaref4_Apply.mono _ _ _
      | exact comitiaref4_In.mono _ _
      | exact LeO.none _
      | refine LeO.ite ?_ ?_
      | refine LeO.bind ?_ (fun _ => ?_)
set_option maxHeartbeats 8000000 in
set_option maxRecDepth 100000 in
theorem comitialaw7_TransformSelf.calls (k : Nat) (A0 : Option Addr) (c0 : Nat) (l0 : List Int) (A1 : Option Addr) (c1 : Nat) (l1 : List Int) (r : Bool) (w : World) (hr0 : Kd.C (Kd.int .u8) w A0 l0.length l0) (hc0 : l0.length ≤ c0) (hr1 : Kd.C (Kd.int .i64) w A1 l1.length l1) (hc1 : l1.length ≤ c1) (h : comitialaw7_TransformSelf.f k l0 l1 = some r) :
    Calls Try.prog 6 #[.slice A0 l0.length c0, .slice A1 l1.length c1] w fun e w' => e = .returned (.bool r) ∧ Below w.heap.size w w' := by
  have HR0 := Aside0.mk hr0
  have HC0 := Aside0.mk hc0
  clear hr0 hc0
  have HR1 := Aside0.mk hr1
  have HC1 := Aside0.mk hc1
  clear hr1 hc1
  have HB := Aside0.mk (Below.refl w.heap.size w)
  have H : ((comitialaw7_known.f k).bind fun t409 => (if t409 = true then ((comitialaw7_few.f l0).bind fun t410 => ((comitialaw4_Make.f k (t410.size : Int) l1).bind fun t411 => ((transform_Pair.f t411 t411).bind fun bt414 => ((comitiaref4_Apply.f k t410 t411).bind fun bt421 => ((comitiaref4_Apply.f k bt421.1 bt414.2.1).bind fun bt423 => (comitialaw7_TransformSelf.l0 k t411 bt414.1 bt414.2.1 bt414.2.2 bt421.1 bt423.1 bt423.2 0 0)))))) else (some false))) = some r := h
  clear h
  replace H := Option.bind_eq_some_iff.mp H
  obtain ⟨t409, A30, H⟩ := H
  replace H : (if t409 = true then ((comitialaw7_few.f l0).bind fun t410 => ((comitialaw4_Make.f k (t410.size : Int) l1).bind fun t411 => ((transform_Pair.f t411 t411).bind fun bt414 => ((comitiaref4_Apply.f k t410 t411).bind fun bt421 => ((comitiaref4_Apply.f k bt421.1 bt414.2.1).bind fun bt423 => (comitialaw7_TransformSelf.l0 k t411 bt414.1 bt414.2.1 bt414.2.2 bt421.1 bt423.1 bt423.2 0 0)))))) else (some false)) = some r := H
  have A3 := Aside0.mk A30
  clear A30
  by_cases c4 : t409 = true
  · subst c4
    have H1 : ((comitialaw7_few.f l0).bind fun t410 => ((comitialaw4_Make.f k (t410.size : Int) l1).bind fun t411 => ((transform_Pair.f t411 t411).bind fun bt414 => ((comitiaref4_Apply.f k t410 t411).bind fun bt421 => ((comitiaref4_Apply.f k bt421.1 bt414.2.1).bind fun bt423 => (comitialaw7_TransformSelf.l0 k t411 bt414.1 bt414.2.1 bt414.2.2 bt421.1 bt423.1 bt423.2 0 0)))))) = some r := by rw [if_pos rfl] at H; exact H
    clear H
    have H := H1
    clear H1
    replace H := Option.bind_eq_some_iff.mp H
    obtain ⟨t410, A50, H⟩ := H
    replace H : ((comitialaw4_Make.f k (t410.size : Int) l1).bind fun t411 => ((transform_Pair.f t411 t411).bind fun bt414 => ((comitiaref4_Apply.f k t410 t411).bind fun bt421 => ((comitiaref4_Apply.f k bt421.1 bt414.2.1).bind fun bt423 => (comitialaw7_TransformSelf.l0 k t411 bt414.1 bt414.2.1 bt414.2.2 bt421.1 bt423.1 bt423.2 0 0))))) = some r := H
    have A5 := Aside0.mk A50
    clear A50
    replace H := Option.bind_eq_some_iff.mp H
    obtain ⟨t411, A60, H⟩ := H
    replace H : ((transform_Pair.f t411 t411).bind fun bt414 => ((comitiaref4_Apply.f k t410 t411).bind fun bt421 => ((comitiaref4_Apply.f k bt421.1 bt414.2.1).bind fun bt423 => (comitialaw7_TransformSelf.l0 k t411 bt414.1 bt414.2.1 bt414.2.2 bt421.1 bt423.1 bt423.2 0 0)))) = some r := H
    have A6 := Aside0.mk A60
    clear A60
    replace H := Option.bind_eq_some_iff.mp H
    obtain ⟨⟨t414, t415, t416⟩, A70, H⟩ := H
    replace H : ((comitiaref4_Apply.f k t410 t411).bind fun bt421 => ((comitiaref4_Apply.f k bt421.1 t415).bind fun bt423 => (comitialaw7_TransformSelf.l0 k t411 t414 t415 t416 bt421.1 bt423.1 bt423.2 0 0))) = some r := H
    have A7 := Aside0.mk A70
    clear A70
    replace H := Option.bind_eq_some_iff.mp H
    obtain ⟨⟨t421, t422⟩, A80, H⟩ := H
    replace H : ((comitiaref4_Apply.f k t421 t415).bind fun bt423 => (comitialaw7_TransformSelf.l0 k t411 t414 t415 t416 t421 bt423.1 bt423.2 0 0)) = some r := H
    have A8 := Aside0.mk A80
    clear A80
    replace H := Option.bind_eq_some_iff.mp H
    obtain ⟨⟨t423, t424⟩, A90, H⟩ := H
    replace H : (comitialaw7_TransformSelf.l0 k t411 t414 t415 t416 t421 t423 t424 0 0) = some r := H
    have A9 := Aside0.mk A90
    clear A90
    have H' := Aside0.mk H
    clear H
    go_enter Try.func6, Try.ntmps6
    go_wp2_with (first | ((with_reducible refine gate_callee (f := 12) rfl ?_); refine goesL_ (some 16) rfl rfl Try.func12 (by kernel_rfl) rfl #[] rfl (by (try simp only [List.map_toArray, List.map_cons, List.map_nil]); first | done | rfl | (simp only [List.length_drop, List.length_take]; rfl)) ?_; (with_reducible refine (comitialaw7_known.calls k  true _ A3.out).mono ?_); rintro e w10 ⟨rfl, hb⟩; refine ⟨_, rfl, ?_⟩; have n0_ := Aside0.mk (below_step (by repeat (first | (with_reducible first | exact HB.out | apply below_alloc | apply pw_below_drewN | apply below_drew1) | exact HB.out)) hb); clear HB; have HB := n0_; clear n0_; (try clear hb); (try clear hb2); (try clear hk); (try clear hi)) | ((with_reducible refine gate_callee (f := 13) rfl ?_); refine goesL_ (some 19) rfl rfl Try.func13 (by kernel_rfl) rfl #[.slice A0 l0.length c0] rfl (by (try simp only [List.map_toArray, List.map_cons, List.map_nil]); first | done | rfl | (simp only [List.length_drop, List.length_take]; rfl)) ?_; (with_reducible refine (comitialaw7_few.calls _ _ l0 t410 _ ?side1 ?side2 A5.out).mono ?_); (case side1 => repeat (first | exact (Kd.C_below HR0.out HB.out) | (with_reducible refine Kd.C_alloc ?_ _) | (with_reducible refine Kd.C_drewN ?_ _) | (with_reducible refine Kd.C_drew ?_))); (case side2 => exact HC0.out); rintro e w11 ⟨rfl, hb⟩; refine ⟨_, rfl, ?_⟩; have n0_ := Aside0.mk (below_step (by repeat (first | (with_reducible first | exact HB.out | apply below_alloc | apply pw_below_drewN | apply below_drew1) | exact HB.out)) hb); clear HB; have HB := n0_; clear n0_; (try clear hb); (try clear hb2); (try clear hk); (try clear hi)) | ((with_reducible refine gate_callee (f := 14) rfl ?_); refine goesL_ (some 23) rfl rfl Try.func14 (by kernel_rfl) rfl #[.int .i64 (t410.size : Int), .slice A1 l1.length c1] rfl (by (try simp only [List.map_toArray, List.map_cons, List.map_nil]); first | done | rfl | (simp only [List.length_drop, List.length_take]; rfl)) ?_; (with_reducible refine (comitialaw4_Make.calls k (t410.size : Int) _ _ l1 t411 _ ?side1 ?side2 A6.out).mono ?_); (case side1 => repeat (first | exact (Kd.C_below HR1.out HB.out) | (with_reducible refine Kd.C_alloc ?_ _) | (with_reducible refine Kd.C_drewN ?_ _) | (with_reducible refine Kd.C_drew ?_))); (case side2 => exact HC1.out); rintro e w12 ⟨v412, rfl, ho0, hb⟩; refine ⟨_, rfl, ?_⟩; have n0_ := Aside0.mk (Kd.R_lower ho0 (below_size (by repeat (first | (with_reducible first | exact HB.out | apply below_alloc | apply pw_below_drewN | apply below_drew1) | exact HB.out)))); have n1_ := Aside0.mk (below_step (by repeat (first | (with_reducible first | exact HB.out | apply below_alloc | apply pw_below_drewN | apply below_drew1) | exact HB.out)) hb); clear HB; have HO413 := n0_; have HB := n1_; clear n0_ n1_; (try clear hb); (try clear hb2); (try clear hk); (try clear hi); (try clear ho0); obtain ⟨Ao13, co13, eo13⟩ := Kd.R_slice HO413.out; subst eo13) | ((with_reducible refine gate_callee (f := 15) rfl ?_); refine goesL_ (some 27) rfl rfl Try.func15 (by kernel_rfl) rfl #[.slice Ao13 t411.length co13, .slice Ao13 t411.length co13] rfl (by (try simp only [List.map_toArray, List.map_cons, List.map_nil]); first | done | rfl | (simp only [List.length_drop, List.length_take]; rfl)) ?_; (with_reducible refine (transform_Pair.calls _ _ t411 _ _ t411 t414 t415 t416 _ ?side1 ?side2 ?side3 ?side4 A7.out).mono ?_); (case side1 => repeat (first | exact (Kd.R_reads' HO413.out).2.2 | (with_reducible refine Kd.C_alloc ?_ _) | (with_reducible refine Kd.C_drewN ?_ _) | (with_reducible refine Kd.C_drew ?_))); (case side2 => exact (Kd.R_reads' HO413.out).2.1); (case side3 => repeat (first | exact (Kd.R_reads' HO413.out).2.2 | (with_reducible refine Kd.C_alloc ?_ _) | (with_reducible refine Kd.C_drewN ?_ _) | (with_reducible refine Kd.C_drew ?_))); (case side4 => exact (Kd.R_reads' HO413.out).2.1); rintro e w14 ⟨v417, v419, rfl, ho0, ho1, hb⟩; refine ⟨_, rfl, ?_⟩; have n0_ := Aside0.mk (Kd.R_mono (Kd.R_told (Kd.R_told (Kd.R_old (by (with_reducible repeat (first | apply Kd.R_alloc | apply Kd.R_drewN | apply Kd.R_drew)); exact HO413.out) hb) (Kd.R_base ho0)) (Kd.R_base ho1)) (fun _ h_ => h_.1)); have n1_ := Aside0.mk (Kd.R_lower (Kd.R_new' ho0 (Kd.R_lt (by (with_reducible repeat (first | apply Kd.R_alloc | apply Kd.R_drewN | apply Kd.R_drew)); exact HO413.out))) (below_size (by repeat (first | (with_reducible first | exact HB.out | apply below_alloc | apply pw_below_drewN | apply below_drew1) | exact HB.out)))); have n2_ := Aside0.mk (Kd.R_lower (Kd.R_new' ho1 (Kd.R_lt (by (with_reducible repeat (first | apply Kd.R_alloc | apply Kd.R_drewN | apply Kd.R_drew)); exact HO413.out))) (below_size (by repeat (first | (with_reducible first | exact HB.out | apply below_alloc | apply pw_below_drewN | apply below_drew1) | exact HB.out)))); have n3_ := Aside0.mk (below_step (by repeat (first | (with_reducible first | exact HB.out | apply below_alloc | apply pw_below_drewN | apply below_drew1) | exact HB.out)) hb); clear HO413; clear HB; have HO413 := n0_; have HO418 := n1_; have HO420 := n2_; have HB := n3_; clear n0_ n1_ n2_ n3_; (try clear hb); (try clear hb2); (try clear hk); (try clear hi); (try clear ho0); (try clear ho1)) | ((with_reducible refine gate_callee (f := 18) rfl ?_); refine goesL_ (some 34) rfl rfl Try.func18 (by kernel_rfl) rfl #[.string t410, .slice Ao13 t411.length co13] rfl (by (try simp only [List.map_toArray, List.map_cons, List.map_nil]); first | done | rfl | (simp only [List.length_drop, List.length_take]; rfl)) ?_; (with_reducible refine (comitiaref4_Apply.calls k t410 _ _ t411 t421 t422 _ ?side1 ?side2 A8.out).mono ?_); (case side1 => repeat (first | exact (Kd.R_reads' HO413.out).2.2 | (with_reducible refine Kd.C_alloc ?_ _) | (with_reducible refine Kd.C_drewN ?_ _) | (with_reducible refine Kd.C_drew ?_))); (case side2 => exact (Kd.R_reads' HO413.out).2.1); rintro e w' ⟨rfl, ⟨nd, rfl⟩⟩; refine ⟨_, rfl, ?_⟩; obtain ⟨Ao15, co15, eo15⟩ := Kd.R_slice HO420.out; subst eo15) | ((with_reducible refine gate_callee (f := 18) rfl ?_); refine goesL_ (some 40) rfl rfl Try.func18 (by kernel_rfl) rfl #[.string t421, .slice Ao15 t415.length co15] rfl (by (try simp only [List.map_toArray, List.map_cons, List.map_nil]); first | done | rfl | (simp only [List.length_drop, List.length_take]; rfl)) ?_; (with_reducible refine (comitiaref4_Apply.calls k t421 _ _ t415 t423 t424 _ ?side1 ?side2 A9.out).mono ?_); (case side1 => repeat (first | exact (Kd.R_reads' HO420.out).2.2 | (with_reducible refine Kd.C_alloc ?_ _) | (with_reducible refine Kd.C_drewN ?_ _) | (with_reducible refine Kd.C_drew ?_))); (case side2 => exact (Kd.R_reads' HO420.out).2.1); rintro e w' ⟨rfl, ⟨nd, rfl⟩⟩; refine ⟨_, rfl, ?_⟩))
    go_loopg [14, 15] k (fun kq v14 v15 w' => ∃ (x14_1 : Int) (x15_1 : Int), v14 = .int .i64 x14_1 ∧ v15 = .int .i64 x15_1 ∧ Aside0 (comitialaw7_TransformSelf.l0 kq t411 t414 t415 t416 t421 t423 t424 x14_1 x15_1 = some r) ∧ Aside0 (kq ≤ k) ∧ Aside0 (Kd.R k43 43 w' w.heap.size (fun k_ => some k_ ≠ (v417 : Value).ownBlock ∧ some k_ ≠ ((.slice Ao15 t415.length co15) : Value).ownBlock) (.slice Ao13 t411.length co13) t411) ∧ Aside0 (Kd.R k43 43 w' w.heap.size (fun k_ => some k_ ≠ ((.slice Ao13 t411.length co13) : Value).ownBlock ∧ some k_ ≠ ((.slice Ao15 t415.length co15) : Value).ownBlock) v417 t414) ∧ Aside0 (Kd.R k43 43 w' w.heap.size (fun k_ => some k_ ≠ ((.slice Ao13 t411.length co13) : Value).ownBlock ∧ some k_ ≠ (v417 : Value).ownBlock) (.slice Ao15 t415.length co15) t415) ∧ Aside0 (Below w.heap.size w w'))
    case atStart => exact ⟨(0), (0), (by first | rfl | (simp; done) | (simp [*]; done) | exact congrArg Value.bool (emp_ne _)), (by first | rfl | (simp; done) | (simp [*]; done) | exact congrArg Value.bool (emp_ne _)), H', ⟨Nat.le_refl _⟩, ⟨by (with_reducible repeat (first | apply Kd.R_alloc | apply Kd.R_drewN | apply Kd.R_drew)); exact Kd.R_mono HO413.out (fun _ hk => ⟨hk.1.2, hk.2⟩)⟩, ⟨by (with_reducible repeat (first | apply Kd.R_alloc | apply Kd.R_drewN | apply Kd.R_drew)); exact Kd.R_mono HO418.out (fun _ hk => ⟨hk.2, hk.1⟩)⟩, ⟨by (with_reducible repeat (first | apply Kd.R_alloc | apply Kd.R_drewN | apply Kd.R_drew)); exact Kd.R_mono HO420.out (fun _ hk => ⟨hk.2, hk.1⟩)⟩, ⟨by repeat (first | (with_reducible first | exact HB.out | apply below_alloc | apply pw_below_drewN | apply below_drew1) | exact HB.out)⟩⟩
    case round =>
      clear H'
      try clear c1
      try clear p2
      try clear c4
      try clear c6
      try clear c12
      try clear c13
      try clear c14
      try clear c15
      obtain ⟨x14_1, x15_1, rfl, rfl, HA, HK1, HO_6, HO_7, HO_8, HB⟩ := hrel
      cases gk with
      | zero => exact absurd HA.out (by simp [comitialaw7_TransformSelf.l0])
      | succ k1 =>
        have H := HA.out
        clear HA
        simp only [comitialaw7_TransformSelf.l0] at H
        by_cases c16 : x15_1 < (t411.length : Int)
        · rw [if_pos c16] at H
          have c16b0 : decide (x15_1 < (t411.length : Int)) = true := decide_eq_true c16
          clear c16
          by_cases c17 : 0 ≤ x15_1
          · rw [if_pos c17] at H
            have c17b0 : decide (0 ≤ x15_1) = true := decide_eq_true c17
            clear c17
            have H' := Aside0.mk H
            clear H
            have p425 : 0 ≤ (x15_1 : Int) := of_decide_eq_true (by first | (with_reducible assumption) | assumption)
            have q425 : x15_1 < (t411.length : Int) := of_decide_eq_true (by first | (with_reducible assumption) | assumption)
            obtain ⟨ad425, e425, hx425_0, hx425_1, hx425_2⟩ := at_T43 (Kd.R_reads' HO_6.out).2.2 x15_1 p425 q425
            cases e425
            replace p425 := eq_true p425
            replace q425 := eq_true q425
            go_wp2
            go_roundg k1
            case measure => have := HK1.out; omega
            case rel => exact ⟨(wrap64 (x14_1 + (((rd_T43 t411 x15_1).f2).size : Int))), (wrap64 (x15_1 + 1)), (by first | rfl | (simp; done) | (simp [*]; done) | exact congrArg Value.bool (emp_ne _)), (by first | rfl | (simp; done) | (simp [*]; done) | exact congrArg Value.bool (emp_ne _)), H', ⟨by have := HK1.out; omega⟩, ⟨by (with_reducible repeat (first | apply Kd.R_alloc | apply Kd.R_drewN | apply Kd.R_drew)); exact HO_6.out⟩, ⟨by (with_reducible repeat (first | apply Kd.R_alloc | apply Kd.R_drewN | apply Kd.R_drew)); exact HO_7.out⟩, ⟨by (with_reducible repeat (first | apply Kd.R_alloc | apply Kd.R_drewN | apply Kd.R_drew)); exact HO_8.out⟩, ⟨by repeat (first | (with_reducible first | exact HB.out | apply below_alloc | apply pw_below_drewN | apply below_drew1) | exact HB.out)⟩⟩
          · rw [if_neg c17] at H
            exact absurd H (by simp)
        · rw [if_neg c16] at H
          have c16b0 : decide (x15_1 < (t411.length : Int)) = false := decide_eq_false c16
          clear c16
          by_cases c18 : t416 = 0
          · rw [if_pos c18] at H
            have c18b0 : (t416 == 0) = true := beq_iff_eq.mpr c18
            have c18b1 : (t416 != 0) = false := bne_eq_false_iff_eq.mpr c18
            clear c18
            replace H := Option.bind_eq_some_iff.mp H
            obtain ⟨t426, A190, H⟩ := H
            replace H : (if t426 = (t421.size : Int) then ((comitiaref4_In.f k1 t415).bind fun t427 => (if t427 = (t421.size : Int) then (if t424 = 0 then (some ((t423.size : Int) == (wrap64 ((t421.size : Int) + x14_1)))) else (if (wrap64 ((t421.size : Int) + x14_1)) > 120 then (some true) else (some false))) else (some false))) else (some false)) = some r := H
            have A19 := Aside0.mk A190
            clear A190
            by_cases c20 : t426 = (t421.size : Int)
            · rw [if_pos c20] at H
              have c20b0 : (t426 == (t421.size : Int)) = true := beq_iff_eq.mpr c20
              have c20b1 : (t426 != (t421.size : Int)) = false := bne_eq_false_iff_eq.mpr c20
              clear c20
              replace H := Option.bind_eq_some_iff.mp H
              obtain ⟨t427, A210, H⟩ := H
              replace H : (if t427 = (t421.size : Int) then (if t424 = 0 then (some ((t423.size : Int) == (wrap64 ((t421.size : Int) + x14_1)))) else (if (wrap64 ((t421.size : Int) + x14_1)) > 120 then (some true) else (some false))) else (some false)) = some r := H
              have A21 := Aside0.mk A210
              clear A210
              by_cases c22 : t427 = (t421.size : Int)
              · rw [if_pos c22] at H
                have c22b0 : (t427 == (t421.size : Int)) = true := beq_iff_eq.mpr c22
                have c22b1 : (t427 != (t421.size : Int)) = false := bne_eq_false_iff_eq.mpr c22
                clear c22
                by_cases c23 : t424 = 0
                · rw [if_pos c23] at H
                  have c23b0 : (t424 == 0) = true := beq_iff_eq.mpr c23
                  have c23b1 : (t424 != 0) = false := bne_eq_false_iff_eq.mpr c23
                  clear c23
                  obtain rfl := Option.some.inj H
                  obtain ⟨Ao24, co24, eo24⟩ := Kd.R_slice HO_7.out
                  subst eo24
                  go_wp2_with (first | (go_at_call 22; (with_reducible refine (comitiaref4_In.calls k1 _ _ t414 t426 _ ?side1 ?side2 A19.out).mono ?_); (case side1 => repeat (first | exact (Kd.R_reads' HO_7.out).2.2 | (with_reducible refine Kd.C_alloc ?_ _) | (with_reducible refine Kd.C_drewN ?_ _) | (with_reducible refine Kd.C_drew ?_))); (case side2 => exact (Kd.R_reads' HO_7.out).2.1); rintro e w' ⟨rfl, ⟨nd, rfl⟩⟩) | (go_at_call 22; (with_reducible refine (comitiaref4_In.calls k1 _ _ t415 t427 _ ?side1 ?side2 A21.out).mono ?_); (case side1 => repeat (first | exact (Kd.R_reads' HO_8.out).2.2 | (with_reducible refine Kd.C_alloc ?_ _) | (with_reducible refine Kd.C_drewN ?_ _) | (with_reducible refine Kd.C_drew ?_))); (case side2 => exact (Kd.R_reads' HO_8.out).2.1); rintro e w' ⟨rfl, ⟨nd, rfl⟩⟩))
                  go_ret
                  exact ⟨by first | rfl | (simp [errW_none, errW_some] <;> rfl) | (simp [*, errW_none, errW_some] <;> rfl), by repeat (first | (with_reducible first | exact HB.out | apply below_alloc | apply pw_below_drewN | apply below_drew1) | exact HB.out)⟩
                · rw [if_neg c23] at H
                  have c23b0 : (t424 == 0) = false := beq_eq_false_iff_ne.mpr c23
                  have c23b1 : (t424 != 0) = true := bne_iff_ne.mpr c23
                  by_cases c25 : (wrap64 ((t421.size : Int) + x14_1)) > 120
                  · rw [if_pos c25] at H
                    have c25b0 : decide (120 < (wrap64 ((t421.size : Int) + x14_1))) = true := decide_eq_true c25
                    clear c25
                    obtain rfl := Option.some.inj H
                    obtain ⟨Ao26, co26, eo26⟩ := Kd.R_slice HO_7.out
                    subst eo26
                    go_wp2_with (first | (go_at_call 22; (with_reducible refine (comitiaref4_In.calls k1 _ _ t414 t426 _ ?side1 ?side2 A19.out).mono ?_); (case side1 => repeat (first | exact (Kd.R_reads' HO_7.out).2.2 | (with_reducible refine Kd.C_alloc ?_ _) | (with_reducible refine Kd.C_drewN ?_ _) | (with_reducible refine Kd.C_drew ?_))); (case side2 => exact (Kd.R_reads' HO_7.out).2.1); rintro e w' ⟨rfl, ⟨nd, rfl⟩⟩) | (go_at_call 22; (with_reducible refine (comitiaref4_In.calls k1 _ _ t415 t427 _ ?side1 ?side2 A21.out).mono ?_); (case side1 => repeat (first | exact (Kd.R_reads' HO_8.out).2.2 | (with_reducible refine Kd.C_alloc ?_ _) | (with_reducible refine Kd.C_drewN ?_ _) | (with_reducible refine Kd.C_drew ?_))); (case side2 => exact (Kd.R_reads' HO_8.out).2.1); rintro e w' ⟨rfl, ⟨nd, rfl⟩⟩))
                    go_ret
                    exact ⟨by first | rfl | (simp [errW_none, errW_some] <;> rfl) | (simp [*, errW_none, errW_some] <;> rfl), by repeat (first | (with_reducible first | exact HB.out | apply below_alloc | apply pw_below_drewN | apply below_drew1) | exact HB.out)⟩
                  · rw [if_neg c25] at H
                    have c25b0 : decide (120 < (wrap64 ((t421.size : Int) + x14_1))) = false := decide_eq_false c25
                    clear c25
                    obtain rfl := Option.some.inj H
                    obtain ⟨Ao27, co27, eo27⟩ := Kd.R_slice HO_7.out
                    subst eo27
                    go_wp2_with (first | (go_at_call 22; (with_reducible refine (comitiaref4_In.calls k1 _ _ t414 t426 _ ?side1 ?side2 A19.out).mono ?_); (case side1 => repeat (first | exact (Kd.R_reads' HO_7.out).2.2 | (with_reducible refine Kd.C_alloc ?_ _) | (with_reducible refine Kd.C_drewN ?_ _) | (with_reducible refine Kd.C_drew ?_))); (case side2 => exact (Kd.R_reads' HO_7.out).2.1); rintro e w' ⟨rfl, ⟨nd, rfl⟩⟩) | (go_at_call 22; (with_reducible refine (comitiaref4_In.calls k1 _ _ t415 t427 _ ?side1 ?side2 A21.out).mono ?_); (case side1 => repeat (first | exact (Kd.R_reads' HO_8.out).2.2 | (with_reducible refine Kd.C_alloc ?_ _) | (with_reducible refine Kd.C_drewN ?_ _) | (with_reducible refine Kd.C_drew ?_))); (case side2 => exact (Kd.R_reads' HO_8.out).2.1); rintro e w' ⟨rfl, ⟨nd, rfl⟩⟩))
                    go_ret
                    exact ⟨by first | rfl | (simp [errW_none, errW_some] <;> rfl) | (simp [*, errW_none, errW_some] <;> rfl), by repeat (first | (with_reducible first | exact HB.out | apply below_alloc | apply pw_below_drewN | apply below_drew1) | exact HB.out)⟩
              · rw [if_neg c22] at H
                have c22b0 : (t427 == (t421.size : Int)) = false := beq_eq_false_iff_ne.mpr c22
                have c22b1 : (t427 != (t421.size : Int)) = true := bne_iff_ne.mpr c22
                obtain rfl := Option.some.inj H
                obtain ⟨Ao28, co28, eo28⟩ := Kd.R_slice HO_7.out
                subst eo28
                go_wp2_with (first | (go_at_call 22; (with_reducible refine (comitiaref4_In.calls k1 _ _ t414 t426 _ ?side1 ?side2 A19.out).mono ?_); (case side1 => repeat (first | exact (Kd.R_reads' HO_7.out).2.2 | (with_reducible refine Kd.C_alloc ?_ _) | (with_reducible refine Kd.C_drewN ?_ _) | (with_reducible refine Kd.C_drew ?_))); (case side2 => exact (Kd.R_reads' HO_7.out).2.1); rintro e w' ⟨rfl, ⟨nd, rfl⟩⟩) | (go_at_call 22; (with_reducible refine (comitiaref4_In.calls k1 _ _ t415 t427 _ ?side1 ?side2 A21.out).mono ?_); (case side1 => repeat (first | exact (Kd.R_reads' HO_8.out).2.2 | (with_reducible refine Kd.C_alloc ?_ _) | (with_reducible refine Kd.C_drewN ?_ _) | (with_reducible refine Kd.C_drew ?_))); (case side2 => exact (Kd.R_reads' HO_8.out).2.1); rintro e w' ⟨rfl, ⟨nd, rfl⟩⟩))
                go_ret
                exact ⟨by first | rfl | (simp [errW_none, errW_some] <;> rfl) | (simp [*, errW_none, errW_some] <;> rfl), by repeat (first | (with_reducible first | exact HB.out | apply below_alloc | apply pw_below_drewN | apply below_drew1) | exact HB.out)⟩
            · rw [if_neg c20] at H
              have c20b0 : (t426 == (t421.size : Int)) = false := beq_eq_false_iff_ne.mpr c20
              have c20b1 : (t426 != (t421.size : Int)) = true := bne_iff_ne.mpr c20
              obtain rfl := Option.some.inj H
              obtain ⟨Ao29, co29, eo29⟩ := Kd.R_slice HO_7.out
              subst eo29
              go_wp2_with (first | (go_at_call 22; (with_reducible refine (comitiaref4_In.calls k1 _ _ t414 t426 _ ?side1 ?side2 A19.out).mono ?_); (case side1 => repeat (first | exact (Kd.R_reads' HO_7.out).2.2 | (with_reducible refine Kd.C_alloc ?_ _) | (with_reducible refine Kd.C_drewN ?_ _) | (with_reducible refine Kd.C_drew ?_))); (case side2 => exact (Kd.R_reads' HO_7.out).2.1); rintro e w' ⟨rfl, ⟨nd, rfl⟩⟩))
              go_ret
              exact ⟨by first | rfl | (simp [errW_none, errW_some] <;> rfl) | (simp [*, errW_none, errW_some] <;> rfl), by repeat (first | (with_reducible first | exact HB.out | apply below_alloc | apply pw_below_drewN | apply below_drew1) | exact HB.out)⟩
          · rw [if_neg c18] at H
            have c18b0 : (t416 == 0) = false := beq_eq_false_iff_ne.mpr c18
            have c18b1 : (t416 != 0) = true := bne_iff_ne.mpr c18
            obtain rfl := Option.some.inj H
            go_wp2
            go_ret
            exact ⟨by first | rfl | (simp [errW_none, errW_some] <;> rfl) | (simp [*, errW_none, errW_some] <;> rfl), by repeat (first | (with_reducible first | exact HB.out | apply below_alloc | apply pw_below_drewN | apply below_drew1) | exact HB.out)⟩
  · replace c4 := Bool.eq_false_iff.mpr c4
    subst c4
    have H1 : (some false) = some r := by rw [if_neg (show ¬ (false = true) by decide)] at H; exact H
    clear H
    have H := H1
    clear H1
    obtain rfl := Option.some.inj H
    go_enter Try.func6, Try.ntmps6
    go_wp2_with (first | ((with_reducible refine gate_callee (f := 12) rfl ?_); refine goesL_ (some 16) rfl rfl Try.func12 (by kernel_rfl) rfl #[] rfl (by (try simp only [List.map_toArray, List.map_cons, List.map_nil]); first | done | rfl | (simp only [List.length_drop, List.length_take]; rfl)) ?_; (with_reducible refine (comitialaw7_known.calls k  false _ A3.out).mono ?_); rintro e w30 ⟨rfl, hb⟩; refine ⟨_, rfl, ?_⟩; have n0_ := Aside0.mk (below_step (by repeat (first | (with_reducible first | exact HB.out | apply below_alloc | apply pw_below_drewN | apply below_drew1) | exact HB.out)) hb); clear HB; have HB := n0_; clear n0_; (try clear hb); (try clear hb2); (try clear hk); (try clear hi)))
    go_ret
    exact ⟨by first | rfl | (simp [errW_none, errW_some] <;> rfl) | (simp [*, errW_none, errW_some] <;> rfl), by repeat (first | (with_reducible first | exact HB.out | apply below_alloc | apply pw_below_drewN | apply below_drew1) | exact HB.out)⟩

/-- THE ONE PURE STATEMENT of comitialaw7_TransformSelf: yours. -/
def comitialaw7_TransformSelf.Pure : Prop := ∀ (l0 : List Int) (l1 : List Int), l0.length ≤ maxLen → l0.length * 1 ≤ 140737488351232 → (∀ x ∈ l0, (Lit.int .u8 x).wf = true) → l1.length ≤ maxLen → l1.length * 8 ≤ 140737488351232 → (∀ x ∈ l1, (Lit.int .i64 x).wf = true) → ∃ k, comitialaw7_TransformSelf.f k l0 l1 = some true
theorem comitialaw7_TransformSelf.walk (P : comitialaw7_TransformSelf.Pure) (a0 : Option Addr) (len0 cap0 : Nat) (z0 : List Int) (a1 : Option Addr) (len1 cap1 : Nat) (z1 : List Int) (w : World) (w0 : (a0 = none ∧ len0 = 0 ∧ cap0 = 0 ∧ z0 = []) ∨ ∃ x, a0 = some x ∧ len0 ≤ cap0 ∧ cap0 ≤ maxLen ∧ z0.length = cap0 ∧ (∀ i, i < z0.length → w.cell? (x.add i) = some (.int .u8 (z0.getD i 0))) ∧ ∀ n ∈ z0, (Lit.int .u8 n).wf = true) (y0 : len0 * 1 ≤ 140737488351232) (w1 : (a1 = none ∧ len1 = 0 ∧ cap1 = 0 ∧ z1 = []) ∨ ∃ x, a1 = some x ∧ len1 ≤ cap1 ∧ cap1 ≤ maxLen ∧ z1.length = cap1 ∧ (∀ i, i < z1.length → w.cell? (x.add i) = some (.int .i64 (z1.getD i 0))) ∧ ∀ n ∈ z1, (Lit.int .i64 n).wf = true) (y1 : len1 * 8 ≤ 140737488351232) :
    Calls Try.prog 6 #[.slice a0 len0 cap0, .slice a1 len1 cap1] w fun e w' => e = .returned (.bool true) ∧ Below w.heap.size w w' := by
  obtain ⟨l0, rfl, hr0, hm0, hw0, hc0⟩ := ReadsInt.ofRowC w0
  obtain ⟨l1, rfl, hr1, hm1, hw1, hc1⟩ := ReadsInt.ofRowC w1
  obtain ⟨k, h⟩ := P l0 l1 hm0 y0 hw0 hm1 y1 hw1
  refine (comitialaw7_TransformSelf.calls k _ _ l0 _ _ l1 true w (Kd.C_of_reads (d := (0 : Int)) (h1 := fun _ => rfl) hr0) hc0 (Kd.C_of_reads (d := (0 : Int)) (h1 := fun _ => rfl) hr1) hc1 h).mono ?_
  rintro e w' ⟨rfl, hd⟩
  exact ⟨rfl, hd⟩

end Go.Proofs.Ytjmnflgicolbdaa.Q

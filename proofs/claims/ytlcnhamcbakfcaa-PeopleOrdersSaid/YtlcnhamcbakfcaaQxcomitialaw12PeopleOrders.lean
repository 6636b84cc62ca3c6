/- Contracts of Go functions: each call answers what the Lean function of its name answers. Conditions: stand in each theorem. Written by this seat's own program over the kit's printer. -/
import Derived.Test.YtlcnhamcbakfcaaQ0
import Derived.Test.YtlcnhamcbakfcaaQxcomitialaw12known
import Derived.Test.YtlcnhamcbakfcaaQxpeopleAdd
import Derived.Test.YtlcnhamcbakfcaaQxcomitialaw12within
import Derived.Test.YtlcnhamcbakfcaaQxcomitialaw12Actuser
import Derived.Test.YtlcnhamcbakfcaaQxcomitialaw12same
namespace Go.Proofs.Ytlcnhamcbakfcaa.Q
open Go.RowKit Go.Proofs.YtlcnhamcbakfcaaW.PrintWords Go.Proofs.YtlcnhamcbakfcaaW.PrintLast Go.Proofs.YtlcnhamcbakfcaaW.PrintMore
attribute [local go_sem] max2_int min2_int max_two min_two max_three min_three max_four min_four   -- for this text's walks alone
set_option linter.unusedVariables false
set_option linter.unusedSimpArgs false

/-! ### comitialaw12_PeopleOrders: function 3 -/
def comitialaw12_PeopleOrders.l0 : Nat → List (S31) → Int → List (S29) → List (S29) → Int → Int → Option (Bool)
  | 0, _, _, _, _, _, _ => none
  | k + 1, x0, x1, x5, x6, x7, x8 => if x8 < x7 then (if 0 ≤ x8 then (if x8 < (x0.length : Int) then ((comitialaw12_Act_user.f ((rd_T31 x0 x8).f0.f0) ((rd_T31 x0 x8).f0.f1) ((rd_T31 x0 x8).f1)).bind fun bt111 => ((people_Add.f x5 bt111.1 bt111.2).bind fun bt113 => ((comitialaw12_within.f x1 x7).bind fun t117 => (if x7 = 0 then (none) else (if 0 ≤ (Int.tmod (wrap64 (x8 + t117)) x7) then (if (Int.tmod (wrap64 (x8 + t117)) x7) < (x0.length : Int) then ((comitialaw12_Act_user.f ((rd_T31 x0 (Int.tmod (wrap64 (x8 + t117)) x7)).f0.f0) ((rd_T31 x0 (Int.tmod (wrap64 (x8 + t117)) x7)).f0.f1) ((rd_T31 x0 (Int.tmod (wrap64 (x8 + t117)) x7)).f1)).bind fun bt119 => ((people_Add.f x6 bt119.1 bt119.2).bind fun bt121 => (comitialaw12_PeopleOrders.l0 k x0 x1 bt113.1 bt121.1 x7 (wrap64 (x8 + 1))))) else (none)) else (none)))))) else (none)) else (none)) else ((comitialaw12_same.f k x5 x6).bind fun t109 => (some t109))
def comitialaw12_PeopleOrders.f (k : Nat) (l0 : List (S31)) (a1 : Int) : Option (Bool) := (comitialaw12_known.f).bind fun t108 => (if t108 = true then (comitialaw12_PeopleOrders.l0 k l0 a1 ([] : List (S29)) ([] : List (S29)) (mn (l0.length : Int) 8) 0) else (some false))
theorem comitialaw12_PeopleOrders.mono_l : ∀ k, (∀ y0 y1 y2 y3 y4 y5, LeO (comitialaw12_PeopleOrders.l0 k y0 y1 y2 y3 y4 y5) (comitialaw12_PeopleOrders.l0 (k + 1) y0 y1 y2 y3 y4 y5))
  | 0 => fun _ _ _ _ _ _ r h => by simp [comitialaw12_PeopleOrders.l0] at h
  | k + 1 => by
    have ih0 := comitialaw12_PeopleOrders.mono_l k
    · intro y0 y1 y2 y3 y4 y5
      unfold comitialaw12_PeopleOrders.l0
      repeat' first
      | (with_reducible exact ih0 _ _ _ _ _ _)
      | (with_reducible exact comitialaw12_same.mono _ _ _)
      | (with_reducible exact LeO.refl _)
      | (with_reducible exact LeO.none _)
      | (with_reducible refine LeO.ite ?_ ?_)
      | (with_reducible refine LeO.bind ?_ (fun _ => ?_))
      | exact ih0 _ _ _ _ _ _
      | exact comitialaw12_same.mono _ _ _
      | exact LeO.none _
      | refine LeO.ite ?_ ?_
      | refine LeO.bind ?_ (fun _ => ?_)
theorem comitialaw12_PeopleOrders.mono : ∀ a0 a1 k, LeO (comitialaw12_PeopleOrders.f k a0 a1) (comitialaw12_PeopleOrders.f (k + 1) a0 a1) := by
  intro a0 a1 k
  have ih0 := comitialaw12_PeopleOrders.mono_l k
  unfold comitialaw12_PeopleOrders.f
  repeat' first
      | (with_reducible exact ih0 _ _ _ _ _ _)
      | (with_reducible exact comitialaw12_same.mono _ _ _)
      | (with_reducible exact LeO.refl _)
      | (with_reducible exact LeO.none _)
      | (with_reducible refine LeO.ite ?_ ?_)
      | (with_reducible refine LeO.bind ?_ (fun _ => ?_))
      | exact ih0 _ _ _ _ _ _
      | exact comitialaw12_same.mono _ _ _
      | exact LeO.none _
      | refine LeO.ite ?_ ?_
      | refine LeO.bind ?_ (fun _ => ?_)
set_option maxHeartbeats 8000000 in
set_option maxRecDepth 100000 in
theorem comitialaw12_PeopleOrders.calls (k : Nat) (A0 : Option Addr) (c0 : Nat) (l0 : List (S31)) (a1 : Int) (r : Bool) (w : World) (hr0 : Kd.C k31 w A0 l0.length l0) (hc0 : l0.length ≤ c0) (h : comitialaw12_PeopleOrders.f k l0 a1 = some r) :
    Calls Try.prog 3 #[.slice A0 l0.length c0, .int .i64 a1] w fun e w' => e = .returned (.bool r) ∧ Below w.heap.size w w' := by
  have hu31 := Try.underlying31
  have HR0 := Aside0.mk hr0
  have HC0 := Aside0.mk hc0
  clear hr0 hc0
  have HB := Aside0.mk (Below.refl w.heap.size w)
  have H : ((comitialaw12_known.f).bind fun t108 => (if t108 = true then (comitialaw12_PeopleOrders.l0 k l0 a1 ([] : List (S29)) ([] : List (S29)) (mn (l0.length : Int) 8) 0) else (some false))) = some r := h
  clear h
  replace H := Option.bind_eq_some_iff.mp H
  obtain ⟨t108, A30, H⟩ := H
  replace H : (if t108 = true then (comitialaw12_PeopleOrders.l0 k l0 a1 ([] : List (S29)) ([] : List (S29)) (mn (l0.length : Int) 8) 0) else (some false)) = some r := H
  have A3 := Aside0.mk A30
  clear A30
  by_cases c4 : t108 = true
  · subst c4
    have H1 : (comitialaw12_PeopleOrders.l0 k l0 a1 ([] : List (S29)) ([] : List (S29)) (mn (l0.length : Int) 8) 0) = some r := by rw [if_pos rfl] at H; exact H
    clear H
    have H := H1
    clear H1
    obtain ⟨ji5, hji5⟩ : ∃ j_ : Int, (mn (l0.length : Int) 8) = j_ := ⟨_, rfl⟩
    replace H : (comitialaw12_PeopleOrders.l0 k l0 a1 ([] : List (S29)) ([] : List (S29)) ji5 0) = some r := by first | (rw [hji5] at H; exact H) | (simp only [hji5] at H ⊢; exact H)
    (try rw [hji5] at A3)
    (try (have hji5h : ji5 ≤ 8 := by (rw [← hji5]; unfold mn; (repeat' split) <;> omega)))
    (try (have hji5g : ji5 ≤ 64 := by omega))
    (try (have hji5l : 0 ≤ ji5 := by (rw [← hji5]; unfold mn; (repeat' split) <;> omega)))
    (try (have hji5m : 0 ≤ ji5 := by omega))
    have hji5_ : (if 8 < (l0.length : Int) then 8 else (l0.length : Int)) = ji5 := hji5
    have H' := Aside0.mk H
    clear H
    go_enter Try.func3, Try.ntmps3
    go_wp2_with (first | ((with_reducible refine gate_callee (f := 4) rfl ?_); refine goesL_ (some 9) rfl rfl Try.func4 (by kernel_rfl) rfl #[] rfl (by (try simp only [List.map_toArray, List.map_cons, List.map_nil]); first | done | rfl | (simp only [List.length_drop, List.length_take]; rfl)) ?_; (with_reducible refine (comitialaw12_known.calls  true _ A3.out).mono ?_); rintro e w6 ⟨rfl, hb⟩; refine ⟨_, rfl, ?_⟩; have n0_ := Aside0.mk (below_step (by repeat (first | (with_reducible first | exact HB.out | apply below_alloc | apply pw_below_drewN | apply below_drew1) | exact HB.out)) hb); clear HB; have HB := n0_; clear n0_; (try clear hb); (try clear hb2); (try clear hk); (try clear hi)))
    go_loopg [5, 6, 8] k (fun kq v5 v6 v8 w' => ∃ (x5_1 : List (S29)) (x6_1 : List (S29)) (x8_1 : Int), v8 = .int .i64 x8_1 ∧ Aside0 (comitialaw12_PeopleOrders.l0 kq l0 a1 x5_1 x6_1 ji5 x8_1 = some r) ∧ Aside0 (kq ≤ k) ∧ Aside0 (Kd.R k29 29 w' w.heap.size (fun k_ => some k_ ≠ (v6 : Value).ownBlock) v5 x5_1) ∧ Aside0 (Kd.R k29 29 w' w.heap.size (fun k_ => some k_ ≠ (v5 : Value).ownBlock) v6 x6_1) ∧ Aside0 (Below w.heap.size w w'))
    case atStart => exact ⟨(([] : List (S29))), (([] : List (S29))), (0), (by first | rfl | (simp; done) | (simp [*]; done) | exact congrArg Value.bool (emp_ne _)), H', ⟨Nat.le_refl _⟩, ⟨by first | exact Kd.R_nil _ _ _ _ _ | exact Kd.N_nil _ _ _ _ _ | exact Kd.V_nil _ _ _ _ _ | exact Kd.Q_nil _ _ _ _ _ | exact Kd.S_nil _ _ _ _ _⟩, ⟨by first | exact Kd.R_nil _ _ _ _ _ | exact Kd.N_nil _ _ _ _ _ | exact Kd.V_nil _ _ _ _ _ | exact Kd.Q_nil _ _ _ _ _ | exact Kd.S_nil _ _ _ _ _⟩, ⟨by repeat (first | (with_reducible first | exact HB.out | apply below_alloc | apply pw_below_drewN | apply below_drew1) | exact HB.out)⟩⟩
    case round =>
      clear H'
      try clear p2
      try clear c3
      try clear c4
      obtain ⟨x5_1, x6_1, x8_1, rfl, HA, HK1, HO_5, HO_6, HB⟩ := hrel
      cases gk with
      | zero => exact absurd HA.out (by simp [comitialaw12_PeopleOrders.l0])
      | succ k1 =>
        have H := HA.out
        clear HA
        simp only [comitialaw12_PeopleOrders.l0] at H
        by_cases c7 : x8_1 < ji5
        · rw [if_pos c7] at H
          have c7b0 : decide (x8_1 < ji5) = true := decide_eq_true c7
          clear c7
          by_cases c8 : 0 ≤ x8_1
          · rw [if_pos c8] at H
            have c8b0 : decide (0 ≤ x8_1) = true := decide_eq_true c8
            clear c8
            by_cases c9 : x8_1 < (l0.length : Int)
            · rw [if_pos c9] at H
              have c9b0 : decide (x8_1 < (l0.length : Int)) = true := decide_eq_true c9
              clear c9
              replace H := Option.bind_eq_some_iff.mp H
              obtain ⟨⟨t111, t112⟩, A100, H⟩ := H
              replace H : ((people_Add.f x5_1 t111 t112).bind fun bt113 => ((comitialaw12_within.f a1 ji5).bind fun t117 => (if ji5 = 0 then (none) else (if 0 ≤ (Int.tmod (wrap64 (x8_1 + t117)) ji5) then (if (Int.tmod (wrap64 (x8_1 + t117)) ji5) < (l0.length : Int) then ((comitialaw12_Act_user.f ((rd_T31 l0 (Int.tmod (wrap64 (x8_1 + t117)) ji5)).f0.f0) ((rd_T31 l0 (Int.tmod (wrap64 (x8_1 + t117)) ji5)).f0.f1) ((rd_T31 l0 (Int.tmod (wrap64 (x8_1 + t117)) ji5)).f1)).bind fun bt119 => ((people_Add.f x6_1 bt119.1 bt119.2).bind fun bt121 => (comitialaw12_PeopleOrders.l0 k1 l0 a1 bt113.1 bt121.1 ji5 (wrap64 (x8_1 + 1))))) else (none)) else (none))))) = some r := H
              have A10 := Aside0.mk A100
              clear A100
              replace H := Option.bind_eq_some_iff.mp H
              obtain ⟨⟨t113, t116⟩, A110, H⟩ := H
              replace H : ((comitialaw12_within.f a1 ji5).bind fun t117 => (if ji5 = 0 then (none) else (if 0 ≤ (Int.tmod (wrap64 (x8_1 + t117)) ji5) then (if (Int.tmod (wrap64 (x8_1 + t117)) ji5) < (l0.length : Int) then ((comitialaw12_Act_user.f ((rd_T31 l0 (Int.tmod (wrap64 (x8_1 + t117)) ji5)).f0.f0) ((rd_T31 l0 (Int.tmod (wrap64 (x8_1 + t117)) ji5)).f0.f1) ((rd_T31 l0 (Int.tmod (wrap64 (x8_1 + t117)) ji5)).f1)).bind fun bt119 => ((people_Add.f x6_1 bt119.1 bt119.2).bind fun bt121 => (comitialaw12_PeopleOrders.l0 k1 l0 a1 t113 bt121.1 ji5 (wrap64 (x8_1 + 1))))) else (none)) else (none)))) = some r := H
              have A11 := Aside0.mk A110
              clear A110
              replace H := Option.bind_eq_some_iff.mp H
              obtain ⟨t117, A120, H⟩ := H
              replace H : (if ji5 = 0 then (none) else (if 0 ≤ (Int.tmod (wrap64 (x8_1 + t117)) ji5) then (if (Int.tmod (wrap64 (x8_1 + t117)) ji5) < (l0.length : Int) then ((comitialaw12_Act_user.f ((rd_T31 l0 (Int.tmod (wrap64 (x8_1 + t117)) ji5)).f0.f0) ((rd_T31 l0 (Int.tmod (wrap64 (x8_1 + t117)) ji5)).f0.f1) ((rd_T31 l0 (Int.tmod (wrap64 (x8_1 + t117)) ji5)).f1)).bind fun bt119 => ((people_Add.f x6_1 bt119.1 bt119.2).bind fun bt121 => (comitialaw12_PeopleOrders.l0 k1 l0 a1 t113 bt121.1 ji5 (wrap64 (x8_1 + 1))))) else (none)) else (none))) = some r := H
              have A12 := Aside0.mk A120
              clear A120
              by_cases c13 : ji5 = 0
              · rw [if_pos c13] at H
                exact absurd H (by simp)
              · rw [if_neg c13] at H
                have c13b0 : (ji5 == 0) = false := beq_eq_false_iff_ne.mpr c13
                have c13b1 : (ji5 != 0) = true := bne_iff_ne.mpr c13
                obtain ⟨ji14, hji14⟩ : ∃ j_ : Int, (Int.tmod (wrap64 (x8_1 + t117)) ji5) = j_ := ⟨_, rfl⟩
                replace H : (if 0 ≤ (ji14) then (if (ji14) < (l0.length : Int) then ((comitialaw12_Act_user.f ((rd_T31 l0 (ji14)).f0.f0) ((rd_T31 l0 (ji14)).f0.f1) ((rd_T31 l0 (ji14)).f1)).bind fun bt119 => ((people_Add.f x6_1 bt119.1 bt119.2).bind fun bt121 => (comitialaw12_PeopleOrders.l0 k1 l0 a1 t113 bt121.1 ji5 (wrap64 (x8_1 + 1))))) else (none)) else (none)) = some r := by first | (rw [hji14] at H; exact H) | (simp only [hji14] at H ⊢; exact H)
                (try rw [hji14] at A10)
                (try rw [hji14] at A11)
                (try rw [hji14] at A12)
                by_cases c15 : 0 ≤ (ji14)
                · rw [if_pos c15] at H
                  have c15b0 : decide (0 ≤ (ji14)) = true := decide_eq_true c15
                  clear c15
                  by_cases c16 : (ji14) < (l0.length : Int)
                  · rw [if_pos c16] at H
                    have c16b0 : decide ((ji14) < (l0.length : Int)) = true := decide_eq_true c16
                    clear c16
                    replace H := Option.bind_eq_some_iff.mp H
                    obtain ⟨⟨t119, t120⟩, A170, H⟩ := H
                    replace H : ((people_Add.f x6_1 t119 t120).bind fun bt121 => (comitialaw12_PeopleOrders.l0 k1 l0 a1 t113 bt121.1 ji5 (wrap64 (x8_1 + 1)))) = some r := H
                    have A17 := Aside0.mk A170
                    clear A170
                    replace H := Option.bind_eq_some_iff.mp H
                    obtain ⟨⟨t121, t124⟩, A180, H⟩ := H
                    replace H : (comitialaw12_PeopleOrders.l0 k1 l0 a1 t113 t121 ji5 (wrap64 (x8_1 + 1))) = some r := H
                    have A18 := Aside0.mk A180
                    clear A180
                    have H' := Aside0.mk H
                    clear H
                    have p110 : 0 ≤ (x8_1 : Int) := of_decide_eq_true (by first | (with_reducible assumption) | assumption)
                    have q110 : x8_1 < (l0.length : Int) := of_decide_eq_true (by first | (with_reducible assumption) | assumption)
                    obtain ⟨ad110, e110, hx110_0, hx110_1, hx110_2⟩ := at_T31 HR0.out x8_1 p110 q110
                    cases e110
                    replace hx110_0 := (HB.out.cell (World.block_lt_of_cell? w _ hx110_0)).trans hx110_0
                    replace hx110_1 := (HB.out.cell (World.block_lt_of_cell? w _ hx110_1)).trans hx110_1
                    replace hx110_2 := (HB.out.cell (World.block_lt_of_cell? w _ hx110_2)).trans hx110_2
                    replace p110 := eq_true p110
                    replace q110 := eq_true q110
                    go_wp2_with (first | ((with_reducible refine gate_callee (f := 6) rfl ?_); refine goesL_ (some 25) rfl rfl Try.func6 (by kernel_rfl) rfl #[.agg #[.int .i64 ((rd_T31 l0 x8_1).f0.f0), .int .i64 ((rd_T31 l0 x8_1).f0.f1), .bool ((rd_T31 l0 x8_1).f1)]] rfl (by (try simp only [List.map_toArray, List.map_cons, List.map_nil]); first | done | rfl | (simp only [List.length_drop, List.length_take]; rfl)) ?_; (with_reducible refine (comitialaw12_Act_user.calls ((rd_T31 l0 x8_1).f0.f0) ((rd_T31 l0 x8_1).f0.f1) ((rd_T31 l0 x8_1).f1) t111 t112 _ A10.out).mono ?_); rintro e w19 ⟨rfl, hb⟩; refine ⟨_, rfl, ?_⟩; have n0_ := Aside0.mk (Kd.R_below (by (with_reducible repeat (first | apply Kd.R_alloc | apply Kd.R_drewN | apply Kd.R_drew)); exact HO_5.out) hb); have n1_ := Aside0.mk (Kd.R_below (by (with_reducible repeat (first | apply Kd.R_alloc | apply Kd.R_drewN | apply Kd.R_drew)); exact HO_6.out) hb); have n2_ := Aside0.mk (below_step (by repeat (first | (with_reducible first | exact HB.out | apply below_alloc | apply pw_below_drewN | apply below_drew1) | exact HB.out)) hb); clear HO_5; clear HO_6; clear HB; have HO_5 := n0_; have HO_6 := n1_; have HB := n2_; clear n0_ n1_ n2_; (try clear hb); (try clear hb2); (try clear hk); (try clear hi); obtain ⟨Ao20, co20, eo20⟩ := Kd.R_slice HO_5.out; subst eo20) | ((with_reducible refine gate_callee (f := 5) rfl ?_); refine goesL_ (some 26) rfl rfl Try.func5 (by kernel_rfl) rfl #[.slice Ao20 x5_1.length co20, .agg #[.int .i64 t111, .int .i64 t112]] rfl (by (try simp only [List.map_toArray, List.map_cons, List.map_nil]); first | done | rfl | (simp only [List.length_drop, List.length_take]; rfl)) ?_; (with_reducible refine (people_Add.calls _ _ x5_1 t111 t112 t113 t116 _ ?side1 ?side2 A11.out).mono ?_); (case side1 => repeat (first | exact (Kd.R_reads' HO_5.out).2.2 | (with_reducible refine Kd.C_alloc ?_ _) | (with_reducible refine Kd.C_drewN ?_ _) | (with_reducible refine Kd.C_drew ?_))); (case side2 => exact (Kd.R_reads' HO_5.out).2.1); rintro e w21 ⟨v114, rfl, ho0, hb⟩; refine ⟨_, rfl, ?_⟩; have n0_ := Aside0.mk (Kd.R_elder' (by (with_reducible repeat (first | apply Kd.R_alloc | apply Kd.R_drewN | apply Kd.R_drew)); exact HO_5.out) (Kd.R_base ho0) hb); have n1_ := Aside0.mk (Kd.R_elder' (by (with_reducible repeat (first | apply Kd.R_alloc | apply Kd.R_drewN | apply Kd.R_drew)); exact HO_6.out) (Kd.R_base ho0) hb); have n2_ := Aside0.mk (Kd.R_lower (Kd.R_new' (Kd.R_new' ho0 (Kd.R_lt (by (with_reducible repeat (first | apply Kd.R_alloc | apply Kd.R_drewN | apply Kd.R_drew)); exact HO_5.out))) (Kd.R_lt (by (with_reducible repeat (first | apply Kd.R_alloc | apply Kd.R_drewN | apply Kd.R_drew)); exact HO_6.out))) (below_size (by repeat (first | (with_reducible first | exact HB.out | apply below_alloc | apply pw_below_drewN | apply below_drew1) | exact HB.out)))); have n3_ := Aside0.mk (below_step (by repeat (first | (with_reducible first | exact HB.out | apply below_alloc | apply pw_below_drewN | apply below_drew1) | exact HB.out)) hb); clear HO_5; clear HO_6; clear HB; have HO_5 := n0_; have HO_6 := n1_; have HO115 := n2_; have HB := n3_; clear n0_ n1_ n2_ n3_; (try clear hb); (try clear hb2); (try clear hk); (try clear hi); (try clear ho0)) | ((with_reducible refine gate_callee (f := 7) rfl ?_); refine goesL_ (some 35) rfl rfl Try.func7 (by kernel_rfl) rfl #[.int .i64 a1, .int .i64 ji5] rfl (by (try simp only [List.map_toArray, List.map_cons, List.map_nil]); first | done | (simp only [hji5]; rfl) | rfl | (simp only [List.length_drop, List.length_take]; rfl)) ?_; (with_reducible refine (comitialaw12_within.calls a1 ji5 t117 _ A12.out).mono ?_); rintro e w' ⟨rfl, ⟨nd, rfl⟩⟩; refine ⟨_, rfl, ?_⟩; have p118 : 0 ≤ ((ji14) : Int) := of_decide_eq_true (by first | (with_reducible assumption) | assumption); have q118 : (ji14) < (l0.length : Int) := of_decide_eq_true (by first | (with_reducible assumption) | assumption); obtain ⟨ad118, e118, hx118_0, hx118_1, hx118_2⟩ := at_T31 HR0.out (ji14) p118 q118; obtain rfl : ad110 = ad118 := (by injection e118); replace hx118_0 := (HB.out.cell (World.block_lt_of_cell? w _ hx118_0)).trans hx118_0; replace hx118_1 := (HB.out.cell (World.block_lt_of_cell? w _ hx118_1)).trans hx118_1; replace hx118_2 := (HB.out.cell (World.block_lt_of_cell? w _ hx118_2)).trans hx118_2; replace p118 := eq_true p118; replace q118 := eq_true q118) | ((with_reducible refine gate_callee (f := 6) rfl ?_); refine goesL_ (some 41) rfl rfl Try.func6 (by kernel_rfl) rfl #[.agg #[.int .i64 ((rd_T31 l0 (ji14)).f0.f0), .int .i64 ((rd_T31 l0 (ji14)).f0.f1), .bool ((rd_T31 l0 (ji14)).f1)]] rfl (by (try simp only [List.map_toArray, List.map_cons, List.map_nil]); first | done | (simp only [hji14]; rfl) | rfl | (simp only [List.length_drop, List.length_take]; rfl)) ?_; (with_reducible refine (comitialaw12_Act_user.calls ((rd_T31 l0 (ji14)).f0.f0) ((rd_T31 l0 (ji14)).f0.f1) ((rd_T31 l0 (ji14)).f1) t119 t120 _ A17.out).mono ?_); rintro e w22 ⟨rfl, hb⟩; refine ⟨_, rfl, ?_⟩; have n0_ := Aside0.mk (Kd.R_below (by (with_reducible repeat (first | apply Kd.R_alloc | apply Kd.R_drewN | apply Kd.R_drew)); exact HO_5.out) hb); have n1_ := Aside0.mk (Kd.R_below (by (with_reducible repeat (first | apply Kd.R_alloc | apply Kd.R_drewN | apply Kd.R_drew)); exact HO_6.out) hb); have n2_ := Aside0.mk (Kd.R_below (by (with_reducible repeat (first | apply Kd.R_alloc | apply Kd.R_drewN | apply Kd.R_drew)); exact HO115.out) hb); have n3_ := Aside0.mk (below_step (by repeat (first | (with_reducible first | exact HB.out | apply below_alloc | apply pw_below_drewN | apply below_drew1) | exact HB.out)) hb); clear HO_5; clear HO_6; clear HO115; clear HB; have HO_5 := n0_; have HO_6 := n1_; have HO115 := n2_; have HB := n3_; clear n0_ n1_ n2_ n3_; (try clear hb); (try clear hb2); (try clear hk); (try clear hi); obtain ⟨Ao23, co23, eo23⟩ := Kd.R_slice HO_6.out; subst eo23) | ((with_reducible refine gate_callee (f := 5) rfl ?_); refine goesL_ (some 42) rfl rfl Try.func5 (by kernel_rfl) rfl #[.slice Ao23 x6_1.length co23, .agg #[.int .i64 t119, .int .i64 t120]] rfl (by (try simp only [List.map_toArray, List.map_cons, List.map_nil]); first | done | rfl | (simp only [List.length_drop, List.length_take]; rfl)) ?_; (with_reducible refine (people_Add.calls _ _ x6_1 t119 t120 t121 t124 _ ?side1 ?side2 A18.out).mono ?_); (case side1 => repeat (first | exact (Kd.R_reads' HO_6.out).2.2 | (with_reducible refine Kd.C_alloc ?_ _) | (with_reducible refine Kd.C_drewN ?_ _) | (with_reducible refine Kd.C_drew ?_))); (case side2 => exact (Kd.R_reads' HO_6.out).2.1); rintro e w24 ⟨v122, rfl, ho0, hb⟩; refine ⟨_, rfl, ?_⟩; have n0_ := Aside0.mk (Kd.R_elder' (by (with_reducible repeat (first | apply Kd.R_alloc | apply Kd.R_drewN | apply Kd.R_drew)); exact HO_5.out) (Kd.R_base ho0) hb); have n1_ := Aside0.mk (Kd.R_elder' (by (with_reducible repeat (first | apply Kd.R_alloc | apply Kd.R_drewN | apply Kd.R_drew)); exact HO_6.out) (Kd.R_base ho0) hb); have n2_ := Aside0.mk (Kd.R_elder' (by (with_reducible repeat (first | apply Kd.R_alloc | apply Kd.R_drewN | apply Kd.R_drew)); exact HO115.out) (Kd.R_base ho0) hb); have n3_ := Aside0.mk (Kd.R_lower (Kd.R_new' (Kd.R_new' (Kd.R_new' ho0 (Kd.R_lt (by (with_reducible repeat (first | apply Kd.R_alloc | apply Kd.R_drewN | apply Kd.R_drew)); exact HO_5.out))) (Kd.R_lt (by (with_reducible repeat (first | apply Kd.R_alloc | apply Kd.R_drewN | apply Kd.R_drew)); exact HO_6.out))) (Kd.R_lt (by (with_reducible repeat (first | apply Kd.R_alloc | apply Kd.R_drewN | apply Kd.R_drew)); exact HO115.out))) (below_size (by repeat (first | (with_reducible first | exact HB.out | apply below_alloc | apply pw_below_drewN | apply below_drew1) | exact HB.out)))); have n4_ := Aside0.mk (below_step (by repeat (first | (with_reducible first | exact HB.out | apply below_alloc | apply pw_below_drewN | apply below_drew1) | exact HB.out)) hb); clear HO_5; clear HO_6; clear HO115; clear HB; have HO_5 := n0_; have HO_6 := n1_; have HO115 := n2_; have HO123 := n3_; have HB := n4_; clear n0_ n1_ n2_ n3_ n4_; (try clear hb); (try clear hb2); (try clear hk); (try clear hi); (try clear ho0)))
                    go_roundg k1
                    case measure => have := HK1.out; omega
                    case rel => exact ⟨(t113), (t121), (wrap64 (x8_1 + 1)), (by first | rfl | (simp; done) | (simp [*]; done) | exact congrArg Value.bool (emp_ne _)), H', ⟨by have := HK1.out; omega⟩, ⟨by (with_reducible repeat (first | apply Kd.R_alloc | apply Kd.R_drewN | apply Kd.R_drew)); exact Kd.R_mono HO115.out (fun _ hk => hk.2)⟩, ⟨by (with_reducible repeat (first | apply Kd.R_alloc | apply Kd.R_drewN | apply Kd.R_drew)); exact Kd.R_mono HO123.out (fun _ hk => hk.2)⟩, ⟨by repeat (first | (with_reducible first | exact HB.out | apply below_alloc | apply pw_below_drewN | apply below_drew1) | exact HB.out)⟩⟩
                  · rw [if_neg c16] at H
                    exact absurd H (by simp)
                · rw [if_neg c15] at H
                  exact absurd H (by simp)
            · rw [if_neg c9] at H
              exact absurd H (by simp)
          · rw [if_neg c8] at H
            exact absurd H (by simp)
        · rw [if_neg c7] at H
          have c7b0 : decide (x8_1 < ji5) = false := decide_eq_false c7
          clear c7
          replace H := Option.bind_eq_some_iff.mp H
          obtain ⟨t109, A250, H⟩ := H
          replace H : (some t109) = some r := H
          have A25 := Aside0.mk A250
          clear A250
          obtain rfl := Option.some.inj H
          obtain ⟨Ao26, co26, eo26⟩ := Kd.R_slice HO_5.out
          subst eo26
          obtain ⟨Ao27, co27, eo27⟩ := Kd.R_slice HO_6.out
          subst eo27
          go_wp2_with (first | ((with_reducible refine gate_callee (f := 8) rfl ?_); refine goesL_ (some 47) rfl rfl Try.func8 (by kernel_rfl) rfl #[.slice Ao26 x5_1.length co26, .slice Ao27 x6_1.length co27] rfl (by (try simp only [List.map_toArray, List.map_cons, List.map_nil]); first | done | rfl | (simp only [List.length_drop, List.length_take]; rfl)) ?_; (with_reducible refine (comitialaw12_same.calls k1 _ _ x5_1 _ _ x6_1 t109 _ ?side1 ?side2 ?side3 ?side4 A25.out).mono ?_); (case side1 => repeat (first | exact (Kd.R_reads' HO_5.out).2.2 | (with_reducible refine Kd.C_alloc ?_ _) | (with_reducible refine Kd.C_drewN ?_ _) | (with_reducible refine Kd.C_drew ?_))); (case side2 => exact (Kd.R_reads' HO_5.out).2.1); (case side3 => repeat (first | exact (Kd.R_reads' HO_6.out).2.2 | (with_reducible refine Kd.C_alloc ?_ _) | (with_reducible refine Kd.C_drewN ?_ _) | (with_reducible refine Kd.C_drew ?_))); (case side4 => exact (Kd.R_reads' HO_6.out).2.1); rintro e w' ⟨rfl, ⟨nd, rfl⟩⟩; refine ⟨_, rfl, ?_⟩))
          go_ret
          exact ⟨by first | rfl | (simp [errW_none, errW_some] <;> rfl) | (simp only [← hji5]; first | rfl | (simp [errW_none, errW_some] <;> rfl)) | (simp [*, errW_none, errW_some] <;> rfl), by repeat (first | (with_reducible first | exact HB.out | apply below_alloc | apply pw_below_drewN | apply below_drew1) | exact HB.out)⟩
  · replace c4 := Bool.eq_false_iff.mpr c4
    subst c4
    have H1 : (some false) = some r := by rw [if_neg (show ¬ (false = true) by decide)] at H; exact H
    clear H
    have H := H1
    clear H1
    obtain rfl := Option.some.inj H
    go_enter Try.func3, Try.ntmps3
    go_wp2_with (first | ((with_reducible refine gate_callee (f := 4) rfl ?_); refine goesL_ (some 9) rfl rfl Try.func4 (by kernel_rfl) rfl #[] rfl (by (try simp only [List.map_toArray, List.map_cons, List.map_nil]); first | done | rfl | (simp only [List.length_drop, List.length_take]; rfl)) ?_; (with_reducible refine (comitialaw12_known.calls  false _ A3.out).mono ?_); rintro e w28 ⟨rfl, hb⟩; refine ⟨_, rfl, ?_⟩; have n0_ := Aside0.mk (below_step (by repeat (first | (with_reducible first | exact HB.out | apply below_alloc | apply pw_below_drewN | apply below_drew1) | exact HB.out)) hb); clear HB; have HB := n0_; clear n0_; (try clear hb); (try clear hb2); (try clear hk); (try clear hi)))
    go_ret
    exact ⟨by first | rfl | (simp [errW_none, errW_some] <;> rfl) | (simp [*, errW_none, errW_some] <;> rfl), by repeat (first | (with_reducible first | exact HB.out | apply below_alloc | apply pw_below_drewN | apply below_drew1) | exact HB.out)⟩

end Go.Proofs.Ytlcnhamcbakfcaa.Q

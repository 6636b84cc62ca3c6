/- Contracts of Go functions: each call answers what the Lean function of its name answers. Conditions: stand in each theorem. Written by this seat's own program over the kit's printer. -/
import Derived.Test.YtjmnflgicolbdaaQ0
import Derived.Test.YtjmnflgicolbdaaQxcm
namespace Go.Proofs.Ytjmnflgicolbdaa.Q
open Go.RowKit Go.Proofs.YtjmnflgicolbdaaW.PrintWords Go.Proofs.YtjmnflgicolbdaaW.PrintLast Go.Proofs.YtjmnflgicolbdaaW.PrintMore
attribute [local go_sem] max2_int min2_int max_two min_two max_three min_three max_four min_four   -- for this text's walks alone
set_option linter.unusedVariables false
set_option linter.unusedSimpArgs false

/-! ### comitiaref4_Normal: function 23 -/
mutual
def comitiaref4_Normal.l0 : Nat → List (S43) → List (S43) → ByteArray → Int → Int → Int → Option ((List (S43)))
  | 0, _, _, _, _, _, _ => none
  | k + 1, x0, x3, x4, x5, x6, x7 => if x7 ≤ (x0.length : Int) then (if x7 < (x0.length : Int) then (if 0 ≤ x7 then (comitiaref4_Normal.j1 k x0 x3 x4 x5 x6 x7 ((rd_T43 x0 x7).f0) ((rd_T43 x0 x7).f1) ((rd_T43 x0 x7).f2)) else (none)) else (comitiaref4_Normal.j1 k x0 x3 x4 x5 x6 x7 1 0 (⟨#[]⟩ : ByteArray))) else (if x6 > 0 then (if x3.length < 4398046511104 then (some (x3 ++ [(⟨1, x6, (⟨#[]⟩ : ByteArray)⟩ : S43)])) else (none)) else (some x3))
def comitiaref4_Normal.j1 : Nat → List (S43) → List (S43) → ByteArray → Int → Int → Int → Int → Int → ByteArray → Option ((List (S43)))
  | 0, _, _, _, _, _, _, _, _, _ => none
  | k + 1, x0, x3, x4, x5, x6, x7, x201000, x201001, x201002 => if x201000 = 2 then (if x6 > 0 then (if x3.length < 4398046511104 then (if x4.size + x201002.size ≤ 9223372036854775807 then (comitiaref4_Normal.l0 k x0 (x3 ++ [(⟨1, x6, (⟨#[]⟩ : ByteArray)⟩ : S43)]) (x4 ++ x201002) x5 0 (wrap64 (x7 + 1))) else (none)) else (none)) else (if x4.size + x201002.size ≤ 9223372036854775807 then (comitiaref4_Normal.l0 k x0 x3 (x4 ++ x201002) x5 0 (wrap64 (x7 + 1))) else (none))) else (if x201000 = 3 then (if x6 > 0 then (if x3.length < 4398046511104 then (comitiaref4_Normal.l0 k x0 (x3 ++ [(⟨1, x6, (⟨#[]⟩ : ByteArray)⟩ : S43)]) x4 (wrap64 (x5 + x201001)) 0 (wrap64 (x7 + 1))) else (none)) else (comitiaref4_Normal.l0 k x0 x3 x4 (wrap64 (x5 + x201001)) 0 (wrap64 (x7 + 1)))) else (if x4.toList = ([] : List UInt8) then (if x5 > 0 then (if x3.length < 4398046511104 then (comitiaref4_Normal.l0 k x0 (x3 ++ [(⟨3, x5, (⟨#[]⟩ : ByteArray)⟩ : S43)]) (⟨#[]⟩ : ByteArray) 0 (wrap64 (x6 + x201001)) (wrap64 (x7 + 1))) else (none)) else (comitiaref4_Normal.l0 k x0 x3 (⟨#[]⟩ : ByteArray) 0 (wrap64 (x6 + x201001)) (wrap64 (x7 + 1)))) else (if x3.length < 4398046511104 then ((some (x3 ++ [(⟨2, 0, x4⟩ : S43)] : List (S43))).bind fun y211 => (if x5 > 0 then (if y211.length < 4398046511104 then (comitiaref4_Normal.l0 k x0 (y211 ++ [(⟨3, x5, (⟨#[]⟩ : ByteArray)⟩ : S43)]) (⟨#[]⟩ : ByteArray) 0 (wrap64 (x6 + x201001)) (wrap64 (x7 + 1))) else (none)) else (comitiaref4_Normal.l0 k x0 y211 (⟨#[]⟩ : ByteArray) 0 (wrap64 (x6 + x201001)) (wrap64 (x7 + 1))))) else (none))))
end
def comitiaref4_Normal.f (k : Nat) (l0 : List (S43)) : Option ((List (S43))) := comitiaref4_Normal.l0 k l0 ([] : List (S43)) (⟨#[]⟩ : ByteArray) 0 0 0
theorem comitiaref4_Normal.mono_l : ∀ k, (∀ y0 y1 y2 y3 y4 y5, LeO (comitiaref4_Normal.l0 k y0 y1 y2 y3 y4 y5) (comitiaref4_Normal.l0 (k + 1) y0 y1 y2 y3 y4 y5)) ∧ (∀ y0 y1 y2 y3 y4 y5 y6 y7 y8, LeO (comitiaref4_Normal.j1 k y0 y1 y2 y3 y4 y5 y6 y7 y8) (comitiaref4_Normal.j1 (k + 1) y0 y1 y2 y3 y4 y5 y6 y7 y8))
  | 0 => ⟨fun _ _ _ _ _ _ r h => by simp [comitiaref4_Normal.l0] at h, fun _ _ _ _ _ _ _ _ _ r h => by simp [comitiaref4_Normal.j1] at h⟩
  | k + 1 => by
    obtain ⟨ih0, ih1⟩ := comitiaref4_Normal.mono_l k
    refine ⟨?_, ?_⟩
    · intro y0 y1 y2 y3 y4 y5
      unfold comitiaref4_Normal.l0
      repeat' first
      | (with_reducible exact ih0 _ _ _ _ _ _)
      | (with_reducible exact ih1 _ _ _ _ _ _ _ _ _)
      | (with_reducible exact LeO.refl _)
      | (with_reducible exact LeO.none _)
      | (with_reducible refine LeO.ite ?_ ?_)
      | (with_reducible refine LeO.bind ?_ (fun _ => ?_))
      | exact ih0 _ _ _ _ _ _
      | exact ih1 _ _ _ _ _ _ _ _ _
      | exact LeO.none _
      | refine LeO.ite ?_ ?_
      | refine LeO.bind ?_ (fun _ => ?_)
    · intro y0 y1 y2 y3 y4 y5 y6 y7 y8
      unfold comitiaref4_Normal.j1
      repeat' first
      | (with_reducible exact ih0 _ _ _ _ _ _)
      | (with_reducible exact ih1 _ _ _ _ _ _ _ _ _)
      | (with_reducible exact LeO.refl _)
      | (with_reducible exact LeO.none _)
      | (with_reducible refine LeO.ite ?_ ?_)
      | (with_reducible refine LeO.bind ?_ (fun _ => ?_))
      | exact ih0 _ _ _ _ _ _
      | exact ih1 _ _ _ _ _ _ _ _ _
      | exact LeO.none _
      | refine LeO.ite ?_ ?_
      | refine LeO.bind ?_ (fun _ => ?_)
theorem comitiaref4_Normal.mono : ∀ a0 k, LeO (comitiaref4_Normal.f k a0) (comitiaref4_Normal.f (k + 1) a0) := by
  intro a0 k
  obtain ⟨ih0, ih1⟩ := comitiaref4_Normal.mono_l k
  unfold comitiaref4_Normal.f
  repeat' first
      | (with_reducible exact ih0 _ _ _ _ _ _)
      | (with_reducible exact ih1 _ _ _ _ _ _ _ _ _)
      | (with_reducible exact LeO.refl _)
      | (with_reducible exact LeO.none _)
      | (with_reducible refine LeO.ite ?_ ?_)
      | (with_reducible refine LeO.bind ?_ (fun _ => ?_))
      | exact ih0 _ _ _ _ _ _
      | exact ih1 _ _ _ _ _ _ _ _ _
      | exact LeO.none _
      | refine LeO.ite ?_ ?_
      | refine LeO.bind ?_ (fun _ => ?_)
set_option maxHeartbeats 8000000 in
set_option maxRecDepth 100000 in
theorem comitiaref4_Normal.calls (k : Nat) (A0 : Option Addr) (c0 : Nat) (l0 : List (S43)) (r : List (S43)) (w : World) (hr0 : Kd.C k43 w A0 l0.length l0) (hc0 : l0.length ≤ c0) (h : comitiaref4_Normal.f k l0 = some r) :
    Calls Try.prog 23 #[.slice A0 l0.length c0] w fun e w' => ∃ v0_ : Value, e = .returned (v0_) ∧ Kd.R k43 43 w' w.heap.size (fun _ => True) v0_ r ∧ Below w.heap.size w w' := by
  have hu43 := Try.underlying43
  have HR0 := Aside0.mk hr0
  have HC0 := Aside0.mk hc0
  clear hr0 hc0
  have HB := Aside0.mk (Below.refl w.heap.size w)
  have H : (comitiaref4_Normal.l0 k l0 ([] : List (S43)) (⟨#[]⟩ : ByteArray) 0 0 0) = some r := h
  clear h
  have H' := Aside0.mk H
  clear H
  go_enter Try.func23, Try.ntmps23
  go_wp2
  go_loopg [3, 4, 5, 6, 7] k (fun kq v3 v4 v5 v6 v7 w' => ∃ (x3_1 : List (S43)) (x4_1 : ByteArray) (x5_1 : Int) (x6_1 : Int) (x7_1 : Int), v4 = .string x4_1 ∧ v5 = .int .i64 x5_1 ∧ v6 = .int .i64 x6_1 ∧ v7 = .int .i64 x7_1 ∧ Aside0 (comitiaref4_Normal.l0 kq l0 x3_1 x4_1 x5_1 x6_1 x7_1 = some r) ∧ Aside0 (kq ≤ k) ∧ Aside0 (Kd.R k43 43 w' w.heap.size (fun _ => True) v3 x3_1) ∧ Aside0 (Below w.heap.size w w'))
  case atStart => exact ⟨(([] : List (S43))), ((⟨#[]⟩ : ByteArray)), (0), (0), (0), (by first | rfl | (simp; done) | (simp [*]; done) | exact congrArg Value.bool (emp_ne _)), (by first | rfl | (simp; done) | (simp [*]; done) | exact congrArg Value.bool (emp_ne _)), (by first | rfl | (simp; done) | (simp [*]; done) | exact congrArg Value.bool (emp_ne _)), (by first | rfl | (simp; done) | (simp [*]; done) | exact congrArg Value.bool (emp_ne _)), H', ⟨Nat.le_refl _⟩, ⟨by first | exact Kd.R_nil _ _ _ _ _ | exact Kd.N_nil _ _ _ _ _ | exact Kd.V_nil _ _ _ _ _ | exact Kd.Q_nil _ _ _ _ _ | exact Kd.S_nil _ _ _ _ _⟩, ⟨by repeat (first | (with_reducible first | exact HB.out | apply below_alloc | apply pw_below_drewN | apply below_drew1) | exact HB.out)⟩⟩
  case round =>
    clear H'
    obtain ⟨x3_1, x4_1, x5_1, x6_1, x7_1, rfl, rfl, rfl, rfl, HA, HK1, HO_3, HB⟩ := hrel
    cases gk with
    | zero => exact absurd HA.out (by simp [comitiaref4_Normal.l0])
    | succ k1 =>
      have H := HA.out
      clear HA
      simp only [comitiaref4_Normal.l0] at H
      by_cases c2 : x7_1 ≤ (l0.length : Int)
      · rw [if_pos c2] at H
        have c2b0 : decide (x7_1 ≤ (l0.length : Int)) = true := decide_eq_true c2
        clear c2
        have HC3 := Aside0.mk H
        clear H
        go_upto_if 19 with (first | ((with_reducible refine gate_dst (N := 8) rfl ?_); refine box_event ?hg (N := 8) ?hd (cs := #[.int .i64 0, .int .i64 0, .string (⟨#[]⟩ : ByteArray)]) (t := 43) ?hr ?_; (case hd => rfl); (case hg => rfl); (case hr => first | (go_simp; done) | (go_simp; rfl)); intro gb200 hg w4 hbox hb; have n0_ := Aside0.mk (Kd.R_below (Kd.R_elderB (by (with_reducible repeat (first | apply Kd.R_alloc | apply Kd.R_drewN | apply Kd.R_drew)); exact HO_3.out) gb200 (Nat.le_of_eq hg.symm)) hb); have n1_ := Aside0.mk (below_step (by repeat (first | (with_reducible first | exact HB.out | apply below_alloc | apply pw_below_drewN | apply below_drew1) | exact HB.out)) hb); have n2_ := Aside0.mk (hbox); have n3_ := Aside0.mk ((by rw [hg]; exact (below_size (by repeat (first | (with_reducible first | exact HB.out | apply below_alloc | apply pw_below_drewN | apply below_drew1) | exact HB.out))) : w.heap.size ≤ gb200)); have n4_ := Aside0.mk ((by rw [hg]; exact (below_size (by repeat (first | (with_reducible first | exact HB.out | apply below_alloc | apply pw_below_drewN | apply below_drew1) | exact HB.out))) : w.heap.size ≤ gb200)); clear HO_3; clear HB; have HO_3 := n0_; have HB := n1_; have BK200 := n2_; have GW200 := n3_; have GE200 := n4_; clear n0_ n1_ n2_ n3_ n4_; clear hb hbox hg; have hcz5_0 : w4.cell? ⟨gb200, 0, none⟩ = some (.int .i64 0) := (blk_cell BK200.out 0).trans rfl; have hcz5_1 : w4.cell? ⟨gb200, 1, none⟩ = some (.int .i64 0) := (blk_cell BK200.out 1).trans rfl; have hcz5_2 : w4.cell? ⟨gb200, 2, none⟩ = some (.string (⟨#[]⟩ : ByteArray)) := (blk_cell BK200.out 2).trans rfl; have hfz5_0 := blk_frozen BK200.out 0; have hfz5_1 := blk_frozen BK200.out 1; have hfz5_2 := blk_frozen BK200.out 2))
        (try simp only [Act.put, List.setIfInBounds_toArray, List.set_cons_zero, List.set_cons_succ])
        go_cut [] (fun wc => ∃ (kq : Nat) (x201000_2 : Int) (x201001_2 : Int) (x201002_2 : ByteArray), Aside0 (comitiaref4_Normal.j1 kq l0 x3_1 x4_1 x5_1 x6_1 x7_1 x201000_2 x201001_2 x201002_2 = some r) ∧ Aside0 (kq ≤ k1) ∧ Aside0 (Kd.R k43 43 wc w.heap.size (fun k_ => k_ ≠ gb200) u3 x3_1) ∧ Aside0 (wc.heap[gb200]? = some (.cells #[.int .i64 x201000_2, .int .i64 x201001_2, .string x201002_2] 43 (0, 0))) ∧ Aside0 (Below w.heap.size w wc))
        case first =>
          have H := HC3.out
          clear HC3
          by_cases c6 : x7_1 < (l0.length : Int)
          · rw [if_pos c6] at H
            have c6b0 : decide (x7_1 < (l0.length : Int)) = true := decide_eq_true c6
            clear c6
            (first | rw [c6b0] | rw [c6b1] | (simp only [i64_w, i32_w]; rw [c6b0]) | skip)
            by_cases c7 : 0 ≤ x7_1
            · rw [if_pos c7] at H
              have c7b0 : decide (0 ≤ x7_1) = true := decide_eq_true c7
              clear c7
              have H' := Aside0.mk H
              clear H
              have p201 : 0 ≤ (x7_1 : Int) := of_decide_eq_true (by first | (with_reducible assumption) | assumption)
              have q201 : x7_1 < (l0.length : Int) := of_decide_eq_true (by first | (with_reducible assumption) | assumption)
              obtain ⟨ad201, e201, hx201_0, hx201_1, hx201_2⟩ := at_T43 HR0.out x7_1 p201 q201
              cases e201
              have hn201_0 : ad201.block ≠ gb200 := Nat.ne_of_lt (Nat.lt_of_lt_of_le (by have := World.block_lt_of_cell? _ _ hx201_0; first | rwa [add_block] at this | exact this) GW200.out)
              have hn201_1 : ad201.block ≠ gb200 := Nat.ne_of_lt (Nat.lt_of_lt_of_le (by have := World.block_lt_of_cell? _ _ hx201_0; first | rwa [add_block] at this | exact this) GW200.out)
              have hn201_2 : ad201.block ≠ gb200 := Nat.ne_of_lt (Nat.lt_of_lt_of_le (by have := World.block_lt_of_cell? _ _ hx201_0; first | rwa [add_block] at this | exact this) GW200.out)
              replace hx201_0 := (HB.out.cell (World.block_lt_of_cell? w _ hx201_0)).trans hx201_0
              replace hx201_1 := (HB.out.cell (World.block_lt_of_cell? w _ hx201_1)).trans hx201_1
              replace hx201_2 := (HB.out.cell (World.block_lt_of_cell? w _ hx201_2)).trans hx201_2
              replace hx201_0 := (cell_far (p := ⟨gb200, 0, none⟩) (by first | (rw [add_block]; exact hn201_0) | (show (Addr.add _ _).block ≠ _; rw [add_block]; exact hn201_0) | exact hn201_0) (.int .i64 1)).trans hx201_0
              replace hx201_1 := (cell_far (p := ⟨gb200, 0, none⟩) (by first | (rw [add_block]; exact hn201_0) | (show (Addr.add _ _).block ≠ _; rw [add_block]; exact hn201_0) | exact hn201_0) (.int .i64 1)).trans hx201_1
              replace hx201_2 := (cell_far (p := ⟨gb200, 0, none⟩) (by first | (rw [add_block]; exact hn201_0) | (show (Addr.add _ _).block ≠ _; rw [add_block]; exact hn201_0) | exact hn201_0) (.int .i64 1)).trans hx201_2
              replace hx201_0 := (cell_far (p := ⟨gb200, 1, none⟩) (by first | (rw [add_block]; exact hn201_1) | (show (Addr.add _ _).block ≠ _; rw [add_block]; exact hn201_1) | exact hn201_1) (.int .i64 0)).trans hx201_0
              replace hx201_1 := (cell_far (p := ⟨gb200, 1, none⟩) (by first | (rw [add_block]; exact hn201_1) | (show (Addr.add _ _).block ≠ _; rw [add_block]; exact hn201_1) | exact hn201_1) (.int .i64 0)).trans hx201_1
              replace hx201_2 := (cell_far (p := ⟨gb200, 1, none⟩) (by first | (rw [add_block]; exact hn201_1) | (show (Addr.add _ _).block ≠ _; rw [add_block]; exact hn201_1) | exact hn201_1) (.int .i64 0)).trans hx201_2
              replace hx201_0 := (cell_far (p := ⟨gb200, 2, none⟩) (by first | (rw [add_block]; exact hn201_2) | (show (Addr.add _ _).block ≠ _; rw [add_block]; exact hn201_2) | exact hn201_2) (.string (⟨#[]⟩ : ByteArray))).trans hx201_0
              replace hx201_1 := (cell_far (p := ⟨gb200, 2, none⟩) (by first | (rw [add_block]; exact hn201_2) | (show (Addr.add _ _).block ≠ _; rw [add_block]; exact hn201_2) | exact hn201_2) (.string (⟨#[]⟩ : ByteArray))).trans hx201_1
              replace hx201_2 := (cell_far (p := ⟨gb200, 2, none⟩) (by first | (rw [add_block]; exact hn201_2) | (show (Addr.add _ _).block ≠ _; rw [add_block]; exact hn201_2) | exact hn201_2) (.string (⟨#[]⟩ : ByteArray))).trans hx201_2
              clear hn201_0
              clear hn201_1
              clear hn201_2
              replace p201 := eq_true p201
              replace q201 := eq_true q201
              have hcz8_0 : w4.cell? ⟨gb200, 0, none⟩ = some (.int .i64 0) := (blk_cell BK200.out 0).trans rfl
              have hcz8_1 : w4.cell? ⟨gb200, 1, none⟩ = some (.int .i64 0) := (blk_cell BK200.out 1).trans rfl
              have hcz8_2 : w4.cell? ⟨gb200, 2, none⟩ = some (.string (⟨#[]⟩ : ByteArray)) := (blk_cell BK200.out 2).trans rfl
              have hfz8_0 := blk_frozen BK200.out 0
              have hfz8_1 := blk_frozen BK200.out 1
              have hfz8_2 := blk_frozen BK200.out 2
              go_wp2
              go_meet
              case rel => exact ⟨_, ((rd_T43 l0 x7_1).f0), ((rd_T43 l0 x7_1).f1), ((rd_T43 l0 x7_1).f2), H', ⟨by have := HK1.out; first | omega | exact Nat.le_refl _⟩, ⟨by (with_reducible repeat (first | apply Kd.R_alloc | apply Kd.R_drewN | apply Kd.R_drew)); exact Kd.R_mono (Kd.R_far (p := ⟨gb200, 2, none⟩) (Kd.R_far (p := ⟨gb200, 1, none⟩) (Kd.R_far (p := ⟨gb200, 0, none⟩) (Kd.R_far (p := ⟨gb200, 2, none⟩) (Kd.R_far (p := ⟨gb200, 1, none⟩) (Kd.R_far (p := ⟨gb200, 0, none⟩) (Kd.R_mono HO_3.out (fun k_ hk => (⟨hk, hk.2⟩ : _ ∧ k_ ≠ gb200))) (fun _ hk => hk.2) (.int .i64 1)) (fun _ hk => hk.2) (.int .i64 0)) (fun _ hk => hk.2) (.string (⟨#[]⟩ : ByteArray))) (fun _ hk => hk.2) (.int .i64 ((rd_T43 l0 x7_1).f0))) (fun _ hk => hk.2) (.int .i64 ((rd_T43 l0 x7_1).f1))) (fun _ hk => hk.2) (.string ((rd_T43 l0 x7_1).f2))) (fun _ hk => hk.1.2)⟩, ⟨by (with_reducible repeat (first | refine blk_drewN ?_ _ | refine blk_drew ?_ | refine blk_alloc ?_ _)); refine blk_put (cs := #[.int .i64 ((rd_T43 l0 x7_1).f0), .int .i64 ((rd_T43 l0 x7_1).f1), .string (⟨#[]⟩ : ByteArray)]) ?_ 2 _ rfl; (with_reducible repeat (first | refine blk_drewN ?_ _ | refine blk_drew ?_ | refine blk_alloc ?_ _)); refine blk_put (cs := #[.int .i64 ((rd_T43 l0 x7_1).f0), .int .i64 0, .string (⟨#[]⟩ : ByteArray)]) ?_ 1 _ rfl; (with_reducible repeat (first | refine blk_drewN ?_ _ | refine blk_drew ?_ | refine blk_alloc ?_ _)); refine blk_put (cs := #[.int .i64 1, .int .i64 0, .string (⟨#[]⟩ : ByteArray)]) ?_ 0 _ rfl; (with_reducible repeat (first | refine blk_drewN ?_ _ | refine blk_drew ?_ | refine blk_alloc ?_ _)); refine blk_put (cs := #[.int .i64 1, .int .i64 0, .string (⟨#[]⟩ : ByteArray)]) ?_ 2 _ rfl; (with_reducible repeat (first | refine blk_drewN ?_ _ | refine blk_drew ?_ | refine blk_alloc ?_ _)); refine blk_put (cs := #[.int .i64 1, .int .i64 0, .string (⟨#[]⟩ : ByteArray)]) ?_ 1 _ rfl; (with_reducible repeat (first | refine blk_drewN ?_ _ | refine blk_drew ?_ | refine blk_alloc ?_ _)); refine blk_put (cs := #[.int .i64 0, .int .i64 0, .string (⟨#[]⟩ : ByteArray)]) ?_ 0 _ rfl; (with_reducible repeat (first | refine blk_drewN ?_ _ | refine blk_drew ?_ | refine blk_alloc ?_ _)); exact BK200.out⟩, ⟨by repeat (first | (with_reducible first | exact HB.out | apply below_alloc | apply pw_below_drewN | apply below_drew1 | refine below_set ?_ GE200.out) | exact HB.out)⟩⟩
            · rw [if_neg c7] at H
              exact absurd H (by simp)
          · rw [if_neg c6] at H
            have c6b0 : decide (x7_1 < (l0.length : Int)) = false := decide_eq_false c6
            clear c6
            (first | rw [c6b0] | rw [c6b1] | (simp only [i64_w, i32_w]; rw [c6b0]) | skip)
            have H' := Aside0.mk H
            clear H
            go_wp2
            go_meet
            case rel => exact ⟨_, (1), (0), ((⟨#[]⟩ : ByteArray)), H', ⟨by have := HK1.out; first | omega | exact Nat.le_refl _⟩, ⟨by (with_reducible repeat (first | apply Kd.R_alloc | apply Kd.R_drewN | apply Kd.R_drew)); exact Kd.R_mono (Kd.R_far (p := ⟨gb200, 2, none⟩) (Kd.R_far (p := ⟨gb200, 1, none⟩) (Kd.R_far (p := ⟨gb200, 0, none⟩) (Kd.R_mono HO_3.out (fun k_ hk => (⟨hk, hk.2⟩ : _ ∧ k_ ≠ gb200))) (fun _ hk => hk.2) (.int .i64 1)) (fun _ hk => hk.2) (.int .i64 0)) (fun _ hk => hk.2) (.string (⟨#[]⟩ : ByteArray))) (fun _ hk => hk.1.2)⟩, ⟨by (with_reducible repeat (first | refine blk_drewN ?_ _ | refine blk_drew ?_ | refine blk_alloc ?_ _)); refine blk_put (cs := #[.int .i64 1, .int .i64 0, .string (⟨#[]⟩ : ByteArray)]) ?_ 2 _ rfl; (with_reducible repeat (first | refine blk_drewN ?_ _ | refine blk_drew ?_ | refine blk_alloc ?_ _)); refine blk_put (cs := #[.int .i64 1, .int .i64 0, .string (⟨#[]⟩ : ByteArray)]) ?_ 1 _ rfl; (with_reducible repeat (first | refine blk_drewN ?_ _ | refine blk_drew ?_ | refine blk_alloc ?_ _)); refine blk_put (cs := #[.int .i64 0, .int .i64 0, .string (⟨#[]⟩ : ByteArray)]) ?_ 0 _ rfl; (with_reducible repeat (first | refine blk_drewN ?_ _ | refine blk_drew ?_ | refine blk_alloc ?_ _)); exact BK200.out⟩, ⟨by repeat (first | (with_reducible first | exact HB.out | apply below_alloc | apply pw_below_drewN | apply below_drew1 | refine below_set ?_ GE200.out) | exact HB.out)⟩⟩
        case rest =>
          clear HC3
          try clear c2
          try clear c2b0
          try clear p2
          try clear q2
          try clear hx2
          try clear c6
          try clear c6b0
          try clear c7
          try clear c7b0
          try clear hcz5_0
          try clear hcz5_1
          try clear hcz5_2
          try clear hcz8_0
          try clear hcz8_1
          try clear hcz8_2
          try clear hfz5_0
          try clear hfz5_1
          try clear hfz5_2
          try clear hfz8_0
          try clear hfz8_1
          try clear hfz8_2
          try clear hx201_0
          try clear hx201_1
          try clear hx201_2
          try clear p201
          try clear q201
          obtain ⟨kq, x201000_2, x201001_2, x201002_2, HA, HJ2, HO_3, BK200, HB⟩ := hcut
          cases kq with
          | zero => exact absurd HA.out (by simp [comitiaref4_Normal.j1])
          | succ kj2 =>
            have H := HA.out
            clear HA
            simp only [comitiaref4_Normal.j1] at H
            by_cases c9 : x201000_2 = 2
            · rw [if_pos c9] at H
              have c9b0 : (x201000_2 == 2) = true := beq_iff_eq.mpr c9
              have c9b1 : (x201000_2 != 2) = false := bne_eq_false_iff_eq.mpr c9
              clear c9
              by_cases c10 : x6_1 > 0
              · rw [if_pos c10] at H
                have c10b0 : decide (0 < x6_1) = true := decide_eq_true c10
                clear c10
                by_cases c11 : x3_1.length < 4398046511104
                · rw [if_pos c11] at H
                  have LMc11 := Aside0.mk c11
                  clear c11
                  obtain ⟨y202, hy202⟩ : ∃ y_ : List (S43), y_ = (x3_1 ++ [(⟨1, x6_1, (⟨#[]⟩ : ByteArray)⟩ : S43)]) := ⟨_, rfl⟩
                  replace H : (if x4_1.size + x201002_2.size ≤ 9223372036854775807 then (comitiaref4_Normal.l0 kj2 l0 y202 (x4_1 ++ x201002_2) x5_1 0 (wrap64 (x7_1 + 1))) else (none)) = some r := by first | (rw [hy202]; with_reducible exact H) | (have H2_ := (Option.bind_some _ _).symm.trans H; rw [hy202]; with_reducible exact H2_) | (have H2_ := (Option.bind_some _ _).symm.trans H; with_reducible exact H2_) | with_reducible exact H | (rw [hy202]; exact H) | exact H
                  have Ny202 := Aside0.mk hy202
                  clear hy202
                  by_cases c12 : x4_1.size + x201002_2.size ≤ 9223372036854775807
                  · rw [if_pos c12] at H
                    have c12b0 := eq_true c12
                    have c12b1 : decide (x4_1.size + x201002_2.size ≤ 9223372036854775807) = true := decide_eq_true c12
                    try have c12b2 : (9223372036854775807 < x4_1.size + x201002_2.size) = False := eq_false (Nat.not_lt.2 c12)
                    have H' := Aside0.mk H
                    clear H
                    have hcz13_0 : wc.cell? ⟨gb200, 0, none⟩ = some (.int .i64 x201000_2) := (blk_cell BK200.out 0).trans rfl
                    have hcz13_1 : wc.cell? ⟨gb200, 1, none⟩ = some (.int .i64 x201001_2) := (blk_cell BK200.out 1).trans rfl
                    have hcz13_2 : wc.cell? ⟨gb200, 2, none⟩ = some (.string x201002_2) := (blk_cell BK200.out 2).trans rfl
                    have hfz13_0 := blk_frozen BK200.out 0
                    have hfz13_1 := blk_frozen BK200.out 1
                    have hfz13_2 := blk_frozen BK200.out 2
                    go_wp2_with (first | ((with_reducible refine gate_builtin (b := .append) (xs := #[.tmp 48, .tmp 51]) rfl ?_); at_builtin; refine Kd.R_append k43 (w0 := w) w.heap.size rfl (.tmp 48) (.tmp 51) 27 43 (.agg #[(.int .i64 0), (.int .i64 0), (.string ⟨#[]⟩)]) 32 rfl Try.underlying27 info43 rfl (by decide) (by omega) u3 x3_1 (⟨1, x6_1, (⟨#[]⟩ : ByteArray)⟩ : S43) [.int .i64 1, .int .i64 x6_1, .string (⟨#[]⟩ : ByteArray)] (fun k_ => k_ ≠ gb200) (fun _ => False) rfl rfl ?aP (fun _ hk => hk.elim) ?aF ?aO ?aB ?aS ?aL ?_; (case aP => exact k43_mkM _ _ _ (⟨1, x6_1, (⟨#[]⟩ : ByteArray)⟩ : S43)); (case aB => exact (by repeat (first | (with_reducible first | exact HB.out | apply below_alloc | apply pw_below_drewN | apply below_drew1 | refine below_set ?_ GE200.out) | exact HB.out))); (case aF => exact (fun k_ hk => Kd.freshB (g := gb200) (o := .cells #[.int .i64 x201000_2, .int .i64 x201001_2, .string x201002_2] 43 (0, 0)) (by (with_reducible repeat (first | refine blk_drewN ?_ _ | refine blk_drew ?_ | refine blk_alloc ?_ _)); exact BK200.out) k_ hk)); (case aO => exact (by (with_reducible repeat (first | apply Kd.R_alloc | apply Kd.R_drewN | apply Kd.R_drew)); exact HO_3.out)); (case aS => exact (below_size (by repeat (first | (with_reducible first | exact HB.out | apply below_alloc | apply pw_below_drewN | apply below_drew1 | refine below_set ?_ GE200.out) | exact HB.out)))); (case aL => have := LMc11.out; omega); intro v203 w14 ho hb hg hat; rw [← Ny202.out] at ho; have n0_ := Aside0.mk (blk_grown (g := gb200) (o := .cells #[.int .i64 x201000_2, .int .i64 x201001_2, .string x201002_2] 43 (0, 0)) (by (with_reducible repeat (first | refine blk_drewN ?_ _ | refine blk_drew ?_ | refine blk_alloc ?_ _)); exact BK200.out) hg (Kd.R_away HO_3.out (fun _ hk => hk))); have n1_ := Aside0.mk (hb); have n2_ := Aside0.mk (ho); clear BK200; clear HB; clear HO_3; have BK200 := n0_; have HB := n1_; have HO204 := n2_; clear n0_ n1_ n2_; clear ho hb hg hat; have hcz15_0 : w14.cell? ⟨gb200, 0, none⟩ = some (.int .i64 x201000_2) := (blk_cell BK200.out 0).trans rfl; have hcz15_1 : w14.cell? ⟨gb200, 1, none⟩ = some (.int .i64 x201001_2) := (blk_cell BK200.out 1).trans rfl; have hcz15_2 : w14.cell? ⟨gb200, 2, none⟩ = some (.string x201002_2) := (blk_cell BK200.out 2).trans rfl; have hfz15_0 := blk_frozen BK200.out 0; have hfz15_1 := blk_frozen BK200.out 1; have hfz15_2 := blk_frozen BK200.out 2))
                    go_roundg kj2
                    case measure => have := HK1.out; have := HJ2.out; omega
                    case rel => exact ⟨(y202), (x4_1 ++ x201002_2), (x5_1), (0), (wrap64 (x7_1 + 1)), (by first | rfl | (simp; done) | (simp [*]; done) | exact congrArg Value.bool (emp_ne _)), (by first | rfl | (simp; done) | (simp [*]; done) | exact congrArg Value.bool (emp_ne _)), (by first | rfl | (simp; done) | (simp [*]; done) | exact congrArg Value.bool (emp_ne _)), (by first | rfl | (simp; done) | (simp [*]; done) | exact congrArg Value.bool (emp_ne _)), H', ⟨by have := HK1.out; have := HJ2.out; omega⟩, ⟨by (with_reducible repeat (first | apply Kd.R_alloc | apply Kd.R_drewN | apply Kd.R_drew)); exact Kd.R_mono HO204.out (fun _ hk => trivial)⟩, ⟨by repeat (first | (with_reducible first | exact HB.out | apply below_alloc | apply pw_below_drewN | apply below_drew1 | refine below_set ?_ GE200.out) | exact HB.out)⟩⟩
                  · rw [if_neg c12] at H
                    exact absurd H (by simp)
                · rw [if_neg c11] at H
                  exact absurd H (by simp)
              · rw [if_neg c10] at H
                have c10b0 : decide (0 < x6_1) = false := decide_eq_false c10
                clear c10
                by_cases c16 : x4_1.size + x201002_2.size ≤ 9223372036854775807
                · rw [if_pos c16] at H
                  have c16b0 := eq_true c16
                  have c16b1 : decide (x4_1.size + x201002_2.size ≤ 9223372036854775807) = true := decide_eq_true c16
                  try have c16b2 : (9223372036854775807 < x4_1.size + x201002_2.size) = False := eq_false (Nat.not_lt.2 c16)
                  have H' := Aside0.mk H
                  clear H
                  have hcz17_0 : wc.cell? ⟨gb200, 0, none⟩ = some (.int .i64 x201000_2) := (blk_cell BK200.out 0).trans rfl
                  have hcz17_1 : wc.cell? ⟨gb200, 1, none⟩ = some (.int .i64 x201001_2) := (blk_cell BK200.out 1).trans rfl
                  have hcz17_2 : wc.cell? ⟨gb200, 2, none⟩ = some (.string x201002_2) := (blk_cell BK200.out 2).trans rfl
                  have hfz17_0 := blk_frozen BK200.out 0
                  have hfz17_1 := blk_frozen BK200.out 1
                  have hfz17_2 := blk_frozen BK200.out 2
                  go_wp2
                  go_roundg kj2
                  case measure => have := HK1.out; have := HJ2.out; omega
                  case rel => exact ⟨(x3_1), (x4_1 ++ x201002_2), (x5_1), (0), (wrap64 (x7_1 + 1)), (by first | rfl | (simp; done) | (simp [*]; done) | exact congrArg Value.bool (emp_ne _)), (by first | rfl | (simp; done) | (simp [*]; done) | exact congrArg Value.bool (emp_ne _)), (by first | rfl | (simp; done) | (simp [*]; done) | exact congrArg Value.bool (emp_ne _)), (by first | rfl | (simp; done) | (simp [*]; done) | exact congrArg Value.bool (emp_ne _)), H', ⟨by have := HK1.out; have := HJ2.out; omega⟩, ⟨by (with_reducible repeat (first | apply Kd.R_alloc | apply Kd.R_drewN | apply Kd.R_drew)); exact Kd.R_mono HO_3.out (fun _ hk => trivial)⟩, ⟨by repeat (first | (with_reducible first | exact HB.out | apply below_alloc | apply pw_below_drewN | apply below_drew1 | refine below_set ?_ GE200.out) | exact HB.out)⟩⟩
                · rw [if_neg c16] at H
                  exact absurd H (by simp)
            · rw [if_neg c9] at H
              have c9b0 : (x201000_2 == 2) = false := beq_eq_false_iff_ne.mpr c9
              have c9b1 : (x201000_2 != 2) = true := bne_iff_ne.mpr c9
              by_cases c18 : x201000_2 = 3
              · rw [if_pos c18] at H
                have c18b0 : (x201000_2 == 3) = true := beq_iff_eq.mpr c18
                have c18b1 : (x201000_2 != 3) = false := bne_eq_false_iff_eq.mpr c18
                clear c18
                by_cases c19 : x6_1 > 0
                · rw [if_pos c19] at H
                  have c19b0 : decide (0 < x6_1) = true := decide_eq_true c19
                  clear c19
                  by_cases c20 : x3_1.length < 4398046511104
                  · rw [if_pos c20] at H
                    have LMc20 := Aside0.mk c20
                    clear c20
                    obtain ⟨y205, hy205⟩ : ∃ y_ : List (S43), y_ = (x3_1 ++ [(⟨1, x6_1, (⟨#[]⟩ : ByteArray)⟩ : S43)]) := ⟨_, rfl⟩
                    replace H : (comitiaref4_Normal.l0 kj2 l0 y205 x4_1 (wrap64 (x5_1 + x201001_2)) 0 (wrap64 (x7_1 + 1))) = some r := by first | (rw [hy205]; with_reducible exact H) | (have H2_ := (Option.bind_some _ _).symm.trans H; rw [hy205]; with_reducible exact H2_) | (have H2_ := (Option.bind_some _ _).symm.trans H; with_reducible exact H2_) | with_reducible exact H | (rw [hy205]; exact H) | exact H
                    have Ny205 := Aside0.mk hy205
                    clear hy205
                    have H' := Aside0.mk H
                    clear H
                    have hcz21_0 : wc.cell? ⟨gb200, 0, none⟩ = some (.int .i64 x201000_2) := (blk_cell BK200.out 0).trans rfl
                    have hcz21_1 : wc.cell? ⟨gb200, 1, none⟩ = some (.int .i64 x201001_2) := (blk_cell BK200.out 1).trans rfl
                    have hcz21_2 : wc.cell? ⟨gb200, 2, none⟩ = some (.string x201002_2) := (blk_cell BK200.out 2).trans rfl
                    have hfz21_0 := blk_frozen BK200.out 0
                    have hfz21_1 := blk_frozen BK200.out 1
                    have hfz21_2 := blk_frozen BK200.out 2
                    go_wp2_with (first | ((with_reducible refine gate_builtin (b := .append) (xs := #[.tmp 63, .tmp 66]) rfl ?_); at_builtin; refine Kd.R_append k43 (w0 := w) w.heap.size rfl (.tmp 63) (.tmp 66) 27 43 (.agg #[(.int .i64 0), (.int .i64 0), (.string ⟨#[]⟩)]) 32 rfl Try.underlying27 info43 rfl (by decide) (by omega) u3 x3_1 (⟨1, x6_1, (⟨#[]⟩ : ByteArray)⟩ : S43) [.int .i64 1, .int .i64 x6_1, .string (⟨#[]⟩ : ByteArray)] (fun k_ => k_ ≠ gb200) (fun _ => False) rfl rfl ?aP (fun _ hk => hk.elim) ?aF ?aO ?aB ?aS ?aL ?_; (case aP => exact k43_mkM _ _ _ (⟨1, x6_1, (⟨#[]⟩ : ByteArray)⟩ : S43)); (case aB => exact (by repeat (first | (with_reducible first | exact HB.out | apply below_alloc | apply pw_below_drewN | apply below_drew1 | refine below_set ?_ GE200.out) | exact HB.out))); (case aF => exact (fun k_ hk => Kd.freshB (g := gb200) (o := .cells #[.int .i64 x201000_2, .int .i64 x201001_2, .string x201002_2] 43 (0, 0)) (by (with_reducible repeat (first | refine blk_drewN ?_ _ | refine blk_drew ?_ | refine blk_alloc ?_ _)); exact BK200.out) k_ hk)); (case aO => exact (by (with_reducible repeat (first | apply Kd.R_alloc | apply Kd.R_drewN | apply Kd.R_drew)); exact HO_3.out)); (case aS => exact (below_size (by repeat (first | (with_reducible first | exact HB.out | apply below_alloc | apply pw_below_drewN | apply below_drew1 | refine below_set ?_ GE200.out) | exact HB.out)))); (case aL => have := LMc20.out; omega); intro v206 w22 ho hb hg hat; rw [← Ny205.out] at ho; have n0_ := Aside0.mk (blk_grown (g := gb200) (o := .cells #[.int .i64 x201000_2, .int .i64 x201001_2, .string x201002_2] 43 (0, 0)) (by (with_reducible repeat (first | refine blk_drewN ?_ _ | refine blk_drew ?_ | refine blk_alloc ?_ _)); exact BK200.out) hg (Kd.R_away HO_3.out (fun _ hk => hk))); have n1_ := Aside0.mk (hb); have n2_ := Aside0.mk (ho); clear BK200; clear HB; clear HO_3; have BK200 := n0_; have HB := n1_; have HO207 := n2_; clear n0_ n1_ n2_; clear ho hb hg hat; have hcz23_0 : w22.cell? ⟨gb200, 0, none⟩ = some (.int .i64 x201000_2) := (blk_cell BK200.out 0).trans rfl; have hcz23_1 : w22.cell? ⟨gb200, 1, none⟩ = some (.int .i64 x201001_2) := (blk_cell BK200.out 1).trans rfl; have hcz23_2 : w22.cell? ⟨gb200, 2, none⟩ = some (.string x201002_2) := (blk_cell BK200.out 2).trans rfl; have hfz23_0 := blk_frozen BK200.out 0; have hfz23_1 := blk_frozen BK200.out 1; have hfz23_2 := blk_frozen BK200.out 2))
                    go_roundg kj2
                    case measure => have := HK1.out; have := HJ2.out; omega
                    case rel => exact ⟨(y205), (x4_1), (wrap64 (x5_1 + x201001_2)), (0), (wrap64 (x7_1 + 1)), (by first | rfl | (simp; done) | (simp [*]; done) | exact congrArg Value.bool (emp_ne _)), (by first | rfl | (simp; done) | (simp [*]; done) | exact congrArg Value.bool (emp_ne _)), (by first | rfl | (simp; done) | (simp [*]; done) | exact congrArg Value.bool (emp_ne _)), (by first | rfl | (simp; done) | (simp [*]; done) | exact congrArg Value.bool (emp_ne _)), H', ⟨by have := HK1.out; have := HJ2.out; omega⟩, ⟨by (with_reducible repeat (first | apply Kd.R_alloc | apply Kd.R_drewN | apply Kd.R_drew)); exact Kd.R_mono HO207.out (fun _ hk => trivial)⟩, ⟨by repeat (first | (with_reducible first | exact HB.out | apply below_alloc | apply pw_below_drewN | apply below_drew1 | refine below_set ?_ GE200.out) | exact HB.out)⟩⟩
                  · rw [if_neg c20] at H
                    exact absurd H (by simp)
                · rw [if_neg c19] at H
                  have c19b0 : decide (0 < x6_1) = false := decide_eq_false c19
                  clear c19
                  have H' := Aside0.mk H
                  clear H
                  have hcz24_0 : wc.cell? ⟨gb200, 0, none⟩ = some (.int .i64 x201000_2) := (blk_cell BK200.out 0).trans rfl
                  have hcz24_1 : wc.cell? ⟨gb200, 1, none⟩ = some (.int .i64 x201001_2) := (blk_cell BK200.out 1).trans rfl
                  have hcz24_2 : wc.cell? ⟨gb200, 2, none⟩ = some (.string x201002_2) := (blk_cell BK200.out 2).trans rfl
                  have hfz24_0 := blk_frozen BK200.out 0
                  have hfz24_1 := blk_frozen BK200.out 1
                  have hfz24_2 := blk_frozen BK200.out 2
                  go_wp2
                  go_roundg kj2
                  case measure => have := HK1.out; have := HJ2.out; omega
                  case rel => exact ⟨(x3_1), (x4_1), (wrap64 (x5_1 + x201001_2)), (0), (wrap64 (x7_1 + 1)), (by first | rfl | (simp; done) | (simp [*]; done) | exact congrArg Value.bool (emp_ne _)), (by first | rfl | (simp; done) | (simp [*]; done) | exact congrArg Value.bool (emp_ne _)), (by first | rfl | (simp; done) | (simp [*]; done) | exact congrArg Value.bool (emp_ne _)), (by first | rfl | (simp; done) | (simp [*]; done) | exact congrArg Value.bool (emp_ne _)), H', ⟨by have := HK1.out; have := HJ2.out; omega⟩, ⟨by (with_reducible repeat (first | apply Kd.R_alloc | apply Kd.R_drewN | apply Kd.R_drew)); exact Kd.R_mono HO_3.out (fun _ hk => trivial)⟩, ⟨by repeat (first | (with_reducible first | exact HB.out | apply below_alloc | apply pw_below_drewN | apply below_drew1 | refine below_set ?_ GE200.out) | exact HB.out)⟩⟩
              · rw [if_neg c18] at H
                have c18b0 : (x201000_2 == 3) = false := beq_eq_false_iff_ne.mpr c18
                have c18b1 : (x201000_2 != 3) = true := bne_iff_ne.mpr c18
                by_cases c25 : x4_1.toList = ([] : List UInt8)
                · rw [if_pos c25] at H
                  have c25b0 : (x4_1.toList == ([] : List UInt8)) = true := beq_iff_eq.mpr c25
                  have c25b1 : (x4_1.toList != ([] : List UInt8)) = false := bne_eq_false_iff_eq.mpr c25
                  clear c25
                  by_cases c26 : x5_1 > 0
                  · rw [if_pos c26] at H
                    have c26b0 : decide (0 < x5_1) = true := decide_eq_true c26
                    clear c26
                    by_cases c27 : x3_1.length < 4398046511104
                    · rw [if_pos c27] at H
                      have LMc27 := Aside0.mk c27
                      clear c27
                      obtain ⟨y208, hy208⟩ : ∃ y_ : List (S43), y_ = (x3_1 ++ [(⟨3, x5_1, (⟨#[]⟩ : ByteArray)⟩ : S43)]) := ⟨_, rfl⟩
                      replace H : (comitiaref4_Normal.l0 kj2 l0 y208 (⟨#[]⟩ : ByteArray) 0 (wrap64 (x6_1 + x201001_2)) (wrap64 (x7_1 + 1))) = some r := by first | (rw [hy208]; with_reducible exact H) | (have H2_ := (Option.bind_some _ _).symm.trans H; rw [hy208]; with_reducible exact H2_) | (have H2_ := (Option.bind_some _ _).symm.trans H; with_reducible exact H2_) | with_reducible exact H | (rw [hy208]; exact H) | exact H
                      have Ny208 := Aside0.mk hy208
                      clear hy208
                      have H' := Aside0.mk H
                      clear H
                      have hcz28_0 : wc.cell? ⟨gb200, 0, none⟩ = some (.int .i64 x201000_2) := (blk_cell BK200.out 0).trans rfl
                      have hcz28_1 : wc.cell? ⟨gb200, 1, none⟩ = some (.int .i64 x201001_2) := (blk_cell BK200.out 1).trans rfl
                      have hcz28_2 : wc.cell? ⟨gb200, 2, none⟩ = some (.string x201002_2) := (blk_cell BK200.out 2).trans rfl
                      have hfz28_0 := blk_frozen BK200.out 0
                      have hfz28_1 := blk_frozen BK200.out 1
                      have hfz28_2 := blk_frozen BK200.out 2
                      go_wp2_with (first | ((with_reducible refine gate_builtin (b := .append) (xs := #[.tmp 33, .tmp 36]) rfl ?_); at_builtin; refine Kd.R_append k43 (w0 := w) w.heap.size rfl (.tmp 33) (.tmp 36) 27 43 (.agg #[(.int .i64 0), (.int .i64 0), (.string ⟨#[]⟩)]) 32 rfl Try.underlying27 info43 rfl (by decide) (by omega) u3 x3_1 (⟨3, x5_1, (⟨#[]⟩ : ByteArray)⟩ : S43) [.int .i64 3, .int .i64 x5_1, .string (⟨#[]⟩ : ByteArray)] (fun k_ => k_ ≠ gb200) (fun _ => False) rfl rfl ?aP (fun _ hk => hk.elim) ?aF ?aO ?aB ?aS ?aL ?_; (case aP => exact k43_mkM _ _ _ (⟨3, x5_1, (⟨#[]⟩ : ByteArray)⟩ : S43)); (case aB => exact (by repeat (first | (with_reducible first | exact HB.out | apply below_alloc | apply pw_below_drewN | apply below_drew1 | refine below_set ?_ GE200.out) | exact HB.out))); (case aF => exact (fun k_ hk => Kd.freshB (g := gb200) (o := .cells #[.int .i64 x201000_2, .int .i64 x201001_2, .string x201002_2] 43 (0, 0)) (by (with_reducible repeat (first | refine blk_drewN ?_ _ | refine blk_drew ?_ | refine blk_alloc ?_ _)); exact BK200.out) k_ hk)); (case aO => exact (by (with_reducible repeat (first | apply Kd.R_alloc | apply Kd.R_drewN | apply Kd.R_drew)); exact HO_3.out)); (case aS => exact (below_size (by repeat (first | (with_reducible first | exact HB.out | apply below_alloc | apply pw_below_drewN | apply below_drew1 | refine below_set ?_ GE200.out) | exact HB.out)))); (case aL => have := LMc27.out; omega); intro v209 w29 ho hb hg hat; rw [← Ny208.out] at ho; have n0_ := Aside0.mk (blk_grown (g := gb200) (o := .cells #[.int .i64 x201000_2, .int .i64 x201001_2, .string x201002_2] 43 (0, 0)) (by (with_reducible repeat (first | refine blk_drewN ?_ _ | refine blk_drew ?_ | refine blk_alloc ?_ _)); exact BK200.out) hg (Kd.R_away HO_3.out (fun _ hk => hk))); have n1_ := Aside0.mk (hb); have n2_ := Aside0.mk (ho); clear BK200; clear HB; clear HO_3; have BK200 := n0_; have HB := n1_; have HO210 := n2_; clear n0_ n1_ n2_; clear ho hb hg hat; have hcz30_0 : w29.cell? ⟨gb200, 0, none⟩ = some (.int .i64 x201000_2) := (blk_cell BK200.out 0).trans rfl; have hcz30_1 : w29.cell? ⟨gb200, 1, none⟩ = some (.int .i64 x201001_2) := (blk_cell BK200.out 1).trans rfl; have hcz30_2 : w29.cell? ⟨gb200, 2, none⟩ = some (.string x201002_2) := (blk_cell BK200.out 2).trans rfl; have hfz30_0 := blk_frozen BK200.out 0; have hfz30_1 := blk_frozen BK200.out 1; have hfz30_2 := blk_frozen BK200.out 2))
                      go_roundg kj2
                      case measure => have := HK1.out; have := HJ2.out; omega
                      case rel => exact ⟨(y208), ((⟨#[]⟩ : ByteArray)), (0), (wrap64 (x6_1 + x201001_2)), (wrap64 (x7_1 + 1)), (by first | rfl | (simp; done) | (simp [*]; done) | exact congrArg Value.bool (emp_ne _)), (by first | rfl | (simp; done) | (simp [*]; done) | exact congrArg Value.bool (emp_ne _)), (by first | rfl | (simp; done) | (simp [*]; done) | exact congrArg Value.bool (emp_ne _)), (by first | rfl | (simp; done) | (simp [*]; done) | exact congrArg Value.bool (emp_ne _)), H', ⟨by have := HK1.out; have := HJ2.out; omega⟩, ⟨by (with_reducible repeat (first | apply Kd.R_alloc | apply Kd.R_drewN | apply Kd.R_drew)); exact Kd.R_mono HO210.out (fun _ hk => trivial)⟩, ⟨by repeat (first | (with_reducible first | exact HB.out | apply below_alloc | apply pw_below_drewN | apply below_drew1 | refine below_set ?_ GE200.out) | exact HB.out)⟩⟩
                    · rw [if_neg c27] at H
                      exact absurd H (by simp)
                  · rw [if_neg c26] at H
                    have c26b0 : decide (0 < x5_1) = false := decide_eq_false c26
                    clear c26
                    have H' := Aside0.mk H
                    clear H
                    have hcz31_0 : wc.cell? ⟨gb200, 0, none⟩ = some (.int .i64 x201000_2) := (blk_cell BK200.out 0).trans rfl
                    have hcz31_1 : wc.cell? ⟨gb200, 1, none⟩ = some (.int .i64 x201001_2) := (blk_cell BK200.out 1).trans rfl
                    have hcz31_2 : wc.cell? ⟨gb200, 2, none⟩ = some (.string x201002_2) := (blk_cell BK200.out 2).trans rfl
                    have hfz31_0 := blk_frozen BK200.out 0
                    have hfz31_1 := blk_frozen BK200.out 1
                    have hfz31_2 := blk_frozen BK200.out 2
                    go_wp2
                    go_roundg kj2
                    case measure => have := HK1.out; have := HJ2.out; omega
                    case rel => exact ⟨(x3_1), ((⟨#[]⟩ : ByteArray)), (0), (wrap64 (x6_1 + x201001_2)), (wrap64 (x7_1 + 1)), (by first | rfl | (simp; done) | (simp [*]; done) | exact congrArg Value.bool (emp_ne _)), (by first | rfl | (simp; done) | (simp [*]; done) | exact congrArg Value.bool (emp_ne _)), (by first | rfl | (simp; done) | (simp [*]; done) | exact congrArg Value.bool (emp_ne _)), (by first | rfl | (simp; done) | (simp [*]; done) | exact congrArg Value.bool (emp_ne _)), H', ⟨by have := HK1.out; have := HJ2.out; omega⟩, ⟨by (with_reducible repeat (first | apply Kd.R_alloc | apply Kd.R_drewN | apply Kd.R_drew)); exact Kd.R_mono HO_3.out (fun _ hk => trivial)⟩, ⟨by repeat (first | (with_reducible first | exact HB.out | apply below_alloc | apply pw_below_drewN | apply below_drew1 | refine below_set ?_ GE200.out) | exact HB.out)⟩⟩
                · rw [if_neg c25] at H
                  have c25b0 : (x4_1.toList == ([] : List UInt8)) = false := beq_eq_false_iff_ne.mpr c25
                  have c25b1 : (x4_1.toList != ([] : List UInt8)) = true := bne_iff_ne.mpr c25
                  by_cases c32 : x3_1.length < 4398046511104
                  · rw [if_pos c32] at H
                    have LMc32 := Aside0.mk c32
                    clear c32
                    obtain ⟨y211, hy211⟩ : ∃ y_ : List (S43), y_ = (x3_1 ++ [(⟨2, 0, x4_1⟩ : S43)]) := ⟨_, rfl⟩
                    replace H : (if x5_1 > 0 then (if y211.length < 4398046511104 then (comitiaref4_Normal.l0 kj2 l0 (y211 ++ [(⟨3, x5_1, (⟨#[]⟩ : ByteArray)⟩ : S43)]) (⟨#[]⟩ : ByteArray) 0 (wrap64 (x6_1 + x201001_2)) (wrap64 (x7_1 + 1))) else (none)) else (comitiaref4_Normal.l0 kj2 l0 y211 (⟨#[]⟩ : ByteArray) 0 (wrap64 (x6_1 + x201001_2)) (wrap64 (x7_1 + 1)))) = some r := by first | (rw [hy211]; with_reducible exact H) | (have H2_ := (Option.bind_some _ _).symm.trans H; rw [hy211]; with_reducible exact H2_) | (have H2_ := (Option.bind_some _ _).symm.trans H; with_reducible exact H2_) | with_reducible exact H | (rw [hy211]; exact H) | exact H
                    have Ny211 := Aside0.mk hy211
                    clear hy211
                    by_cases c33 : x5_1 > 0
                    · rw [if_pos c33] at H
                      have c33b0 : decide (0 < x5_1) = true := decide_eq_true c33
                      clear c33
                      by_cases c34 : y211.length < 4398046511104
                      · rw [if_pos c34] at H
                        have LMc34 := Aside0.mk c34
                        clear c34
                        obtain ⟨y214, hy214⟩ : ∃ y_ : List (S43), y_ = (y211 ++ [(⟨3, x5_1, (⟨#[]⟩ : ByteArray)⟩ : S43)]) := ⟨_, rfl⟩
                        replace H : (comitiaref4_Normal.l0 kj2 l0 y214 (⟨#[]⟩ : ByteArray) 0 (wrap64 (x6_1 + x201001_2)) (wrap64 (x7_1 + 1))) = some r := by first | (rw [hy214]; with_reducible exact H) | (have H2_ := (Option.bind_some _ _).symm.trans H; rw [hy214]; with_reducible exact H2_) | (have H2_ := (Option.bind_some _ _).symm.trans H; with_reducible exact H2_) | with_reducible exact H | (rw [hy214]; exact H) | exact H
                        have Ny214 := Aside0.mk hy214
                        clear hy214
                        have H' := Aside0.mk H
                        clear H
                        have hcz35_0 : wc.cell? ⟨gb200, 0, none⟩ = some (.int .i64 x201000_2) := (blk_cell BK200.out 0).trans rfl
                        have hcz35_1 : wc.cell? ⟨gb200, 1, none⟩ = some (.int .i64 x201001_2) := (blk_cell BK200.out 1).trans rfl
                        have hcz35_2 : wc.cell? ⟨gb200, 2, none⟩ = some (.string x201002_2) := (blk_cell BK200.out 2).trans rfl
                        have hfz35_0 := blk_frozen BK200.out 0
                        have hfz35_1 := blk_frozen BK200.out 1
                        have hfz35_2 := blk_frozen BK200.out 2
                        go_wp2_with (first | ((with_reducible refine gate_builtin (b := .append) (xs := #[.tmp 26, .tmp 29]) rfl ?_); at_builtin; refine Kd.R_append k43 (w0 := w) w.heap.size rfl (.tmp 26) (.tmp 29) 27 43 (.agg #[(.int .i64 0), (.int .i64 0), (.string ⟨#[]⟩)]) 32 rfl Try.underlying27 info43 rfl (by decide) (by omega) u3 x3_1 (⟨2, 0, x4_1⟩ : S43) [.int .i64 2, .int .i64 0, .string x4_1] (fun k_ => k_ ≠ gb200) (fun _ => False) rfl rfl ?aP (fun _ hk => hk.elim) ?aF ?aO ?aB ?aS ?aL ?_; (case aP => exact k43_mkM _ _ _ (⟨2, 0, x4_1⟩ : S43)); (case aB => exact (by repeat (first | (with_reducible first | exact HB.out | apply below_alloc | apply pw_below_drewN | apply below_drew1 | refine below_set ?_ GE200.out) | exact HB.out))); (case aF => exact (fun k_ hk => Kd.freshB (g := gb200) (o := .cells #[.int .i64 x201000_2, .int .i64 x201001_2, .string x201002_2] 43 (0, 0)) (by (with_reducible repeat (first | refine blk_drewN ?_ _ | refine blk_drew ?_ | refine blk_alloc ?_ _)); exact BK200.out) k_ hk)); (case aO => exact (by (with_reducible repeat (first | apply Kd.R_alloc | apply Kd.R_drewN | apply Kd.R_drew)); exact HO_3.out)); (case aS => exact (below_size (by repeat (first | (with_reducible first | exact HB.out | apply below_alloc | apply pw_below_drewN | apply below_drew1 | refine below_set ?_ GE200.out) | exact HB.out)))); (case aL => have := LMc32.out; omega); intro v212 w36 ho hb hg hat; rw [← Ny211.out] at ho; have n0_ := Aside0.mk (blk_grown (g := gb200) (o := .cells #[.int .i64 x201000_2, .int .i64 x201001_2, .string x201002_2] 43 (0, 0)) (by (with_reducible repeat (first | refine blk_drewN ?_ _ | refine blk_drew ?_ | refine blk_alloc ?_ _)); exact BK200.out) hg (Kd.R_away HO_3.out (fun _ hk => hk))); have n1_ := Aside0.mk (hb); have n2_ := Aside0.mk (ho); clear BK200; clear HB; clear HO_3; have BK200 := n0_; have HB := n1_; have HO213 := n2_; clear n0_ n1_ n2_; clear ho hb hg hat) | ((with_reducible refine gate_builtin (b := .append) (xs := #[.tmp 33, .tmp 36]) rfl ?_); at_builtin; refine Kd.R_append k43 (w0 := w) w.heap.size rfl (.tmp 33) (.tmp 36) 27 43 (.agg #[(.int .i64 0), (.int .i64 0), (.string ⟨#[]⟩)]) 32 rfl Try.underlying27 info43 rfl (by decide) (by omega) v212 y211 (⟨3, x5_1, (⟨#[]⟩ : ByteArray)⟩ : S43) [.int .i64 3, .int .i64 x5_1, .string (⟨#[]⟩ : ByteArray)] (fun k_ => k_ ≠ gb200) (fun _ => False) rfl rfl ?aP (fun _ hk => hk.elim) ?aF ?aO ?aB ?aS ?aL ?_; (case aP => exact k43_mkM _ _ _ (⟨3, x5_1, (⟨#[]⟩ : ByteArray)⟩ : S43)); (case aB => exact (by repeat (first | (with_reducible first | exact HB.out | apply below_alloc | apply pw_below_drewN | apply below_drew1 | refine below_set ?_ GE200.out) | exact HB.out))); (case aF => exact (fun k_ hk => Kd.freshB (g := gb200) (o := .cells #[.int .i64 x201000_2, .int .i64 x201001_2, .string x201002_2] 43 (0, 0)) (by (with_reducible repeat (first | refine blk_drewN ?_ _ | refine blk_drew ?_ | refine blk_alloc ?_ _)); exact BK200.out) k_ hk)); (case aO => exact (by (with_reducible repeat (first | apply Kd.R_alloc | apply Kd.R_drewN | apply Kd.R_drew)); exact HO213.out)); (case aS => exact (below_size (by repeat (first | (with_reducible first | exact HB.out | apply below_alloc | apply pw_below_drewN | apply below_drew1 | refine below_set ?_ GE200.out) | exact HB.out)))); (case aL => have := LMc34.out; omega); intro v215 w37 ho hb hg hat; rw [← Ny214.out] at ho; have n0_ := Aside0.mk (blk_grown (g := gb200) (o := .cells #[.int .i64 x201000_2, .int .i64 x201001_2, .string x201002_2] 43 (0, 0)) (by (with_reducible repeat (first | refine blk_drewN ?_ _ | refine blk_drew ?_ | refine blk_alloc ?_ _)); exact BK200.out) hg (Kd.R_away HO213.out (fun _ hk => hk))); have n1_ := Aside0.mk (hb); have n2_ := Aside0.mk (ho); clear BK200; clear HB; clear HO213; have BK200 := n0_; have HB := n1_; have HO216 := n2_; clear n0_ n1_ n2_; clear ho hb hg hat; have hcz38_0 : w37.cell? ⟨gb200, 0, none⟩ = some (.int .i64 x201000_2) := (blk_cell BK200.out 0).trans rfl; have hcz38_1 : w37.cell? ⟨gb200, 1, none⟩ = some (.int .i64 x201001_2) := (blk_cell BK200.out 1).trans rfl; have hcz38_2 : w37.cell? ⟨gb200, 2, none⟩ = some (.string x201002_2) := (blk_cell BK200.out 2).trans rfl; have hfz38_0 := blk_frozen BK200.out 0; have hfz38_1 := blk_frozen BK200.out 1; have hfz38_2 := blk_frozen BK200.out 2))
                        go_roundg kj2
                        case measure => have := HK1.out; have := HJ2.out; omega
                        case rel => exact ⟨(y214), ((⟨#[]⟩ : ByteArray)), (0), (wrap64 (x6_1 + x201001_2)), (wrap64 (x7_1 + 1)), (by first | rfl | (simp; done) | (simp [*]; done) | exact congrArg Value.bool (emp_ne _)), (by first | rfl | (simp; done) | (simp [*]; done) | exact congrArg Value.bool (emp_ne _)), (by first | rfl | (simp; done) | (simp [*]; done) | exact congrArg Value.bool (emp_ne _)), (by first | rfl | (simp; done) | (simp [*]; done) | exact congrArg Value.bool (emp_ne _)), H', ⟨by have := HK1.out; have := HJ2.out; omega⟩, ⟨by (with_reducible repeat (first | apply Kd.R_alloc | apply Kd.R_drewN | apply Kd.R_drew)); exact Kd.R_mono HO216.out (fun _ hk => trivial)⟩, ⟨by repeat (first | (with_reducible first | exact HB.out | apply below_alloc | apply pw_below_drewN | apply below_drew1 | refine below_set ?_ GE200.out) | exact HB.out)⟩⟩
                      · rw [if_neg c34] at H
                        exact absurd H (by simp)
                    · rw [if_neg c33] at H
                      have c33b0 : decide (0 < x5_1) = false := decide_eq_false c33
                      clear c33
                      have H' := Aside0.mk H
                      clear H
                      have hcz39_0 : wc.cell? ⟨gb200, 0, none⟩ = some (.int .i64 x201000_2) := (blk_cell BK200.out 0).trans rfl
                      have hcz39_1 : wc.cell? ⟨gb200, 1, none⟩ = some (.int .i64 x201001_2) := (blk_cell BK200.out 1).trans rfl
                      have hcz39_2 : wc.cell? ⟨gb200, 2, none⟩ = some (.string x201002_2) := (blk_cell BK200.out 2).trans rfl
                      have hfz39_0 := blk_frozen BK200.out 0
                      have hfz39_1 := blk_frozen BK200.out 1
                      have hfz39_2 := blk_frozen BK200.out 2
                      go_wp2_with (first | ((with_reducible refine gate_builtin (b := .append) (xs := #[.tmp 26, .tmp 29]) rfl ?_); at_builtin; refine Kd.R_append k43 (w0 := w) w.heap.size rfl (.tmp 26) (.tmp 29) 27 43 (.agg #[(.int .i64 0), (.int .i64 0), (.string ⟨#[]⟩)]) 32 rfl Try.underlying27 info43 rfl (by decide) (by omega) u3 x3_1 (⟨2, 0, x4_1⟩ : S43) [.int .i64 2, .int .i64 0, .string x4_1] (fun k_ => k_ ≠ gb200) (fun _ => False) rfl rfl ?aP (fun _ hk => hk.elim) ?aF ?aO ?aB ?aS ?aL ?_; (case aP => exact k43_mkM _ _ _ (⟨2, 0, x4_1⟩ : S43)); (case aB => exact (by repeat (first | (with_reducible first | exact HB.out | apply below_alloc | apply pw_below_drewN | apply below_drew1 | refine below_set ?_ GE200.out) | exact HB.out))); (case aF => exact (fun k_ hk => Kd.freshB (g := gb200) (o := .cells #[.int .i64 x201000_2, .int .i64 x201001_2, .string x201002_2] 43 (0, 0)) (by (with_reducible repeat (first | refine blk_drewN ?_ _ | refine blk_drew ?_ | refine blk_alloc ?_ _)); exact BK200.out) k_ hk)); (case aO => exact (by (with_reducible repeat (first | apply Kd.R_alloc | apply Kd.R_drewN | apply Kd.R_drew)); exact HO_3.out)); (case aS => exact (below_size (by repeat (first | (with_reducible first | exact HB.out | apply below_alloc | apply pw_below_drewN | apply below_drew1 | refine below_set ?_ GE200.out) | exact HB.out)))); (case aL => have := LMc32.out; omega); intro v212 w40 ho hb hg hat; rw [← Ny211.out] at ho; have n0_ := Aside0.mk (blk_grown (g := gb200) (o := .cells #[.int .i64 x201000_2, .int .i64 x201001_2, .string x201002_2] 43 (0, 0)) (by (with_reducible repeat (first | refine blk_drewN ?_ _ | refine blk_drew ?_ | refine blk_alloc ?_ _)); exact BK200.out) hg (Kd.R_away HO_3.out (fun _ hk => hk))); have n1_ := Aside0.mk (hb); have n2_ := Aside0.mk (ho); clear BK200; clear HB; clear HO_3; have BK200 := n0_; have HB := n1_; have HO213 := n2_; clear n0_ n1_ n2_; clear ho hb hg hat; have hcz41_0 : w40.cell? ⟨gb200, 0, none⟩ = some (.int .i64 x201000_2) := (blk_cell BK200.out 0).trans rfl; have hcz41_1 : w40.cell? ⟨gb200, 1, none⟩ = some (.int .i64 x201001_2) := (blk_cell BK200.out 1).trans rfl; have hcz41_2 : w40.cell? ⟨gb200, 2, none⟩ = some (.string x201002_2) := (blk_cell BK200.out 2).trans rfl; have hfz41_0 := blk_frozen BK200.out 0; have hfz41_1 := blk_frozen BK200.out 1; have hfz41_2 := blk_frozen BK200.out 2))
                      go_roundg kj2
                      case measure => have := HK1.out; have := HJ2.out; omega
                      case rel => exact ⟨(y211), ((⟨#[]⟩ : ByteArray)), (0), (wrap64 (x6_1 + x201001_2)), (wrap64 (x7_1 + 1)), (by first | rfl | (simp; done) | (simp [*]; done) | exact congrArg Value.bool (emp_ne _)), (by first | rfl | (simp; done) | (simp [*]; done) | exact congrArg Value.bool (emp_ne _)), (by first | rfl | (simp; done) | (simp [*]; done) | exact congrArg Value.bool (emp_ne _)), (by first | rfl | (simp; done) | (simp [*]; done) | exact congrArg Value.bool (emp_ne _)), H', ⟨by have := HK1.out; have := HJ2.out; omega⟩, ⟨by (with_reducible repeat (first | apply Kd.R_alloc | apply Kd.R_drewN | apply Kd.R_drew)); exact Kd.R_mono HO213.out (fun _ hk => trivial)⟩, ⟨by repeat (first | (with_reducible first | exact HB.out | apply below_alloc | apply pw_below_drewN | apply below_drew1 | refine below_set ?_ GE200.out) | exact HB.out)⟩⟩
                  · rw [if_neg c32] at H
                    exact absurd H (by simp)
      · rw [if_neg c2] at H
        have c2b0 : decide (x7_1 ≤ (l0.length : Int)) = false := decide_eq_false c2
        clear c2
        by_cases c42 : x6_1 > 0
        · rw [if_pos c42] at H
          have c42b0 : decide (0 < x6_1) = true := decide_eq_true c42
          clear c42
          by_cases c43 : x3_1.length < 4398046511104
          · rw [if_pos c43] at H
            have LMc43 := Aside0.mk c43
            clear c43
            obtain ⟨y197, hy197⟩ : ∃ y_ : List (S43), y_ = (x3_1 ++ [(⟨1, x6_1, (⟨#[]⟩ : ByteArray)⟩ : S43)]) := ⟨_, rfl⟩
            replace H : (some y197) = some r := by first | (rw [hy197]; with_reducible exact H) | (have H2_ := (Option.bind_some _ _).symm.trans H; rw [hy197]; with_reducible exact H2_) | (have H2_ := (Option.bind_some _ _).symm.trans H; with_reducible exact H2_) | with_reducible exact H | (rw [hy197]; exact H) | exact H
            have Ny197 := Aside0.mk hy197
            clear hy197
            obtain rfl := Option.some.inj H
            go_wp2_with (first | ((with_reducible refine gate_builtin (b := .append) (xs := #[.tmp 74, .tmp 77]) rfl ?_); at_builtin; refine Kd.R_append k43 (w0 := w) w.heap.size rfl (.tmp 74) (.tmp 77) 27 43 (.agg #[(.int .i64 0), (.int .i64 0), (.string ⟨#[]⟩)]) 32 rfl Try.underlying27 info43 rfl (by decide) (by omega) u3 x3_1 (⟨1, x6_1, (⟨#[]⟩ : ByteArray)⟩ : S43) [.int .i64 1, .int .i64 x6_1, .string (⟨#[]⟩ : ByteArray)] (fun _ => True) (fun _ => False) rfl rfl ?aP (fun _ hk => hk.elim) ?aF ?aO ?aB ?aS ?aL ?_; (case aP => exact k43_mkM _ _ _ (⟨1, x6_1, (⟨#[]⟩ : ByteArray)⟩ : S43)); (case aB => exact (by repeat (first | (with_reducible first | exact HB.out | apply below_alloc | apply pw_below_drewN | apply below_drew1) | exact HB.out))); (case aF => exact (fun _ _ => trivial)); (case aO => exact (by (with_reducible repeat (first | apply Kd.R_alloc | apply Kd.R_drewN | apply Kd.R_drew)); exact HO_3.out)); (case aS => exact (below_size (by repeat (first | (with_reducible first | exact HB.out | apply below_alloc | apply pw_below_drewN | apply below_drew1) | exact HB.out)))); (case aL => have := LMc43.out; omega); intro v198 w44 ho hb hg hat; rw [← Ny197.out] at ho; have n0_ := Aside0.mk (hb); have n1_ := Aside0.mk (ho); clear HB; clear HO_3; have HB := n0_; have HO199 := n1_; clear n0_ n1_; clear ho hb hg hat))
            go_ret
            exact ⟨_, by first | rfl | (simp [errW_none, errW_some] <;> rfl) | (simp [*, errW_none, errW_some] <;> rfl), by (with_reducible repeat (first | apply Kd.R_alloc | apply Kd.R_drewN | apply Kd.R_drew)); exact HO199.out, by repeat (first | (with_reducible first | exact HB.out | apply below_alloc | apply pw_below_drewN | apply below_drew1) | exact HB.out)⟩
          · rw [if_neg c43] at H
            exact absurd H (by simp)
        · rw [if_neg c42] at H
          have c42b0 : decide (0 < x6_1) = false := decide_eq_false c42
          clear c42
          obtain rfl := Option.some.inj H
          go_wp2
          go_ret
          exact ⟨_, by first | rfl | (simp [errW_none, errW_some] <;> rfl) | (simp [*, errW_none, errW_some] <;> rfl), by (with_reducible repeat (first | apply Kd.R_alloc | apply Kd.R_drewN | apply Kd.R_drew)); exact HO_3.out, by repeat (first | (with_reducible first | exact HB.out | apply below_alloc | apply pw_below_drewN | apply below_drew1) | exact HB.out)⟩

end Go.Proofs.Ytjmnflgicolbdaa.Q

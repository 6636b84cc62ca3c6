/- DeltaKinds. -/
import Derived.Test.YtpcgamgjgfdpaaaDelK
import Derived.Deep.RegionWith
import Derived.Outline
import Derived.Deep.Cut
import Derived.WalkMore
import Derived.StillTailTactics
namespace Go.Proofs.Ytpcgamgjgfdpaaa
open Go.RowKit Go.Cx
set_option linter.unusedVariables false
set_option linter.unusedSimpArgs false

set_option maxRecDepth 100000 in
set_option maxHeartbeats 400000 in
theorem known8_any (w : World) : Calls Try.prog 9 #[] w (True_ w) := by
  go_enter Try.func9, Try.ntmps9
  go_wp2_with (go_at_call 11; refine (check_kind 0 0 0 0 0 none 0 0 0 0 _ rfl rfl rfl (by decide)).mono ?_; rintro e w1 ⟨rfl, hc⟩; have C1 := hid hc; clear hc)
  go_ret
  exact ⟨rfl, C1.out⟩

set_option maxRecDepth 100000 in
set_option maxHeartbeats 400000 in
theorem within8_any (a n : Int) (w : World) (hn : 0 < n) (hn2 : n ≤ 1000000000000) :
    Calls Try.prog 10 #[.int .i64 a, .int .i64 n] w fun e w' => e = .returned (.int .i64 (a % n)) ∧ w = w' := by
  have h0 : (n == 0) = false := beq_eq_false_iff_ne.2 (by omega)
  have t1 := Int.tmod_lt_of_pos a hn
  have t2 := Int.lt_tmod_of_pos a hn
  have e := Int.tmod_eq_emod (a := a) (b := n)
  by_cases hs : a.tmod n < 0
  · have E : a % n = a.tmod n + n := by
      rw [e] at hs ⊢
      have := Int.emod_nonneg a (by omega : n ≠ 0)
      have := Int.emod_lt_of_pos a hn
      split at hs <;> split <;> simp_all <;> omega
    have HE := hid E
    clear E e
    go_enter Try.func10, Try.ntmps10
    go_wp2
    go_ret
    rw [HE.out]
    exact ⟨rfl, rfl⟩
  · have E : a % n = a.tmod n := by
      rw [e] at hs ⊢
      have := Int.emod_nonneg a (by omega : n ≠ 0)
      have := Int.emod_lt_of_pos a hn
      split at hs <;> split <;> simp_all <;> omega
    have HE := hid E
    clear E e
    go_enter Try.func10, Try.ntmps10
    go_wp2
    go_ret
    rw [HE.out]
    exact ⟨rfl, rfl⟩



set_option maxRecDepth 100000 in
set_option maxHeartbeats 4000000 in
theorem DeltaKinds_walk (w : World) (x : Int) (hx : I64 x) (A : Int) (hA : I64 A) (B : Int) (hB : I64 B) :
    Calls Try.prog 4 #[.int .i64 x, .agg #[.int .i64 A, .int .i64 B]] w fun e w' => e = .returned (.bool true) ∧ Below w.heap.size w w' := by
  refine Calls.mono (R := True_ w) ?_ (fun e w' h => ⟨h.1, h.2.below0⟩)
  have K1 := hid (show (0 : Int) < 3 by omega)
  have K2 : (3 : Int) ≤ 1000000000000 := by omega
  obtain ⟨k, hk⟩ : ∃ k : Int, k = x % 3 := ⟨_, rfl⟩
  obtain ⟨D, hD⟩ : ∃ D : Int, D = A % 3 := ⟨_, rfl⟩
  obtain ⟨U, hU⟩ : ∃ U : Int, U = B % 7 := ⟨_, rfl⟩
  have XK := hid hk
  have DA := hid (fun w => by rw [hD]; exact within8_any A 3 w (by omega) (by omega) : ∀ w : World, Calls Try.prog 10 #[.int .i64 A, .int .i64 3] w fun e w' => e = .returned (.int .i64 D) ∧ w = w')
  have DB := hid (fun w => by rw [hU]; exact within8_any B 7 w (by omega) (by omega) : ∀ w : World, Calls Try.prog 10 #[.int .i64 B, .int .i64 7] w fun e w' => e = .returned (.int .i64 U) ∧ w = w')
  have hk3 : k = 0 ∨ k = 1 ∨ k = 2 := by omega
  have hw : IntKind.i64.wrap (1 + U) = 1 + U := by rw [IntKind.wrap_i64]; omega
  have UOK : Hid ((if uOk D (1 + U) = true then (0 : Int) else 1) = 0) := hid (by rw [if_pos (by unfold uOk; simp only [Bool.and_eq_true, decide_eq_true_eq]; omega)])
  have UO0 : Hid ((if uOk 0 0 = true then (0 : Int) else 1) = 0) := hid rfl
  have HU1 : (1 + U) ≠ 0 := by omega
  have Z0 : uOk 0 0 = true := rfl
  have Z1 : (decide ((0 : Int) ≤ 0) && decide ((0 : Int) ≤ 1073741824)) = true := rfl
  have Z2 : (decide ((0 : Int) ≤ 0) && decide ((0 : Int) ≤ 1048576)) = true := rfl
  have T1 := hid True.intro
  have T2 := hid True.intro
  clear hx hA hB hk hD hU
  rcases hk3 with rfl | rfl | rfl
  · go_enter Try.func4, Try.ntmps4
    go_wp2_with (first
      | (go_at_call 9; refine (known8_any _).mono ?_; rintro e w1 ⟨rfl, hc1⟩; have C1 := hid (((Ch.refl (fun _ => False) w).alloc _).f hc1); have BK : Hid (w1.heap[w.heap.size]? = some (.cells #[.int .i64 A, .int .i64 B] 24 (0, 0))) := hid (hc1.heap (alloc_blk_new _ rfl) id); clear hc1)
      | (go_at_call 10; have Kx := K1.out; refine (within8_any x 3 _ Kx K2).mono ?_; rintro e w2 ⟨rfl, rfl⟩; rw [← XK.out]; clear K1 Kx))
    have ca : w1.drew.cell? ⟨w.heap.size, 0, none⟩ = some (.int .i64 A) := by rw [cell_blk (w := w1.drew) BK.out]; rfl
    have cb : w1.drew.cell? ⟨w.heap.size, 1, none⟩ = some (.int .i64 B) := by rw [cell_blk (w := w1.drew) BK.out]; rfl
    refine wp_tail 8 (by kernel_rfl) (by kernel_rfl) ?_
    simp only [List.take_succ_cons, List.take_zero, List.drop_succ_cons, List.drop_zero]
    repeat still_step
    still_call (DA.out _).mono fun e w' h => ⟨h.1, h.2.symm⟩
    repeat still_step
    still_call (DB.out _).mono fun e w' h => ⟨h.1, h.2.symm⟩
    repeat still_step
    refine wpStill_nil ?_
    clear ca cb
    have ca : w1.cell? ⟨w.heap.size, 0, none⟩ = some (.int .i64 A) := by rw [cell_blk BK.out]; rfl
    have cb : w1.cell? ⟨w.heap.size, 1, none⟩ = some (.int .i64 B) := by rw [cell_blk BK.out]; rfl
    have f0 : w1.frozen? ⟨w.heap.size, 0, none⟩ = false := frozen_blk BK.out 0
    have f1 : w1.frozen? ⟨w.heap.size, 1, none⟩ = false := frozen_blk BK.out 1
    go_upto_region 5 with (fail)
    have BK2 : (((w1.setCell ⟨w.heap.size, 0, none⟩ (.int .i64 D)).setCell ⟨w.heap.size, 1, none⟩ (.int .i64 (1 + U))).drew).heap[w.heap.size]? = some (.cells #[.int .i64 D, .int .i64 (1 + U)] 24 (0, 0)) := (set_blk (set_blk BK.out 0 (.int .i64 D)) 1 (.int .i64 (1 + U))).trans rfl
    have C4 : Ch (fun _ => False) w (((w1.setCell ⟨w.heap.size, 0, none⟩ (.int .i64 D)).setCell ⟨w.heap.size, 1, none⟩ (.int .i64 (1 + U))).drew) := ((C1.out.set (p := w.heap.size)).set (p := w.heap.size)).drew
    generalize ((w1.setCell ⟨w.heap.size, 0, none⟩ (.int .i64 D)).setCell ⟨w.heap.size, 1, none⟩ (.int .i64 (1 + U))).drew = w4 at BK2 C4 ⊢
    clear ca cb f0 f1 C1 BK
    go_upto_region 6 with (fail)
    have BG := alloc_blk_new (w := w4) (.cells #[.int .i64 2, .int .i64 0, .string ⟨#[120]⟩] 34) rfl
    have BB := alloc_blk_old (w := w4) (.cells #[.int .i64 2, .int .i64 0, .string ⟨#[120]⟩] 34) BK2
    have C5 := hid (C4.alloc (.cells #[.int .i64 2, .int .i64 0, .string ⟨#[120]⟩] 34))
    generalize w4.alloc (.cells #[.int .i64 2, .int .i64 0, .string ⟨#[120]⟩] 34) = w5 at BG BB C5 ⊢
    have G0 := hid (cell_blk BG 0)
    have G1 := hid (cell_blk BG 1)
    have G2 := hid (cell_blk BG 2)
    have z0 : w5.cell? ⟨w.heap.size, 0, none⟩ = some (.int .i64 D) := by rw [cell_blk BB]; rfl
    have z1 : w5.cell? ⟨w.heap.size, 1, none⟩ = some (.int .i64 (1 + U)) := by rw [cell_blk BB]; rfl
    clear BK2 C4 BG BB
    go_wp2_with (first
    | (go_at_call 11; have Tx := T1.out; refine (check_edit 0 0 0 0 0 0 _ Z0 Z1 Z2 rfl (.inl rfl)).mono ?_; rintro e wa ⟨rfl, hc⟩; have CA := hid hc; have ya := hc.cell z0 id; have yb := hc.cell z1 id; clear hc T1 Tx)
    | (go_at_call 11; have Tx := T2.out; refine (check_edit_who D (1 + U) HU1 _).mono ?_; rintro e wb ⟨rfl, hc⟩; have CB := hid (CA.out.f hc); clear hc T2 Tx)
    | (go_at_call 11; refine (check_edit_op w4.heap.size _ ?s0 ?s1 ?s2).mono ?_; (case s0 => exact CB.out.cell G0.out id); (case s1 => exact CB.out.cell G1.out id); (case s2 => exact CB.out.cell G2.out id); rintro e wc ⟨rfl, hc⟩; have CC := hid (CB.out.f hc); clear hc))
    go_ret
    exact ⟨rfl, C5.out.f CC.out⟩
  · go_enter Try.func4, Try.ntmps4
    go_wp2_with (first
      | (go_at_call 9; refine (known8_any _).mono ?_; rintro e w1 ⟨rfl, hc1⟩; have C1 := hid (((Ch.refl (fun _ => False) w).alloc _).f hc1); have BK : Hid (w1.heap[w.heap.size]? = some (.cells #[.int .i64 A, .int .i64 B] 24 (0, 0))) := hid (hc1.heap (alloc_blk_new _ rfl) id); clear hc1)
      | (go_at_call 10; have Kx := K1.out; refine (within8_any x 3 _ Kx K2).mono ?_; rintro e w2 ⟨rfl, rfl⟩; rw [← XK.out]; clear K1 Kx))
    have ca : w1.drew.cell? ⟨w.heap.size, 0, none⟩ = some (.int .i64 A) := by rw [cell_blk (w := w1.drew) BK.out]; rfl
    have cb : w1.drew.cell? ⟨w.heap.size, 1, none⟩ = some (.int .i64 B) := by rw [cell_blk (w := w1.drew) BK.out]; rfl
    refine wp_tail 8 (by kernel_rfl) (by kernel_rfl) ?_
    simp only [List.take_succ_cons, List.take_zero, List.drop_succ_cons, List.drop_zero]
    repeat still_step
    still_call (DA.out _).mono fun e w' h => ⟨h.1, h.2.symm⟩
    repeat still_step
    still_call (DB.out _).mono fun e w' h => ⟨h.1, h.2.symm⟩
    repeat still_step
    refine wpStill_nil ?_
    clear ca cb
    have ca : w1.cell? ⟨w.heap.size, 0, none⟩ = some (.int .i64 A) := by rw [cell_blk BK.out]; rfl
    have cb : w1.cell? ⟨w.heap.size, 1, none⟩ = some (.int .i64 B) := by rw [cell_blk BK.out]; rfl
    have f0 : w1.frozen? ⟨w.heap.size, 0, none⟩ = false := frozen_blk BK.out 0
    have f1 : w1.frozen? ⟨w.heap.size, 1, none⟩ = false := frozen_blk BK.out 1
    go_upto_region 5 with (fail)
    have BK2 : (((w1.setCell ⟨w.heap.size, 0, none⟩ (.int .i64 D)).setCell ⟨w.heap.size, 1, none⟩ (.int .i64 (1 + U))).drew).heap[w.heap.size]? = some (.cells #[.int .i64 D, .int .i64 (1 + U)] 24 (0, 0)) := (set_blk (set_blk BK.out 0 (.int .i64 D)) 1 (.int .i64 (1 + U))).trans rfl
    have C4 : Ch (fun _ => False) w (((w1.setCell ⟨w.heap.size, 0, none⟩ (.int .i64 D)).setCell ⟨w.heap.size, 1, none⟩ (.int .i64 (1 + U))).drew) := ((C1.out.set (p := w.heap.size)).set (p := w.heap.size)).drew
    generalize ((w1.setCell ⟨w.heap.size, 0, none⟩ (.int .i64 D)).setCell ⟨w.heap.size, 1, none⟩ (.int .i64 (1 + U))).drew = w4 at BK2 C4 ⊢
    clear ca cb f0 f1 C1 BK
    go_upto_region 6 with (fail)
    have BG := alloc_blk_new (w := w4) (.cells #[.int .i64 2, .int .i64 0, .string ⟨#[120]⟩] 34) rfl
    have BB := alloc_blk_old (w := w4) (.cells #[.int .i64 2, .int .i64 0, .string ⟨#[120]⟩] 34) BK2
    have C5 := hid (C4.alloc (.cells #[.int .i64 2, .int .i64 0, .string ⟨#[120]⟩] 34))
    generalize w4.alloc (.cells #[.int .i64 2, .int .i64 0, .string ⟨#[120]⟩] 34) = w5 at BG BB C5 ⊢
    have G0 := hid (cell_blk BG 0)
    have G1 := hid (cell_blk BG 1)
    have G2 := hid (cell_blk BG 2)
    have z0 : w5.cell? ⟨w.heap.size, 0, none⟩ = some (.int .i64 D) := by rw [cell_blk BB]; rfl
    have z1 : w5.cell? ⟨w.heap.size, 1, none⟩ = some (.int .i64 (1 + U)) := by rw [cell_blk BB]; rfl
    clear BK2 C4 BG BB
    go_wp2_with (first
    | (go_at_call 11; have Tx := T1.out; refine (check_add 0 0 0 0 2 none 0 0 0 0 _ Z0 Z1 Z2 (.inl rfl) rfl).mono ?_; rw [UO0.out]; rintro e wa ⟨rfl, hc⟩; have CA := hid hc; have ya := hc.cell z0 id; have yb := hc.cell z1 id; clear hc T1 Tx)
    | (go_at_call 11; have Tx := T2.out; refine (check_add 0 0 0 0 2 none 0 0 D (1 + U) _ Z0 Z1 Z2 (.inl rfl) rfl).mono ?_; rw [UOK.out]; rintro e wb ⟨rfl, hc⟩; have CB := hid (CA.out.f hc); clear hc T2 Tx)
    | (go_at_call 11; refine (check_full 0 0 0 0 2 (some ⟨w4.heap.size, 0, none⟩) 1 1 0 0 _ Z0 Z1 Z2 (.inl rfl) (by omega)).mono ?_; rintro e wc ⟨rfl, hc⟩; have CC := hid (CB.out.f hc); clear hc))
    go_ret
    exact ⟨rfl, C5.out.f CC.out⟩
  · go_enter Try.func4, Try.ntmps4
    go_wp2_with (first
      | (go_at_call 9; refine (known8_any _).mono ?_; rintro e w1 ⟨rfl, hc1⟩; have C1 := hid (((Ch.refl (fun _ => False) w).alloc _).f hc1); have BK : Hid (w1.heap[w.heap.size]? = some (.cells #[.int .i64 A, .int .i64 B] 24 (0, 0))) := hid (hc1.heap (alloc_blk_new _ rfl) id); clear hc1)
      | (go_at_call 10; have Kx := K1.out; refine (within8_any x 3 _ Kx K2).mono ?_; rintro e w2 ⟨rfl, rfl⟩; rw [← XK.out]; clear K1 Kx))
    have ca : w1.drew.cell? ⟨w.heap.size, 0, none⟩ = some (.int .i64 A) := by rw [cell_blk (w := w1.drew) BK.out]; rfl
    have cb : w1.drew.cell? ⟨w.heap.size, 1, none⟩ = some (.int .i64 B) := by rw [cell_blk (w := w1.drew) BK.out]; rfl
    refine wp_tail 8 (by kernel_rfl) (by kernel_rfl) ?_
    simp only [List.take_succ_cons, List.take_zero, List.drop_succ_cons, List.drop_zero]
    repeat still_step
    still_call (DA.out _).mono fun e w' h => ⟨h.1, h.2.symm⟩
    repeat still_step
    still_call (DB.out _).mono fun e w' h => ⟨h.1, h.2.symm⟩
    repeat still_step
    refine wpStill_nil ?_
    clear ca cb
    have ca : w1.cell? ⟨w.heap.size, 0, none⟩ = some (.int .i64 A) := by rw [cell_blk BK.out]; rfl
    have cb : w1.cell? ⟨w.heap.size, 1, none⟩ = some (.int .i64 B) := by rw [cell_blk BK.out]; rfl
    have f0 : w1.frozen? ⟨w.heap.size, 0, none⟩ = false := frozen_blk BK.out 0
    have f1 : w1.frozen? ⟨w.heap.size, 1, none⟩ = false := frozen_blk BK.out 1
    go_upto_region 5 with (fail)
    have BK2 : (((w1.setCell ⟨w.heap.size, 0, none⟩ (.int .i64 D)).setCell ⟨w.heap.size, 1, none⟩ (.int .i64 (1 + U))).drew).heap[w.heap.size]? = some (.cells #[.int .i64 D, .int .i64 (1 + U)] 24 (0, 0)) := (set_blk (set_blk BK.out 0 (.int .i64 D)) 1 (.int .i64 (1 + U))).trans rfl
    have C4 : Ch (fun _ => False) w (((w1.setCell ⟨w.heap.size, 0, none⟩ (.int .i64 D)).setCell ⟨w.heap.size, 1, none⟩ (.int .i64 (1 + U))).drew) := ((C1.out.set (p := w.heap.size)).set (p := w.heap.size)).drew
    generalize ((w1.setCell ⟨w.heap.size, 0, none⟩ (.int .i64 D)).setCell ⟨w.heap.size, 1, none⟩ (.int .i64 (1 + U))).drew = w4 at BK2 C4 ⊢
    clear ca cb f0 f1 C1 BK
    go_upto_region 6 with (fail)
    have BG := alloc_blk_new (w := w4) (.cells #[.int .i64 2, .int .i64 0, .string ⟨#[120]⟩] 34) rfl
    have BB := alloc_blk_old (w := w4) (.cells #[.int .i64 2, .int .i64 0, .string ⟨#[120]⟩] 34) BK2
    have C5 := hid (C4.alloc (.cells #[.int .i64 2, .int .i64 0, .string ⟨#[120]⟩] 34))
    generalize w4.alloc (.cells #[.int .i64 2, .int .i64 0, .string ⟨#[120]⟩] 34) = w5 at BG BB C5 ⊢
    have G0 := hid (cell_blk BG 0)
    have G1 := hid (cell_blk BG 1)
    have G2 := hid (cell_blk BG 2)
    have z0 : w5.cell? ⟨w.heap.size, 0, none⟩ = some (.int .i64 D) := by rw [cell_blk BB]; rfl
    have z1 : w5.cell? ⟨w.heap.size, 1, none⟩ = some (.int .i64 (1 + U)) := by rw [cell_blk BB]; rfl
    clear BK2 C4 BG BB
    go_wp2_with (first
    | (go_at_call 11; have Tx := T1.out; refine (check_add 0 0 0 0 3 none 0 0 0 0 _ Z0 Z1 Z2 (.inr rfl) rfl).mono ?_; rw [UO0.out]; rintro e wa ⟨rfl, hc⟩; have CA := hid hc; have ya := hc.cell z0 id; have yb := hc.cell z1 id; clear hc T1 Tx)
    | (go_at_call 11; have Tx := T2.out; refine (check_add 0 0 0 0 3 none 0 0 D (1 + U) _ Z0 Z1 Z2 (.inr rfl) rfl).mono ?_; rw [UOK.out]; rintro e wb ⟨rfl, hc⟩; have CB := hid (CA.out.f hc); clear hc T2 Tx)
    | (go_at_call 11; refine (check_full 0 0 0 0 3 (some ⟨w4.heap.size, 0, none⟩) 1 1 0 0 _ Z0 Z1 Z2 (.inr rfl) (by omega)).mono ?_; rintro e wc ⟨rfl, hc⟩; have CC := hid (CB.out.f hc); clear hc))
    go_ret
    exact ⟨rfl, C5.out.f CC.out⟩
end Go.Proofs.Ytpcgamgjgfdpaaa

/- DeltaKinds: an operation of one Put. -/
import Derived.Test.YtpcgamgjgfdpaaaDel
namespace Go.Proofs.Ytpcgamgjgfdpaaa
open Go.RowKit Go.Cx
set_option linter.unusedVariables false
set_option linter.unusedSimpArgs false

set_option maxRecDepth 100000 in
set_option maxHeartbeats 800000 in
theorem ccheck_x (w : World) : Calls Try.prog 54 #[.agg #[.int .i64 2, .int .i64 0, .string ⟨#[120]⟩]] w (ErrPost w 0) := by
  go_enter Try.func54, Try.ntmps54
  go_wp2
  go_ret
  exact ⟨rfl, (Ch.refl _ w).alloc _⟩
set_option maxRecDepth 100000 in
set_option maxHeartbeats 800000 in
theorem opcheck_one (g : Nat) (w : World) (h0 : w.cell? ⟨g, 0, none⟩ = some (.int .i64 2)) (h1 : w.cell? ⟨g, 1, none⟩ = some (.int .i64 0)) (h2 : w.cell? ⟨g, 2, none⟩ = some (.string ⟨#[120]⟩)) :
    Calls Try.prog 28 #[.slice (some ⟨g, 0, none⟩) 1 1] w (ErrPost w 0) := by
  go_enter Try.func28, Try.ntmps28
  go_wp2
  go_loopw [4, 5, 11] (fun _ _ vi wr => (vi = .int .i64 0 ∧ w = wr) ∨ (vi = .int .i64 1 ∧ Ch (fun _ => False) w wr)) (fun _ _ vi _ => 1 - (intOf vi).toNat)
  case atStart => exact .inl ⟨rfl, rfl⟩
  case round =>
    rcases hrel with ⟨rfl, rfl⟩ | ⟨rfl, hc⟩
    · go_wp2_with (go_at_call 54; refine (ccheck_x _).mono ?_; rintro e w1 ⟨rfl, hc⟩; have C1 := hid hc; clear hc)
      go_roundw
      case rel => exact .inr ⟨rfl, ((Ch.refl _ w).alloc _).f C1.out⟩
      case measure => simp [intOf]
    · have C := hid hc
      clear hc h0 h1 h2
      go_wp2
      go_ret
      exact ⟨rfl, C.out⟩
set_option maxRecDepth 100000 in
set_option maxHeartbeats 2000000 in
theorem check_edit_who (A B : Int) (hB : B ≠ 0) (w : World) : Calls Try.prog 11 #[dl 0 0 0 0 1 (.slice none 0 0) A B] w (ErrPost w 1) := by
  have hb : (B == 0) = false := beq_eq_false_iff_ne.2 hB
  clear hB
  have H := hid (show uOk 0 0 = true by rfl)
  have HI := hid (show (decide ((0 : Int) ≤ 0) && decide ((0 : Int) ≤ 1073741824)) = true by rfl)
  have HV := hid (show (decide ((0 : Int) ≤ 0) && decide ((0 : Int) ≤ 1048576)) = true by rfl)
  have T := hid True.intro
  have TI := hid True.intro
  unfold dl
  go_enter Try.func11, Try.ntmps11
  go_wp2_with (first
    | (go_at_call 26; have T2 := T.out; refine (user_any 0 0 _).mono ?_; rw [H.out]; rintro e w1 ⟨rfl, hc⟩; have C1 := hid (((Ch.refl (fun _ => False) w).alloc _).f hc); have g := (DlAt.new 0 0 0 0 _ _ _ _ _ _ w).f hc; obtain ⟨x0, x1, x2, x3, x36, x37, x38, x39⟩ := g; clear hc T T2)
    | (go_at_call 27; have T2 := TI.out; refine (dwithin_any 0 1073741824 _).mono ?_; rw [HI.out]; rintro e w2 ⟨rfl, rfl⟩; clear TI T2)
    | (go_at_call 27; refine (dwithin_any 0 1048576 _).mono ?_; rw [HV.out]; rintro e w2 ⟨rfl, rfl⟩)
    | (go_at_call 28; refine (opcheck_nil _).mono ?_; rintro e w2 ⟨rfl, rfl⟩))
  go_ret
  exact ⟨rfl, C1.out⟩
set_option maxRecDepth 100000 in
set_option maxHeartbeats 2000000 in
theorem check_edit_op (g : Nat) (w : World) (h0 : w.cell? ⟨g, 0, none⟩ = some (.int .i64 2)) (h1 : w.cell? ⟨g, 1, none⟩ = some (.int .i64 0)) (h2 : w.cell? ⟨g, 2, none⟩ = some (.string ⟨#[120]⟩)) :
    Calls Try.prog 11 #[dl 0 0 0 0 1 (.slice (some ⟨g, 0, none⟩) 1 1) 0 0] w (ErrPost w 0) := by
  have G0 := hid h0
  have G1 := hid h1
  have G2 := hid h2
  clear h0 h1 h2
  have H := hid (show uOk 0 0 = true by rfl)
  have HI := hid (show (decide ((0 : Int) ≤ 0) && decide ((0 : Int) ≤ 1073741824)) = true by rfl)
  have HV := hid (show (decide ((0 : Int) ≤ 0) && decide ((0 : Int) ≤ 1048576)) = true by rfl)
  have T := hid True.intro
  have TI := hid True.intro
  unfold dl
  go_enter Try.func11, Try.ntmps11
  go_wp2_with (first
    | (go_at_call 26; have T2 := T.out; refine (user_any 0 0 _).mono ?_; rw [H.out]; rintro e w1 ⟨rfl, hc⟩; have C1 := hid (((Ch.refl (fun _ => False) w).alloc _).f hc); have g := (DlAt.new 0 0 0 0 _ _ _ _ _ _ w).f hc; obtain ⟨x0, x1, x2, x3, x36, x37, x38, x39⟩ := g; clear hc T T2)
    | (go_at_call 27; have T2 := TI.out; refine (dwithin_any 0 1073741824 _).mono ?_; rw [HI.out]; rintro e w2 ⟨rfl, rfl⟩; clear TI T2)
    | (go_at_call 27; refine (dwithin_any 0 1048576 _).mono ?_; rw [HV.out]; rintro e w2 ⟨rfl, rfl⟩)
    | (go_at_call 28; refine (opcheck_one g _ (C1.out.cell G0.out id) (C1.out.cell G1.out id) (C1.out.cell G2.out id)).mono ?_; rintro e w2 ⟨rfl, hc⟩; have C2 := hid (C1.out.f hc); have y38 := hc.cell x38 id; have y39 := hc.cell x39 id; clear hc))
  go_ret
  exact ⟨rfl, C2.out⟩
end Go.Proofs.Ytpcgamgjgfdpaaa

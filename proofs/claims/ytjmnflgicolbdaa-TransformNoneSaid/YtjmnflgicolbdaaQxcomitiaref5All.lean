/- Contracts of Go functions: each call answers what the Lean function of its name answers. Conditions: stand in each theorem. Written by this seat's own program over the kit's printer. -/
import Derived.Test.YtjmnflgicolbdaaQ0
import Derived.Test.YtjmnflgicolbdaaQxcm
namespace Go.Proofs.Ytjmnflgicolbdaa.Q
open Go.RowKit Go.Proofs.YtjmnflgicolbdaaW.PrintWords Go.Proofs.YtjmnflgicolbdaaW.PrintLast Go.Proofs.YtjmnflgicolbdaaW.PrintMore
attribute [local go_sem] max2_int min2_int max_two min_two max_three min_three max_four min_four   -- for this text's walks alone
set_option linter.unusedVariables false
set_option linter.unusedSimpArgs false

-- HAND
/-! ### comitiaref5_All: function 26 -/
open Go.OpM Go.Cx Go.F64
/-- Of none: what keeps all. -/
def comitiaref5_All.f (a0 : Int) (l1 : List (List (S43))) : Option (List (S43) × Int) := if l1 = [] then (if a0 > 0 then some ([⟨1, a0, ⟨#[]⟩⟩], 0) else some ([], 0)) else none
set_option maxRecDepth 100000 in
set_option maxHeartbeats 1000000 in
theorem comitiaref5_All.calls (a0 : Int) (A1 : Option Addr) (c1 : Nat) (l1 : List (List (S43))) (r1 : List (S43)) (r2 : Int) (w : World) (hr1 : Kd.C (Kd.slice 43 k43) w A1 l1.length l1) (hc1 : l1.length ≤ c1) (h : comitiaref5_All.f a0 l1 = some (r1, r2)) :
    Calls Try.prog 26 #[.int .i64 a0, .slice A1 l1.length c1] w fun e w' => ∃ v0_ : Value, e = .returned (.tuple #[v0_, .int .i64 r2]) ∧ Kd.R k43 43 w' w.heap.size (fun _ => True) v0_ r1 ∧ Below w.heap.size w w' := by
  unfold comitiaref5_All.f at h
  by_cases hl : l1 = []
  · rw [if_pos hl] at h
    subst hl
    clear hr1 hc1
    by_cases h0 : a0 > 0
    · rw [if_pos h0] at h
      simp only [Option.some.injEq, Prod.mk.injEq] at h
      obtain ⟨rfl, rfl⟩ := h
      have t0 : decide (a0 > 0) = true := decide_eq_true h0
      go_enter Try.func26, Try.ntmps26
      go_wp2
      go_loopw [6, 7] (fun v6 v7 wr => v6 = .slice (some ⟨w.heap.size, 0, none⟩) 1 1 ∧ v7 = .int .i64 0 ∧ Hid (wr = w.alloc (.cells #[.int .i64 1, .int .i64 a0, .string ⟨#[]⟩] 43))) (fun _ _ _ => 0)
      case atStart => exact ⟨rfl, rfl, Go.Cx.hid rfl⟩
      case round =>
        obtain ⟨rfl, rfl, HW⟩ := hrel
        go_wp2
        go_ret2
        rw [HW.out]
        exact ⟨_, rfl, own3 (l := [⟨1, a0, ⟨#[]⟩⟩]) rfl ⟨rfl, .inr ⟨w.heap.size, 1, #[.int .i64 1, .int .i64 a0, .string ⟨#[]⟩], rfl, Nat.le_refl _, heap_alloc_new w _, Nat.le_refl _, by unfold maxLen; omega, rfl, rfl⟩⟩, ((Ch.refl (fun _ => False) w).alloc _).below0⟩
    · rw [if_neg h0] at h
      simp only [Option.some.injEq, Prod.mk.injEq] at h
      obtain ⟨rfl, rfl⟩ := h
      have t0 : decide (a0 > 0) = false := decide_eq_false h0
      go_enter Try.func26, Try.ntmps26
      go_wp2
      go_loopw [6, 7] (fun v6 v7 wr => v6 = .slice none 0 0 ∧ v7 = .int .i64 0 ∧ Hid (wr = w)) (fun _ _ _ => 0)
      case atStart => exact ⟨rfl, rfl, Go.Cx.hid rfl⟩
      case round =>
        obtain ⟨rfl, rfl, HW⟩ := hrel
        go_wp2
        go_ret2
        rw [HW.out]
        exact ⟨_, rfl, Kd.R_nil _ _ _ _ _, Below.refl _ _⟩
  · rw [if_neg hl] at h
    cases h

end Go.Proofs.Ytjmnflgicolbdaa.Q

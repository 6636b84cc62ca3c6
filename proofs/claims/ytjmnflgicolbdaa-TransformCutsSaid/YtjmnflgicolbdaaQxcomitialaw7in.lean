/- Contracts of Go functions: each call answers what the Lean function of its name answers. Conditions: stand in each theorem. Written by this seat's own program over the kit's printer. -/
import Derived.Test.YtjmnflgicolbdaaQ0
namespace Go.Proofs.Ytjmnflgicolbdaa.Q
open Go.RowKit Go.Proofs.YtjmnflgicolbdaaW.PrintWords Go.Proofs.YtjmnflgicolbdaaW.PrintLast Go.Proofs.YtjmnflgicolbdaaW.PrintMore
attribute [local go_sem] max2_int min2_int max_two min_two max_three min_three max_four min_four   -- for this text's walks alone
set_option linter.unusedVariables false
set_option linter.unusedSimpArgs false

/-! ### comitialaw7_in: function 25 -/
def comitialaw7_in.f (a0 : Int) (a1 : Int) (a2 : Int) (a3 : Int) : Option (Bool) := if a0 = 0 then (none) else (if a3 ≥ (mn (mx (Int.tmod a1 a0) 0) (wrap64 (a0 - 1))) then (if (wrap64 (a0 - (mn (mx (Int.tmod a1 a0) 0) (wrap64 (a0 - 1))))) = 0 then (none) else (some (decide (a3 < (wrap64 ((wrap64 ((mn (mx (Int.tmod a1 a0) 0) (wrap64 (a0 - 1))) + 1)) + (mn (mx (Int.tmod a2 (wrap64 (a0 - (mn (mx (Int.tmod a1 a0) 0) (wrap64 (a0 - 1)))))) 0) (wrap64 ((wrap64 (a0 - (mn (mx (Int.tmod a1 a0) 0) (wrap64 (a0 - 1))))) - 1))))))))) else (some false))
set_option maxHeartbeats 8000000 in
set_option maxRecDepth 100000 in
theorem comitialaw7_in.calls (a0 : Int) (a1 : Int) (a2 : Int) (a3 : Int) (r : Bool) (w : World) (h : comitialaw7_in.f a0 a1 a2 a3 = some r) :
    Calls Try.prog 25 #[.int .i64 a0, .int .i64 a1, .int .i64 a2, .int .i64 a3] w fun e w' => e = .returned (.bool r) ∧ Below w.heap.size w w' := by
  have HB := Aside0.mk (Below.refl w.heap.size w)
  have H : (if a0 = 0 then (none) else (if a3 ≥ (mn (mx (Int.tmod a1 a0) 0) (wrap64 (a0 - 1))) then (if (wrap64 (a0 - (mn (mx (Int.tmod a1 a0) 0) (wrap64 (a0 - 1))))) = 0 then (none) else (some (decide (a3 < (wrap64 ((wrap64 ((mn (mx (Int.tmod a1 a0) 0) (wrap64 (a0 - 1))) + 1)) + (mn (mx (Int.tmod a2 (wrap64 (a0 - (mn (mx (Int.tmod a1 a0) 0) (wrap64 (a0 - 1)))))) 0) (wrap64 ((wrap64 (a0 - (mn (mx (Int.tmod a1 a0) 0) (wrap64 (a0 - 1))))) - 1))))))))) else (some false))) = some r := h
  clear h
  by_cases c5 : a0 = 0
  · rw [if_pos c5] at H
    exact absurd H (by simp)
  · rw [if_neg c5] at H
    have c5b0 : (a0 == 0) = false := beq_eq_false_iff_ne.mpr c5
    have c5b1 : (a0 != 0) = true := bne_iff_ne.mpr c5
    obtain ⟨ji6, hji6⟩ : ∃ j_ : Int, (mx (Int.tmod a1 a0) 0) = j_ := ⟨_, rfl⟩
    replace H : (if a3 ≥ (mn (ji6) (wrap64 (a0 - 1))) then (if (wrap64 (a0 - (mn (ji6) (wrap64 (a0 - 1))))) = 0 then (none) else (some (decide (a3 < (wrap64 ((wrap64 ((mn (ji6) (wrap64 (a0 - 1))) + 1)) + (mn (mx (Int.tmod a2 (wrap64 (a0 - (mn (ji6) (wrap64 (a0 - 1)))))) 0) (wrap64 ((wrap64 (a0 - (mn (ji6) (wrap64 (a0 - 1))))) - 1))))))))) else (some false)) = some r := by first | (rw [hji6] at H; exact H) | (simp only [hji6] at H ⊢; exact H)
    (try (have hji6l : 0 ≤ ji6 := by (rw [← hji6]; unfold mx; (repeat' split) <;> omega)))
    (try (have hji6m : 0 ≤ ji6 := by omega))
    have hji6_ : (if (Int.tmod a1 a0) < 0 then 0 else (Int.tmod a1 a0)) = ji6 := hji6
    obtain ⟨ji7, hji7⟩ : ∃ j_ : Int, (mn (ji6) (wrap64 (a0 - 1))) = j_ := ⟨_, rfl⟩
    replace H : (if a3 ≥ (ji7) then (if (wrap64 (a0 - (ji7))) = 0 then (none) else (some (decide (a3 < (wrap64 ((wrap64 ((ji7) + 1)) + (mn (mx (Int.tmod a2 (wrap64 (a0 - (ji7)))) 0) (wrap64 ((wrap64 (a0 - (ji7))) - 1))))))))) else (some false)) = some r := by first | (rw [hji7] at H; exact H) | (simp only [hji7] at H ⊢; exact H)
    have hji7_ : (if (wrap64 (a0 - 1)) < (ji6) then (wrap64 (a0 - 1)) else (ji6)) = ji7 := hji7
    by_cases c8 : a3 ≥ (ji7)
    · rw [if_pos c8] at H
      have c8b0 : decide ((ji7) ≤ a3) = true := decide_eq_true c8
      clear c8
      by_cases c9 : (wrap64 (a0 - (ji7))) = 0
      · rw [if_pos c9] at H
        exact absurd H (by simp)
      · rw [if_neg c9] at H
        have c9b0 : ((wrap64 (a0 - (ji7))) == 0) = false := beq_eq_false_iff_ne.mpr c9
        have c9b1 : ((wrap64 (a0 - (ji7))) != 0) = true := bne_iff_ne.mpr c9
        obtain ⟨ji10, hji10⟩ : ∃ j_ : Int, (mx (Int.tmod a2 (wrap64 (a0 - (ji7)))) 0) = j_ := ⟨_, rfl⟩
        replace H : (some (decide (a3 < (wrap64 ((wrap64 ((ji7) + 1)) + (mn (ji10) (wrap64 ((wrap64 (a0 - (ji7))) - 1)))))))) = some r := by first | (rw [hji10] at H; exact H) | (simp only [hji10] at H ⊢; exact H)
        have hji10_ : (if (Int.tmod a2 (wrap64 (a0 - (ji7)))) < 0 then 0 else (Int.tmod a2 (wrap64 (a0 - (ji7))))) = ji10 := hji10
        obtain ⟨ji11, hji11⟩ : ∃ j_ : Int, (mn (ji10) (wrap64 ((wrap64 (a0 - (ji7))) - 1))) = j_ := ⟨_, rfl⟩
        replace H : (some (decide (a3 < (wrap64 ((wrap64 ((ji7) + 1)) + (ji11)))))) = some r := by first | (rw [hji11] at H; exact H) | (simp only [hji11] at H ⊢; exact H)
        have hji11_ : (if (wrap64 ((wrap64 (a0 - (ji7))) - 1)) < (ji10) then (wrap64 ((wrap64 (a0 - (ji7))) - 1)) else (ji10)) = ji11 := hji11
        obtain rfl := Option.some.inj H
        go_enter Try.func25, Try.ntmps25
        go_wp2
        go_ret
        exact ⟨by first | rfl | (simp [errW_none, errW_some] <;> rfl) | (simp only [← hji6, ← hji7, ← hji10, ← hji11]; first | rfl | (simp [errW_none, errW_some] <;> rfl)) | (simp [*, errW_none, errW_some] <;> rfl), by repeat (first | (with_reducible first | exact HB.out | apply below_alloc | apply pw_below_drewN | apply below_drew1) | exact HB.out)⟩
    · rw [if_neg c8] at H
      have c8b0 : decide ((ji7) ≤ a3) = false := decide_eq_false c8
      clear c8
      obtain rfl := Option.some.inj H
      go_enter Try.func25, Try.ntmps25
      go_wp2
      go_ret
      exact ⟨by first | rfl | (simp [errW_none, errW_some] <;> rfl) | (simp only [← hji6, ← hji7]; first | rfl | (simp [errW_none, errW_some] <;> rfl)) | (simp [*, errW_none, errW_some] <;> rfl), by repeat (first | (with_reducible first | exact HB.out | apply below_alloc | apply pw_below_drewN | apply below_drew1) | exact HB.out)⟩

end Go.Proofs.Ytjmnflgicolbdaa.Q

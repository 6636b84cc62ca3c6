/- Contracts of Go functions: each call answers what the Lean function of its name answers. Conditions: stand in each theorem. Written by this seat's own program over the kit's printer. -/
import Derived.Test.YtlcnhamcbakfcaaQ0
import Derived.Test.YtlcnhamcbakfcaaQxpeoplefind
import Derived.Test.YtlcnhamcbakfcaaQxslicesCloneAddr
import Derived.WalkMore
namespace Go.Proofs.Ytlcnhamcbakfcaa.Q
open Go.RowKit Go.Proofs.YtlcnhamcbakfcaaW.PrintWords Go.Proofs.YtlcnhamcbakfcaaW.PrintLast Go.Proofs.YtlcnhamcbakfcaaW.PrintMore
attribute [local go_sem] max2_int min2_int max_two min_two max_three min_three max_four min_four   -- for this text's walks alone
set_option linter.unusedVariables false
set_option linter.unusedSimpArgs false

-- HAND
/-! ### comitialaw12_known: function 4 -/
open Go.OpM Go.Cx Go.F64
-- IMPORT Derived.WalkMore
def comitialaw12_known.f : Option Bool := some true
set_option maxRecDepth 100000 in
set_option maxHeartbeats 400000 in
theorem comitialaw12_known.gone (w : World) : Calls Try.prog 9 #[.slice none 0 0, .agg #[.int .i64 0, .int .i64 0]] w fun e w' => (∃ v, e = .returned (.tuple #[v, .int .i64 2])) ∧ Below w.heap.size w w' := by
  have HF : Hid (people_find.f [] 0 0 = some (0, false)) := Go.Cx.hid rfl
  have HL : Hid (slices_Clone_Addr.f [] = some []) := Go.Cx.hid rfl
  have HN : ∀ w : World, Kd.C k29 w none 0 [] := fun w => ⟨rfl, by omega, fun h => absurd h (by omega)⟩
  go_enter Try.func9, Try.ntmps9
  go_wp2_with (first
    | (go_at_call 10; refine (people_find.calls none 0 [] 0 0 0 false _ (HN _) (Nat.le_refl _) HF.out).mono ?_; rintro e w1 ⟨rfl, hb⟩; have HB := Go.Cx.hid (((Ch.refl (fun _ => False) w).alloc _).f (Ch.of_below hb)); clear hb)
    | (go_at_call 12; refine (slices_Clone_Addr.calls none 0 [] [] _ (HN _) (Nat.le_refl _) HL.out).mono ?_; rintro e w3 ⟨v, rfl, ho, hb⟩; have HB3 := Go.Cx.hid (HB.out.f (Ch.of_below hb)); clear ho hb))
  go_ret2
  exact ⟨⟨_, rfl⟩, HB3.out.below0⟩
set_option maxRecDepth 100000 in
set_option maxHeartbeats 400000 in
theorem comitialaw12_known.calls (r : Bool) (w : World) (h : comitialaw12_known.f = some r) : Calls Try.prog 4 #[] w fun e w' => e = .returned (.bool r) ∧ Below w.heap.size w w' := by
  obtain rfl : true = r := Option.some.inj h
  clear h
  go_enter Try.func4, Try.ntmps4
  go_wp2_with (go_at_call 9; refine (comitialaw12_known.gone _).mono ?_; rintro e w1 ⟨⟨v, rfl⟩, hb⟩; have HB := Go.Cx.hid hb; clear hb)
  go_ret
  exact ⟨rfl, HB.out⟩

end Go.Proofs.Ytlcnhamcbakfcaa.Q

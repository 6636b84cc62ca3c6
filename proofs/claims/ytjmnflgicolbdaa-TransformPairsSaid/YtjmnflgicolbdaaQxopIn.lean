/- Contracts of Go functions: each call answers what the Lean function of its name answers. Conditions: stand in each theorem. Written by this seat's own program over the kit's printer. -/
import Derived.Test.YtjmnflgicolbdaaQ0
import Derived.Test.YtjmnflgicolbdaaQxcm
namespace Go.Proofs.Ytjmnflgicolbdaa.Q
open Go.RowKit Go.Proofs.YtjmnflgicolbdaaW.PrintWords Go.Proofs.YtjmnflgicolbdaaW.PrintLast Go.Proofs.YtjmnflgicolbdaaW.PrintMore
attribute [local go_sem] max2_int min2_int max_two min_two max_three min_three max_four min_four   -- for this text's walks alone
set_option linter.unusedVariables false
set_option linter.unusedSimpArgs false

-- HAND
/-! ### op_In: function 30 -/
open Go.OpM Go.Cx Go.F64
def op_In.f (l0 : List (S43)) : Option (Int) := if good (cms l0) = true then some ((inC (cms l0) : Nat) : Int) else none
set_option maxRecDepth 100000 in
set_option maxHeartbeats 400000 in
theorem op_In.calls (A0 : Option Addr) (c0 : Nat) (l0 : List (S43)) (r : Int) (w : World) (hr0 : Kd.C k43 w A0 l0.length l0) (hc0 : l0.length ≤ c0) (h : op_In.f l0 = some r) :
    Calls Try.prog 30 #[.slice A0 l0.length c0] w fun e w' => e = .returned (.int .i64 r) ∧ Below w.heap.size w w' := by
  have hg : good (cms l0) = true := by
    unfold op_In.f at h
    by_cases hg : good (cms l0) = true
    · exact hg
    · rw [if_neg hg] at h; cases h
  obtain rfl : ((inC (cms l0) : Nat) : Int) = r := by
    unfold op_In.f at h
    rw [if_pos hg] at h
    exact Option.some.inj h
  have ok : Ok ((inC (cms l0) : Nat) : Int) := Ok.nat (by have := (good_iff.1 hg).2; omega)
  have HR := Go.Cx.hid hr0
  have HG := Go.Cx.hid hg
  clear hr0 hg h hc0
  go_enter Try.func30, Try.ntmps30
  go_wp2_with (go_at_call 38; refine (sizes_any A0 c0 l0 _ HR.out HG.out).mono ?_; rintro e w1 ⟨rfl, hb⟩; have HB := Go.Cx.hid hb; clear hb)
  go_ret
  exact ⟨rfl, HB.out⟩

end Go.Proofs.Ytjmnflgicolbdaa.Q

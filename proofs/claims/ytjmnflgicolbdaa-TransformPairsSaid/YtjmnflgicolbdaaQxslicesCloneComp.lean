/- Contracts of Go functions: each call answers what the Lean function of its name answers. Conditions: stand in each theorem. Written by this seat's own program over the kit's printer. -/
import Derived.Test.YtjmnflgicolbdaaQ0
import Derived.Test.YtjmnflgicolbdaaQxcm
namespace Go.Proofs.Ytjmnflgicolbdaa.Q
open Go.RowKit Go.Proofs.YtjmnflgicolbdaaW.PrintWords Go.Proofs.YtjmnflgicolbdaaW.PrintLast Go.Proofs.YtjmnflgicolbdaaW.PrintMore
attribute [local go_sem] max2_int min2_int max_two min_two max_three min_three max_four min_four   -- for this text's walks alone
set_option linter.unusedVariables false
set_option linter.unusedSimpArgs false

-- HAND
/-! ### slices_Clone_Comp: function 37 -/
open Go.OpM Go.Cx Go.F64
def slices_Clone_Comp.f (l0 : List (S43)) : Option (List (S43)) := if l0.length < 1000000 then some l0 else none
set_option maxRecDepth 100000 in
set_option maxHeartbeats 400000 in
theorem slices_Clone_Comp.calls (A0 : Option Addr) (c0 : Nat) (l0 : List (S43)) (r : List (S43)) (w : World) (hr0 : Kd.C k43 w A0 l0.length l0) (hc0 : l0.length ≤ c0) (h : slices_Clone_Comp.f l0 = some r) :
    Calls Try.prog 37 #[.slice A0 l0.length c0] w fun e w' => ∃ v0_ : Value, e = .returned (v0_) ∧ Kd.R k43 43 w' w.heap.size (fun _ => True) v0_ r ∧ Below w.heap.size w w' := by
  have hl : l0.length < 1000000 := by
    unfold slices_Clone_Comp.f at h
    by_cases hl : l0.length < 1000000
    · exact hl
    · rw [if_neg hl] at h; cases h
  obtain rfl : l0 = r := by
    unfold slices_Clone_Comp.f at h
    rw [if_pos hl] at h
    exact Option.some.inj h
  have q : ∀ (w : World) (a : Option Addr) (n c n' c' : Nat), (binOp .eql 27 (.slice a n c) (.slice none n' c')).run Try.prog w = .ok (.bool a.isNone) w := fun w a n c n' c' => Lib.run_eql_slice_nil w _ _ a n c n' c' Try.underlying27
  cases A0 with
  | none =>
    have e := Go.Cx.hid (cells3_none hr0)
    clear hr0 h
    go_enter Try.func37, Try.ntmps37
    go_wp2
    go_ret
    rw [e.out]
    exact ⟨_, rfl, Kd.R_nil _ _ _ _ _, Below.refl _ _⟩
  | some b =>
    have H := Go.Cx.hid (cells3 hr0)
    have H1 := Go.Cx.hid (encs3_one l0)
    have H2 := Go.Cx.hid (encs3_len l0)
    obtain ⟨n, hn⟩ : ∃ n, n = l0.length := ⟨_, rfl⟩
    rw [← hn] at hl ⊢
    have HN := Go.Cx.hid hn
    clear hr0 h hn hc0
    go_enter Try.func37, Try.ntmps37
    go_wp2_with (at_builtin; refine wpList_app rfl _ _ _ _ rfl w.heap.size 43 3 32 _ et_comp _ 0 _ [] rfl (World.ownsRow_made w #[] 0 (Nat.le_refl _) (Nat.zero_le _) rfl) _ n (encs3 l0) rfl (Src.ofSlice _ Try.underlying27 b n c0 (encs3 l0) (by rw [H2.out, ← HN.out]) (fun j u hu => (Below.cell (B := w.heap.size) ((Below.refl _ w).alloc (Nat.le_refl _) _) (World.block_lt_of_cell? w _ (H.out b rfl j u hu))).trans (H.out b rfl j u hu)) H1.out) (by unfold maxLen; omega) (by omega) (by simp) ?_; intro a' c' w1 hO hS hC hN; rw [List.nil_append, Nat.zero_add] at hO; have HO := Go.Cx.hid hO; have HC := Go.Cx.hid hC; clear hO hS hC hN)
    go_ret
    exact ⟨_, rfl, own3 HN.out (by simpa using HO.out), (Ch.app_new HC.out).below0⟩

end Go.Proofs.Ytjmnflgicolbdaa.Q

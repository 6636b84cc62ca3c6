/- The statement OpBeside, once the machine's side is told by the printed contracts: it holds of the Lean functions of the Go functions. Conditions: none. -/
import Derived.Test.YthfpohhkgcgbeaaQJ
import Derived.Test.YthfpohhkgcgbeaaQxcomitialaw4OpBeside
namespace Go.Proofs.Ythfpohhkgcgbeaa.Pure
open Go.OpM Go.RowKit Go.Cx Go.Proofs.Ythfpohhkgcgbeaa.Q Go.Proofs.YthfpohhkgcgbeaaW.PrintWords Go.Proofs.YthfpohhkgcgbeaaW.PrintLast Go.Proofs.YthfpohhkgcgbeaaW.PrintMore
set_option linter.unusedVariables false
set_option linter.unusedSimpArgs false

theorem wsum (a b : Nat) (ha : a ≤ 120) (hb : b ≤ 120) : wrap64 ((a : Int) + (b : Int)) = (a : Int) + (b : Int) := w64 (by omega) (by omega)
theorem OpBeside : comitialaw4_OpBeside.Pure := by
  intro l0 l1 l2 l3 _ _ _ _ _ _ _ _ _ _ _ _
  refine ⟨400, ?_⟩
  obtain ⟨k, hk⟩ : ∃ k, k = 400 := ⟨_, rfl⟩
  rw [← hk]
  unfold comitialaw4_OpBeside.f
  rw [known_true _ (by omega)]
  simp only [Option.bind_some, if_true]
  rw [mn_eq, mn_eq, if_pos (by omega), if_pos (by omega), if_pos (by omega), if_pos (by omega)]
  obtain ⟨x, hx, hxl⟩ := nums_str (l0.take (min (l0.length : Int) 40).toNat)
  obtain ⟨y, hy, hyl⟩ := nums_str (l1.take (min (l1.length : Int) 40).toNat)
  rw [List.length_take] at hxl hyl
  rw [hx, hy]
  simp only [ba_size]
  obtain ⟨o, hr, hm, _⟩ := make_eq x.length (by omega) l2
  obtain ⟨p, hr2, hm2, _⟩ := make_eq y.length (by omega) l3
  have hg := hm.good (by omega)
  have hg2 := hm2.good (by omega)
  have ho := hm.outs
  have hp := hm2.outs
  have hi := hm.ins
  have hj := hm2.ins
  have hol := hm.len
  have hpl := hm2.len
  rw [hr k (by omega)]
  simp only [Option.bind_some]
  rw [hr2 k (by omega)]
  simp only [Option.bind_some]
  rw [out_eq o hg, out_eq p hg2]
  rw [Option.bind_some, Option.bind_some]
  rw [wsum _ _ ho hp]
  by_cases h : ((outC (cms o) : Nat) : Int) + ((outC (cms p) : Nat) : Int) > 120
  · rw [if_pos h]
  rw [if_neg h, apply_eq x o hg (by omega), apply_eq y p hg2 (by omega), if_pos hi, if_pos ho, if_pos hj, if_pos hp]
  rw [Option.bind_some, Option.bind_some]
  have hat : at_ (cms ([] ++ o ++ p)) = at_ (cms o) ++ at_ (cms p) := by rw [List.nil_append, cms_append, at_append]
  have hin : inC (cms ([] ++ o ++ p)) = (x ++ y).length := by unfold inC at *; rw [hat]; simp; omega
  have hout : outC (cms ([] ++ o ++ p)) = outC (cms o) + outC (cms p) := by unfold outC; rw [hat]; simp
  have hgs : good (cms ([] ++ o ++ p)) = true := good_iff.2 ⟨by rw [List.nil_append, cms_append]; exact hm.vl.append hm2.vl, by rw [hin, hout, List.length_append]; omega⟩
  have ax := app_length id (at_ (cms o)) x (by unfold inC at hi; omega)
  have ay := app_length id (at_ (cms p)) y (by unfold inC at hj; omega)
  have happ : app id (at_ (cms ([] ++ o ++ p))) (x ++ y) = app id (at_ (cms o)) x ++ app id (at_ (cms p)) y := by
    rw [hat, app_append _ _ _ _ (by unfold inC at hi; simp; omega), app_front _ _ _ _ (by unfold inC at hi; omega)]
    have : ins (at_ (cms o)) = x.length := hi
    rw [this]
    simp
  rw [if_pos (by omega), if_pos (by simp; omega), if_pos (by simp; omega), ba_app, apply_eq _ _ hgs (by simp; omega), if_pos hin, if_pos (by rw [hout]; omega), happ]
  rw [Option.bind_some, if_pos rfl, if_pos rfl, if_pos rfl]
  dsimp only
  rw [ba_size, ba_size, if_pos (by rw [ax, ay]; unfold outC at ho hp; omega), ba_app]
  simp
end Go.Proofs.Ythfpohhkgcgbeaa.Pure

/- The statement InvertBack, once the machine's side is told by the printed contracts: it holds of the Lean functions of the Go functions. Conditions: none. -/
import Derived.Test.YtmkblbkijjabdaaQK6
import Derived.Test.YtmkblbkijjabdaaQxcomitialaw6InvertBack
namespace Go.Proofs.Ytmkblbkijjabdaa.Pure
open Go.OpM Go.RowKit Go.Cx Go.Proofs.Ytmkblbkijjabdaa.Q Go.Proofs.YtmkblbkijjabdaaW.PrintWords Go.Proofs.YtmkblbkijjabdaaW.PrintLast Go.Proofs.YtmkblbkijjabdaaW.PrintMore
set_option linter.unusedVariables false
set_option linter.unusedSimpArgs false

theorem InvertBack : comitialaw6_InvertBack.Pure := by
  intro l0 l1 _ _ _ _ _ _
  obtain ⟨d, hd, hdl⟩ := doc_eq l0
  obtain ⟨r, hr, hm, _⟩ := make_eq d.length (by omega) l1
  have hg := hm.good (by omega)
  refine ⟨400000, ?_⟩
  obtain ⟨k, hk⟩ : ∃ k, k = 400000 := ⟨_, rfl⟩
  rw [← hk]
  unfold comitialaw6_InvertBack.f
  rw [known6_true]
  simp only [Option.bind_some, if_true, hd, ba_size]
  rw [hr k (by omega)]
  simp only [Option.bind_some]
  have hrl := hm.len
  obtain ⟨g1, g2, g3⟩ := inv_good hg hm.ins
  have hl := normal_len g3
  have happ := app_length id (at_ (cms r)) d (by have := hm.ins; unfold inC at this; omega)
  have hou := hm.outs
  rw [ref_apply d r hg (by omega) k (by omega), invert_eq d r hg (by omega), if_pos hm.ins, if_pos hm.outs, if_pos hm.ins]
  simp only [Option.bind_some]
  rw [ref_apply _ _ (by rw [cms_scs]; exact nf_good _ g3) (by rw [happ]; unfold outC at hou; omega) k (by omega), cms_scs]
  have hi2 : inC (nf (inv (at_ (cms r)) d)) = (app id (at_ (cms r)) d).length := by rw [happ]; unfold inC; rw [at_nf, ins_norm, g1]; rfl
  have ho2 : outC (nf (inv (at_ (cms r)) d)) ≤ 120 := by unfold outC; rw [at_nf, outs_norm, g2]; omega
  rw [if_pos hi2, if_pos ho2, at_nf, app_norm _ _ _ (by rw [g1, happ]; exact Nat.le_refl _), inv_back (at_ (cms r)) d (by have := hm.ins; unfold inC at this; omega)]
  simp
end Go.Proofs.Ytmkblbkijjabdaa.Pure

/- The statement ComposeDoes, once the machine's side is told by the printed contracts: it holds of the Lean functions of the Go functions. Conditions: none. -/
import Derived.Test.YtmblpbaefoapaaaQE5
import Derived.Test.YtmblpbaefoapaaaQxcomitialaw5ComposeDoes
namespace Go.Proofs.Ytmblpbaefoapaaa.Pure
open Go.OpM Go.RowKit Go.Cx Go.Proofs.Ytmblpbaefoapaaa.Q Go.Proofs.YtmblpbaefoapaaaW.PrintWords Go.Proofs.YtmblpbaefoapaaaW.PrintLast Go.Proofs.YtmblpbaefoapaaaW.PrintMore
set_option linter.unusedVariables false
set_option linter.unusedSimpArgs false

theorem ComposeDoes : comitialaw5_ComposeDoes.Pure := by
  intro l0 l1 l2 _ _ _ _ _ _ _ _ _
  obtain ⟨d, hd, hdl⟩ := doc_eq l0
  obtain ⟨x, hx, hxm, _⟩ := make_eq d.length (by omega) l1
  have hgx := hxm.good (by omega)
  have hxi := hxm.ins
  have hxo := hxm.outs
  have happ := app_length id (at_ (cms x)) d (by unfold inC at hxi; omega)
  obtain ⟨y, hy, hym, _⟩ := make_eq (app id (at_ (cms x)) d).length (by rw [happ]; exact hxo) l2
  have hgy := hym.good (by rw [happ]; unfold outC at hxo; omega)
  have hyi := hym.ins
  have hyo := hym.outs
  rw [happ] at hyi
  have hio : outs (at_ (cms x)) = ins (at_ (cms y)) := by unfold inC at hyi; omega
  have hg2 : good2 (cms x) (cms y) = true := good2_mk hxm.vl hym.vl (by unfold inC outC at *; omega)
  have hxl := hxm.len
  have hyl := hym.len
  refine ⟨400000, ?_⟩
  obtain ⟨k, hk⟩ : ∃ k, k = 400000 := ⟨_, rfl⟩
  rw [← hk]
  unfold comitialaw5_ComposeDoes.f
  rw [known5_true]
  simp only [Option.bind_some, if_true, hd, ba_size]
  rw [hx k (by omega)]
  simp only [Option.bind_some]
  rw [ref_apply d x hgx (by omega) k (by omega), if_pos hxi, if_pos hxo]
  simp only [Option.bind_some, ba_size]
  rw [hy k (by omega)]
  simp only [Option.bind_some]
  rw [ref_apply _ y hgy (by rw [happ]; unfold outC at hxo; omega) k (by omega), if_pos (by rw [happ]; exact hyi), if_pos hyo, two_eq hg2, if_pos (by unfold inC outC at *; omega)]
  simp only [Option.bind_some]
  have hsum : ins (comp (at_ (cms x)) (at_ (cms y))) + outs (comp (at_ (cms x)) (at_ (cms y))) ≤ 100000 := by
    rw [ins_comp _ _ hio, outs_comp _ _ hio]; unfold inC outC at *; omega
  have hl := normal_len hsum
  rw [ref_apply d _ (by rw [cms_scs]; exact nf_good _ hsum) (by omega) k (by omega), cms_scs]
  have hi2 : inC (nf (comp (at_ (cms x)) (at_ (cms y)))) = d.length := by unfold inC; rw [at_nf, ins_norm, ins_comp _ _ hio]; exact hxi
  have ho2 : outC (nf (comp (at_ (cms x)) (at_ (cms y)))) ≤ 120 := by unfold outC; rw [at_nf, outs_norm, outs_comp _ _ hio]; exact hyo
  rw [if_pos hi2, if_pos ho2, at_nf, app_norm _ _ _ (by rw [ins_comp _ _ hio]; unfold inC at hxi; omega), app_comp id _ _ hio d (by unfold inC at hxi; omega)]
  simp
end Go.Proofs.Ytmblpbaefoapaaa.Pure

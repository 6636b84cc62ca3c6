/- The statement ComposeNormal, once the machine's side is told by the printed contracts: it holds of the Lean functions of the Go functions. Conditions: none. -/
import Derived.Test.YtmblpbaefoapaaaQE5n
import Derived.Test.YtmblpbaefoapaaaQxcomitialaw5ComposeNormal
namespace Go.Proofs.Ytmblpbaefoapaaa.Pure
open Go.OpM Go.RowKit Go.Cx Go.Proofs.Ytmblpbaefoapaaa.Q Go.Proofs.YtmblpbaefoapaaaW.PrintWords Go.Proofs.YtmblpbaefoapaaaW.PrintLast Go.Proofs.YtmblpbaefoapaaaW.PrintMore
set_option linter.unusedVariables false
set_option linter.unusedSimpArgs false

theorem ComposeNormal : comitialaw5_ComposeNormal.Pure := by
  intro a0 l1 l2 _ _ _ _ _ _ _
  obtain ⟨n, hn⟩ : ∃ n : Nat, min (max (a0.tmod 90) 0) 89 = (n : Int) := ⟨(min (max (a0.tmod 90) 0) 89).toNat, by omega⟩
  obtain ⟨x, hx, hxm, _⟩ := make_eq n (by omega) l1
  have hgx := hxm.good (by omega)
  have hxi := hxm.ins
  have hxo := hxm.outs
  obtain ⟨y, hy, hym, _⟩ := make_eq (outC (cms x)) hxo l2
  have hgy := hym.good (by omega)
  have hyi := hym.ins
  have hyo := hym.outs
  have hio : outs (at_ (cms x)) = ins (at_ (cms y)) := by unfold inC outC at hyi; omega
  have hg2 : good2 (cms x) (cms y) = true := good2_mk hxm.vl hym.vl (by unfold inC outC at *; omega)
  have hxl := hxm.len
  have hyl := hym.len
  have sx : ins (at_ (cms x)) + outs (at_ (cms x)) ≤ 100000 := good_sum hgx
  have sy : ins (at_ (cms y)) + outs (at_ (cms y)) ≤ 100000 := good_sum hgy
  have hg3 : good2 (cms (scs (nf (at_ (cms x))))) (cms (scs (nf (at_ (cms y))))) = true := by
    rw [cms_scs, cms_scs]
    refine good2_g (nf_good _ sx) (nf_good _ sy) ?_
    unfold inC outC at *; rw [at_nf, at_nf, ins_norm, outs_norm, ins_norm, outs_norm]; omega
  have hsum : ins (comp (at_ (cms x)) (at_ (cms y))) + outs (comp (at_ (cms x)) (at_ (cms y))) ≤ 100000 := by
    rw [ins_comp _ _ hio, outs_comp _ _ hio]; unfold inC outC at *; omega
  have hl := normal_len hsum
  have hgz : good (cms (scs (nf (comp (at_ (cms x)) (at_ (cms y)))))) = true := by rw [cms_scs]; exact nf_good _ hsum
  refine ⟨700000, ?_⟩
  obtain ⟨k, hk⟩ : ∃ k, k = 700000 := ⟨_, rfl⟩
  rw [← hk]
  unfold comitialaw5_ComposeNormal.f
  rw [known5_true, mn_eq, mx_eq, hn]
  simp only [Option.bind_some, if_true]
  rw [hx k (by omega)]
  simp only [Option.bind_some]
  rw [ref_out x hgx k (by omega)]
  simp only [Option.bind_some]
  rw [hy k (by omega)]
  simp only [Option.bind_some]
  rw [two_eq hg2, if_pos (by unfold inC outC at *; omega), ref_normal x hgx k (by omega), ref_normal y hgy k (by omega)]
  simp only [Option.bind_some]
  rw [two_eq hg3, if_pos (by rw [cms_scs, cms_scs]; unfold inC outC at *; rw [at_nf, at_nf, ins_norm, outs_norm]; omega), cms_scs, cms_scs, at_nf, at_nf, comp_norms hio]
  simp only [Option.bind_some, if_true]
  rw [rsame_refl _ (by omega) k (by omega)]
  simp only [Option.bind_some, if_true]
  rw [ref_normal _ hgz k (by omega), cms_scs, nf_nf]
  simp only [Option.bind_some]
  rw [rsame_refl _ (by omega) k (by omega)]
  simp only [Option.bind_some, if_true]
  rw [ref_in _ hgz k (by omega), ref_out _ hgz k (by omega), ref_out y hgy k (by omega), cms_scs]
  simp only [Option.bind_some]
  have hi2 : inC (nf (comp (at_ (cms x)) (at_ (cms y)))) = n := by unfold inC; rw [at_nf, ins_norm, ins_comp _ _ hio]; exact hxi
  have ho2 : outC (nf (comp (at_ (cms x)) (at_ (cms y)))) = outC (cms y) := by unfold outC; rw [at_nf, outs_norm, outs_comp _ _ hio]
  rw [hi2, ho2, if_pos rfl]
  simp
end Go.Proofs.Ytmblpbaefoapaaa.Pure

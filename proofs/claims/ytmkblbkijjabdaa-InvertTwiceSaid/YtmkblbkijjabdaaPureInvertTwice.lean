/- The statement InvertTwice, once the machine's side is told by the printed contracts: it holds of the Lean functions of the Go functions. Conditions: none. -/
import Derived.Test.YtmkblbkijjabdaaQE6
import Derived.Test.YtmkblbkijjabdaaQxcomitialaw6InvertTwice
namespace Go.Proofs.Ytmkblbkijjabdaa.Pure
open Go.OpM Go.RowKit Go.Cx Go.Proofs.Ytmkblbkijjabdaa.Q Go.Proofs.YtmkblbkijjabdaaW.PrintWords Go.Proofs.YtmkblbkijjabdaaW.PrintLast Go.Proofs.YtmkblbkijjabdaaW.PrintMore
set_option linter.unusedVariables false
set_option linter.unusedSimpArgs false

theorem InvertTwice : comitialaw6_InvertTwice.Pure := by
  intro l0 l1 l2 _ _ _ _ _ _ _ _ _
  obtain ⟨d, hd, hdl⟩ := doc_eq l0
  obtain ⟨x, hx, hxm, _⟩ := make_eq d.length (by omega) l1
  have hgx := hxm.good (by omega)
  have hxi := hxm.ins
  have hxo := hxm.outs
  have hix : ins (at_ (cms x)) = d.length := by unfold inC at hxi; exact hxi
  obtain ⟨m, hm⟩ : ∃ m, m = app id (at_ (cms x)) d := ⟨_, rfl⟩
  have hml : m.length = outs (at_ (cms x)) := by rw [hm]; exact app_length id _ d (by omega)
  have hm120 : m.length ≤ 120 := by unfold outC at hxo; omega
  obtain ⟨y, hy, hym, _⟩ := make_eq m.length hm120 l2
  have hgy := hym.good (by omega)
  have hyi := hym.ins
  have hyo := hym.outs
  have hiy : ins (at_ (cms y)) = m.length := by unfold inC at hyi; exact hyi
  obtain ⟨z, hz⟩ : ∃ z, z = app id (at_ (cms y)) m := ⟨_, rfl⟩
  have hzl : z.length = outs (at_ (cms y)) := by rw [hz]; exact app_length id _ m (by omega)
  have hz120 : z.length ≤ 120 := by unfold outC at hyo; omega
  -- p undoes x
  obtain ⟨p, hp⟩ : ∃ p, p = inv (at_ (cms x)) d := ⟨_, rfl⟩
  have pi : ins p = m.length := by rw [hp, inv_ins, hml]
  have po : outs p = d.length := by rw [hp, inv_outs _ _ (by omega), hix]
  have pb : app id p m = d := by rw [hp, hm]; exact inv_back _ d hix.symm
  have pg : good (nf p) = true := nf_good _ (by omega)
  have npi : ins (norm p) = m.length := by rw [ins_norm, pi]
  have npo : outs (norm p) = d.length := by rw [outs_norm, po]
  have npb : app id (norm p) m = d := by rw [app_norm _ _ _ (by omega), pb]
  -- q undoes p
  obtain ⟨q, hq⟩ : ∃ q, q = inv (norm p) m := ⟨_, rfl⟩
  have qi : ins q = d.length := by rw [hq, inv_ins, npo]
  have qo : outs q = m.length := by rw [hq, inv_outs _ _ (by omega), npi]
  have qb : app id q d = m := by
    have := inv_back (norm p) m npi.symm
    rw [npb] at this; rw [hq]; exact this
  have qg : good (nf q) = true := nf_good _ (by omega)
  -- r undoes y
  obtain ⟨r, hr⟩ : ∃ r, r = inv (at_ (cms y)) m := ⟨_, rfl⟩
  have ri : ins r = z.length := by rw [hr, inv_ins, hzl]
  have ro : outs r = m.length := by rw [hr, inv_outs _ _ (by omega), hiy]
  have rb : app id r z = m := by rw [hr, hz]; exact inv_back _ m hiy.symm
  have rg : good (nf r) = true := nf_good _ (by omega)
  have nri : ins (norm r) = z.length := by rw [ins_norm, ri]
  have nro : outs (norm r) = m.length := by rw [outs_norm, ro]
  have hio : outs (norm r) = ins (norm p) := by omega
  have bi := ins_comp _ _ hio
  have bo := outs_comp _ _ hio
  have bg : good (nf (comp (norm r) (norm p))) = true := nf_good _ (by omega)
  have bb : app id (comp (norm r) (norm p)) z = d := by
    rw [app_comp id _ _ hio z (by omega), app_norm _ r z (by omega), rb, npb]
  have lp := normal_len (x := p) (by omega)
  have lq := normal_len (x := q) (by omega)
  have lr := normal_len (x := r) (by omega)
  have lb := normal_len (x := comp (norm r) (norm p)) (by omega)
  have hxl := hxm.len
  have hyl := hym.len
  have g2 : good2 (cms (scs (nf r))) (cms (scs (nf p))) = true := by
    rw [cms_scs, cms_scs]
    refine good2_iff.2 ⟨good_vl rg, good_vl pg, ?_⟩
    unfold inC outC; rw [at_nf, at_nf]; omega
  refine ⟨700000, ?_⟩
  obtain ⟨k, hk⟩ : ∃ k, k = 700000 := ⟨_, rfl⟩
  rw [← hk]
  unfold comitialaw6_InvertTwice.f
  rw [known6_true]
  simp only [Option.bind_some, if_true, hd, ba_size]
  rw [hx k (by omega)]
  simp only [Option.bind_some]
  rw [ref_apply d x hgx (by omega) k (by omega), if_pos hxi, if_pos hxo, ← hm]
  simp only [Option.bind_some, ba_size]
  rw [hy k (by omega)]
  simp only [Option.bind_some]
  rw [ref_apply m y hgy (by omega) k (by omega), if_pos hyi, if_pos hyo, ← hz, invert_eq d x hgx (by omega), if_pos hxi, ← hp]
  simp only [Option.bind_some]
  rw [invert_eq m _ (by rw [cms_scs]; exact pg) (by omega), cms_scs, if_pos (by unfold inC; rw [at_nf]; exact npi), at_nf, ← hq]
  simp only [Option.bind_some]
  rw [ref_apply d _ (by rw [cms_scs]; exact qg) (by omega) k (by omega), cms_scs, if_pos (by unfold inC; rw [at_nf, ins_norm]; exact qi), if_pos (by unfold outC; rw [at_nf, outs_norm]; omega), at_nf, app_norm _ _ _ (by omega), qb]
  simp only [Option.bind_some]
  rw [invert_eq m y hgy (by omega), if_pos hyi, ← hr]
  simp only [Option.bind_some]
  rw [rtwo_eq g2, cms_scs, cms_scs, if_pos (by unfold inC outC; rw [at_nf, at_nf]; omega), at_nf, at_nf]
  simp only [Option.bind_some]
  rw [ref_apply z _ (by rw [cms_scs]; exact bg) (by omega) k (by omega), cms_scs, if_pos (by unfold inC; rw [at_nf, ins_norm]; omega), if_pos (by unfold outC; rw [at_nf, outs_norm]; omega), at_nf, app_norm _ _ _ (by omega), bb]
  simp
end Go.Proofs.Ytmkblbkijjabdaa.Pure

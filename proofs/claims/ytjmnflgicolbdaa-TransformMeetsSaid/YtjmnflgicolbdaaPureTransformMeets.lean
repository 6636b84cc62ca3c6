/- The statement TransformMeets, once the machine's side is told by the printed contracts: it holds of the Lean functions of the Go functions. Conditions: none. -/
import Derived.Test.YtjmnflgicolbdaaQE7
import Derived.Test.YtjmnflgicolbdaaQxcomitialaw7TransformMeets
namespace Go.Proofs.Ytjmnflgicolbdaa.Pure
open Go.OpM Go.RowKit Go.Cx Go.Proofs.Ytjmnflgicolbdaa.Q Go.Proofs.YtjmnflgicolbdaaW.PrintWords Go.Proofs.YtjmnflgicolbdaaW.PrintLast Go.Proofs.YtjmnflgicolbdaaW.PrintMore
set_option linter.unusedVariables false
set_option linter.unusedSimpArgs false

theorem TransformMeets : comitialaw7_TransformMeets.Pure := by
  intro l0 l1 l2 _ _ _ _ _ _ _ _ _
  obtain ⟨d, hd, hdl⟩ := few_eq l0
  obtain ⟨x, hx, hxm, _⟩ := make_eq d.length (by omega) l1
  obtain ⟨y, hy, hym, _⟩ := make_eq d.length (by omega) l2
  have hgx := hxm.good (by omega)
  have hgy := hym.good (by omega)
  have hxi := hxm.ins
  have hyi := hym.ins
  have hxo := hxm.outs
  have hyo := hym.outs
  have hio : ins (at_ (cms x)) = ins (at_ (cms y)) := by unfold inC at hxi hyi; omega
  have hg2 : good2 (cms x) (cms y) = true := good2_mk hxm.vl hym.vl (by omega)
  have P := pf hio
  obtain ⟨X, hX⟩ : ∃ X, X = (pairA (norm (at_ (cms x))) (norm (at_ (cms y)))).1 := ⟨_, rfl⟩
  obtain ⟨Y, hY⟩ : ∃ Y, Y = (pairA (norm (at_ (cms x))) (norm (at_ (cms y)))).2 := ⟨_, rfl⟩
  rw [← hX, ← hY] at P
  have p1 := P.ix
  have p2 := P.iy
  have p3 := P.xy
  have p4 := P.le
  have p5 := P.meets d (by unfold inC at hxi; omega)
  have sX : ins X + outs X ≤ 100000 := by unfold inC outC at *; omega
  have sY : ins Y + outs Y ≤ 100000 := by unfold inC outC at *; omega
  have lX := normal_len sX
  have lY := normal_len sY
  have gX : good (cms (scs (nf X))) = true := by rw [cms_scs]; exact nf_good _ sX
  have gY : good (cms (scs (nf Y))) = true := by rw [cms_scs]; exact nf_good _ sY
  have ax := app_length id (at_ (cms x)) d (by unfold inC at hxi; omega)
  have ay := app_length id (at_ (cms y)) d (by unfold inC at hyi; omega)
  have hxl := hxm.len
  have hyl := hym.len
  have iX : inC (nf X) = outs (at_ (cms y)) := by unfold inC; rw [at_nf, ins_norm]; exact p1
  have iY : inC (nf Y) = outs (at_ (cms x)) := by unfold inC; rw [at_nf, ins_norm]; exact p2
  have oX : outC (nf X) = outs X := by unfold outC; rw [at_nf, outs_norm]
  have oY : outC (nf Y) = outs X := by unfold outC; rw [at_nf, outs_norm, p3]
  refine ⟨700000, ?_⟩
  obtain ⟨k, hk⟩ : ∃ k, k = 700000 := ⟨_, rfl⟩
  rw [← hk]
  unfold comitialaw7_TransformMeets.f
  rw [known7_true k (by omega)]
  simp only [Option.bind_some, if_true, hd, ba_size]
  rw [hx k (by omega), hy k (by omega)]
  simp only [Option.bind_some]
  rw [tpair_eq hg2, if_pos (by omega), ← hX, ← hY, ref_apply d x hgx (by omega) k (by omega), if_pos hxi, if_pos hxo, ref_apply d y hgy (by omega) k (by omega), if_pos hyi, if_pos hyo]
  simp only [Option.bind_some]
  have a1 : comitiaref4_Apply.f k ⟨(app id (at_ (cms x)) d).toArray⟩ (scs (nf Y)) = some (if outs X ≤ 120 then (⟨(app id X (app id (at_ (cms y)) d)).toArray⟩, 0) else (⟨#[]⟩, 5)) := by
    rw [ref_apply _ _ gY (by unfold outC at hxo; omega) k (by omega), cms_scs, if_pos (by rw [iY, ax]), oY, at_nf, app_norm id Y _ (by rw [ax, p2]; exact Nat.le_refl _), p5]
  have a2 : comitiaref4_Apply.f k ⟨(app id (at_ (cms y)) d).toArray⟩ (scs (nf X)) = some (if outs X ≤ 120 then (⟨(app id X (app id (at_ (cms y)) d)).toArray⟩, 0) else (⟨#[]⟩, 5)) := by
    rw [ref_apply _ _ gX (by unfold outC at hyo; omega) k (by omega), cms_scs, if_pos (by rw [iX, ay]), oX, at_nf, app_norm id X _ (by rw [ay, p1]; exact Nat.le_refl _)]
  rw [a1, a2]
  simp only [Option.bind_some, if_true]
  by_cases h120 : outs X ≤ 120
  · rw [if_pos h120]
    simp
  · rw [if_neg h120]
    simp only [if_true]
    rw [if_neg (by decide), ref_out _ gY k (by omega), cms_scs, oY]
    simp only [Option.bind_some]
    rw [decide_eq_true (by omega)]
end Go.Proofs.Ytjmnflgicolbdaa.Pure

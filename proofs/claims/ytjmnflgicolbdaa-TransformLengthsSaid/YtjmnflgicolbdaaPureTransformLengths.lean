/- The statement TransformLengths, once the machine's side is told by the printed contracts: it holds of the Lean functions of the Go functions. Conditions: none. -/
import Derived.Test.YtjmnflgicolbdaaQE7
import Derived.Test.YtjmnflgicolbdaaQxcomitialaw7TransformLengths
namespace Go.Proofs.Ytjmnflgicolbdaa.Pure
open Go.OpM Go.RowKit Go.Cx Go.Proofs.Ytjmnflgicolbdaa.Q Go.Proofs.YtjmnflgicolbdaaW.PrintWords Go.Proofs.YtjmnflgicolbdaaW.PrintLast Go.Proofs.YtjmnflgicolbdaaW.PrintMore
set_option linter.unusedVariables false
set_option linter.unusedSimpArgs false

theorem TransformLengths : comitialaw7_TransformLengths.Pure := by
  intro a0 l1 l2 _ _ _ _ _ _ _
  obtain ⟨n, hn⟩ : ∃ n : Nat, min (max (a0.tmod 60) 0) 59 = (n : Int) := ⟨(min (max (a0.tmod 60) 0) 59).toNat, by omega⟩
  obtain ⟨x, hx, hxm, _⟩ := make_eq n (by omega) l1
  obtain ⟨y, hy, hym, _⟩ := make_eq n (by omega) l2
  have hgx := hxm.good (by omega)
  have hgy := hym.good (by omega)
  have hxi := hxm.ins
  have hyi := hym.ins
  have hxo := hxm.outs
  have hyo := hym.outs
  have hio : ins (at_ (cms x)) = ins (at_ (cms y)) := by unfold inC at hxi hyi; omega
  have hg2 : good2 (cms x) (cms y) = true := good2_mk hxm.vl hym.vl (by omega)
  have P := pf hio
  obtain ⟨X, hX⟩ : ∃ X, X = (pairA (norm (at_ (cms x))) (norm (at_ (cms y)))).1 := ⟨_, rfl⟩
  obtain ⟨Y, hY⟩ : ∃ Y, Y = (pairA (norm (at_ (cms x))) (norm (at_ (cms y)))).2 := ⟨_, rfl⟩
  rw [← hX, ← hY] at P
  have p1 := P.ix
  have p2 := P.iy
  have p3 := P.xy
  have p4 := P.le
  have sX : ins X + outs X ≤ 100000 := by unfold inC outC at *; omega
  have sY : ins Y + outs Y ≤ 100000 := by unfold inC outC at *; omega
  have lX := normal_len sX
  have lY := normal_len sY
  have gX : good (cms (scs (nf X))) = true := by rw [cms_scs]; exact nf_good _ sX
  have gY : good (cms (scs (nf Y))) = true := by rw [cms_scs]; exact nf_good _ sY
  have hxl := hxm.len
  have hyl := hym.len
  refine ⟨700000, ?_⟩
  obtain ⟨k, hk⟩ : ∃ k, k = 700000 := ⟨_, rfl⟩
  rw [← hk]
  unfold comitialaw7_TransformLengths.f
  rw [known7_true k (by omega), mn_eq, mx_eq, hn]
  simp only [Option.bind_some, if_true]
  rw [hx k (by omega)]
  simp only [Option.bind_some]
  rw [hy k (by omega)]
  simp only [Option.bind_some]
  rw [tpair_eq hg2, if_pos (by omega), ← hX, ← hY]
  simp only [Option.bind_some, if_true]
  rw [ref_in _ gX k (by omega), ref_out y hgy k (by omega), ref_in _ gY k (by omega), ref_out x hgx k (by omega), ref_out _ gX k (by omega), ref_out _ gY k (by omega), ref_normal _ gX k (by omega), ref_normal _ gY k (by omega), cms_scs, cms_scs, nf_nf, nf_nf]
  simp only [Option.bind_some]
  have e1 : inC (nf X) = outC (cms y) := by unfold inC outC; rw [at_nf, ins_norm]; exact p1
  have e2 : inC (nf Y) = outC (cms x) := by unfold inC outC; rw [at_nf, ins_norm]; exact p2
  have e3 : outC (nf X) = outC (nf Y) := by unfold outC; rw [at_nf, at_nf, outs_norm, outs_norm]; exact p3
  rw [e1, e2, e3, if_pos rfl, if_pos rfl, if_pos rfl]
  rw [rsame_refl _ (by omega) k (by omega)]
  simp only [Option.bind_some, if_true]
  rw [rsame_refl _ (by omega) k (by omega)]
  simp
end Go.Proofs.Ytjmnflgicolbdaa.Pure

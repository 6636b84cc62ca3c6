/- The statement ComposeTwo, once the machine's side is told by the printed contracts: it holds of the Lean functions of the Go functions. Conditions: none. -/
import Derived.Test.YtmblpbaefoapaaaQE5
import Derived.Test.YtmblpbaefoapaaaQxcomitialaw5ComposeTwo
namespace Go.Proofs.Ytmblpbaefoapaaa.Pure
open Go.OpM Go.RowKit Go.Cx Go.Proofs.Ytmblpbaefoapaaa.Q Go.Proofs.YtmblpbaefoapaaaW.PrintWords Go.Proofs.YtmblpbaefoapaaaW.PrintLast Go.Proofs.YtmblpbaefoapaaaW.PrintMore
set_option linter.unusedVariables false
set_option linter.unusedSimpArgs false

theorem two_j1 (ns : List Int) (a3 : Int) (x y : List S49) (hg : good2 (cms x) (cms y) = true) (i : Int) (k : Nat) (hk : 500000 ≤ k) (h : comitialaw5_ComposeTwo.l0 k ns a3 x (wrap64 (i + 1)) = some true) : comitialaw5_ComposeTwo.j1 (k + 1) ns a3 x i y = some true := by
  simp only [comitialaw5_ComposeTwo.j1]
  rw [two_eq hg, rtwo_eq hg]
  simp only [Option.bind_some]
  obtain ⟨h1, h2, h3⟩ := good2_iff.1 hg
  by_cases hi : inC (cms y) = outC (cms x)
  · rw [if_pos hi]
    have hio : outs (at_ (cms x)) = ins (at_ (cms y)) := by unfold inC outC at hi; omega
    have hl := normal_len (x := comp (at_ (cms x)) (at_ (cms y))) (by rw [ins_comp _ _ hio, outs_comp _ _ hio]; unfold inC outC at h3; omega)
    dsimp only
    rw [rsame_refl _ (by omega) k (by omega)]
    simp only [Option.bind_some, if_true]
    exact h
  · rw [if_neg hi]
    dsimp only
    rw [rsame_refl ([] : List S49) (by simp) k (by simp; omega)]
    simp only [Option.bind_some, if_true]
    exact h
theorem ComposeTwo : comitialaw5_ComposeTwo.Pure := by
  intro l0 l1 l2 a3 _ _ _ _ _ _ _ _ _ _
  obtain ⟨d, hd, hdl⟩ := doc_eq l0
  obtain ⟨x, hx, hxm, _⟩ := make_eq d.length (by omega) l1
  have hox := hxm.outs
  have hix := hxm.ins
  obtain ⟨n, hn⟩ : ∃ n : Nat, min (max (a3.tmod 90) 0) 89 = (n : Int) := ⟨(min (max (a3.tmod 90) 0) 89).toNat, by omega⟩
  obtain ⟨y, hy, hym, _⟩ := make_eq (outC (cms x)) (by omega) l2
  obtain ⟨z, hz, hzm, _⟩ := make_eq n (by omega) l2
  have hg1 : good2 (cms x) (cms y) = true := good2_mk hxm.vl hym.vl (by have := hym.outs; have := hym.ins; omega)
  have hg2 : good2 (cms x) (cms z) = true := good2_mk hxm.vl hzm.vl (by have := hzm.outs; have := hzm.ins; omega)
  have hgx := hxm.good (by omega)
  have hxl := hxm.len
  obtain ⟨j, hj⟩ : ∃ j, j = 500000 := ⟨_, rfl⟩
  refine ⟨j + 5, ?_⟩
  unfold comitialaw5_ComposeTwo.f
  rw [known5_true]
  simp only [Option.bind_some, if_true, hd, ba_size]
  rw [hx _ (by omega)]
  simp only [Option.bind_some]
  have e2 : comitialaw5_ComposeTwo.l0 (j + 1) l2 a3 x 2 = some true := by
    simp only [comitialaw5_ComposeTwo.l0]
    rw [if_neg (by decide)]
  have e1 : comitialaw5_ComposeTwo.l0 (j + 1 + 1 + 1) l2 a3 x 1 = some true := by
    simp only [comitialaw5_ComposeTwo.l0]
    rw [if_pos (by decide), ref_out x hgx _ (by omega)]
    simp only [Option.bind_some]
    rw [hy _ (by omega)]
    simp only [Option.bind_some]
    rw [if_pos trivial, mn_eq, mx_eq, hn, hz _ (by omega)]
    simp only [Option.bind_some]
    exact two_j1 l2 a3 x z hg2 1 (j + 1) (by omega) (by rw [w64 (by decide) (by decide)]; exact e2)
  have e0 : comitialaw5_ComposeTwo.l0 (j + 1 + 1 + 1 + 1 + 1) l2 a3 x 0 = some true := by
    simp only [comitialaw5_ComposeTwo.l0]
    rw [if_pos (by decide), ref_out x hgx _ (by omega)]
    simp only [Option.bind_some]
    rw [hy _ (by omega)]
    simp only [Option.bind_some]
    rw [if_neg (by decide)]
    exact two_j1 l2 a3 x y hg1 0 (j + 1 + 1 + 1) (by omega) (by rw [w64 (by decide) (by decide)]; exact e1)
  exact e0
end Go.Proofs.Ytmblpbaefoapaaa.Pure

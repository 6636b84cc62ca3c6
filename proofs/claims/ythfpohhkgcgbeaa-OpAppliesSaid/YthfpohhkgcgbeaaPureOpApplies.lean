/- The statement OpApplies, once the machine's side is told by the printed contracts: it holds of the Lean functions of the Go functions. Conditions: none. -/
import Derived.Test.YthfpohhkgcgbeaaQJA
import Derived.Test.YthfpohhkgcgbeaaQxcomitialaw4OpApplies
namespace Go.Proofs.Ythfpohhkgcgbeaa.Pure
open Go.OpM Go.RowKit Go.Cx Go.Proofs.Ythfpohhkgcgbeaa.Q Go.Proofs.YthfpohhkgcgbeaaW.PrintWords Go.Proofs.YthfpohhkgcgbeaaW.PrintLast Go.Proofs.YthfpohhkgcgbeaaW.PrintMore
set_option linter.unusedVariables false
set_option linter.unusedSimpArgs false

theorem ap_j1 (ns : List Int) (a2 : Int) (d : List UInt8) (hd : d.length ≤ 100) (i : Int) (r : List S30) (hg : good (cms r) = true) (h0 : i = 0 → inC (cms r) = d.length ∧ outC (cms r) ≤ 120) (k : Nat) (hk : 500000 ≤ k) (h : comitialaw4_OpApplies.l0 k ns a2 ⟨d.toArray⟩ (wrap64 (i + 1)) = some true) : comitialaw4_OpApplies.j1 (k + 1) ns a2 ⟨d.toArray⟩ i r = some true := by
  have hl := good_len hg
  simp only [comitialaw4_OpApplies.j1]
  rw [apply_eq d r hg (by omega), ref_apply d r hg (by omega) k (by omega)]
  simp only [Option.bind_some]
  rw [if_pos trivial, if_pos trivial]
  by_cases hi0 : i = 0
  · obtain ⟨h1, h2⟩ := h0 hi0
    rw [if_pos hi0, if_pos h1, if_pos h2]
    dsimp only
    rw [if_pos rfl, out_eq r hg]
    simp only [Option.bind_some]
    have happ := app_length id (at_ (cms r)) d (by unfold inC at h1; omega)
    rw [if_pos (by rw [ba_size, happ]; rfl)]
    exact h
  · rw [if_neg hi0]
    exact h
theorem OpApplies : comitialaw4_OpApplies.Pure := by
  intro l0 l1 a2 _ _ _ _ _ _ _
  obtain ⟨d, hd, hdl⟩ := doc_eq l0
  obtain ⟨r, hr, hm, _⟩ := make_eq d.length (by omega) l1
  obtain ⟨n, hn⟩ : ∃ n : Nat, a2 % 100 = (n : Int) := ⟨(a2 % 100).toNat, by omega⟩
  obtain ⟨r2, hr2, hm2, _⟩ := make_eq n (by omega) l1
  have hg := hm.good (by omega)
  have hg2 := hm2.good (by omega)
  obtain ⟨j, hj⟩ : ∃ j, j = 500000 := ⟨_, rfl⟩
  refine ⟨j + 5, ?_⟩
  unfold comitialaw4_OpApplies.f
  rw [known_true _ (by omega)]
  simp only [Option.bind_some, if_true, hd]
  have e2 : comitialaw4_OpApplies.l0 (j + 1) l1 a2 ⟨d.toArray⟩ 2 = some true := by
    simp only [comitialaw4_OpApplies.l0]
    rw [if_neg (by decide)]
  have e1 : comitialaw4_OpApplies.l0 (j + 1 + 1 + 1) l1 a2 ⟨d.toArray⟩ 1 = some true := by
    simp only [comitialaw4_OpApplies.l0, ba_size]
    rw [if_pos (by decide), hr _ (by omega)]
    simp only [Option.bind_some]
    rw [if_pos trivial, within_eq a2 100 (by omega) (by omega), hn]
    simp only [Option.bind_some]
    rw [hr2 _ (by omega)]
    simp only [Option.bind_some]
    exact ap_j1 l1 a2 d hdl 1 r2 hg2 (by omega) (j + 1) (by omega) (by rw [w64 (by decide) (by decide)]; exact e2)
  have e0 : comitialaw4_OpApplies.l0 (j + 1 + 1 + 1 + 1 + 1) l1 a2 ⟨d.toArray⟩ 0 = some true := by
    simp only [comitialaw4_OpApplies.l0, ba_size]
    rw [if_pos (by decide), hr _ (by omega)]
    simp only [Option.bind_some]
    rw [if_neg (by decide)]
    exact ap_j1 l1 a2 d hdl 0 r hg (fun _ => ⟨hm.ins, hm.outs⟩) (j + 1 + 1 + 1) (by omega) (by rw [w64 (by decide) (by decide)]; exact e1)
  exact e0
end Go.Proofs.Ythfpohhkgcgbeaa.Pure

/- The statement InvertNone, once the machine's side is told by the printed contracts: it holds of the Lean functions of the Go functions. Conditions: none. -/
import Derived.Test.YtmkblbkijjabdaaQI
import Derived.Test.YtmkblbkijjabdaaQxcomitialaw6InvertNone
namespace Go.Proofs.Ytmkblbkijjabdaa.Pure
open Go.OpM Go.RowKit Go.Cx Go.Proofs.Ytmkblbkijjabdaa.Q Go.Proofs.YtmkblbkijjabdaaW.PrintWords Go.Proofs.YtmkblbkijjabdaaW.PrintLast Go.Proofs.YtmkblbkijjabdaaW.PrintMore
set_option linter.unusedVariables false
set_option linter.unusedSimpArgs false

theorem none_j0 (ns : List Int) (d : List UInt8) (hd : d.length ≤ 100) (o : List S42) (ho : o = scs (kp d.length)) (k : Nat) (hk : 700000 ≤ k) : comitialaw6_InvertNone.j0 (k + 1) ns ⟨d.toArray⟩ o = some true := by
  obtain ⟨r, hr, hm, _⟩ := make_eq d.length (by omega) ns
  have hg := hm.good (by omega)
  obtain ⟨g1, g2, g3⟩ := inv_good hg hm.ins
  have hl := normal_len g3
  have hat : at_ (cms o) = keeps d.length := by rw [ho, cms_scs, at_kp]
  have hgo : good (cms o) = true := by
    rw [ho, cms_scs]
    refine good_iff.2 ⟨kp_ok _, ?_⟩
    unfold inC outC
    rw [at_kp]
    simp; omega
  have hio : inC (cms o) = d.length := by unfold inC; rw [hat]; simp
  have hnf : scs (nf (keeps d.length)) = o := by
    rw [ho]
    have := nfGo_keeps0 d.length 0 []
    rw [List.append_nil] at this
    unfold nf
    rw [this]
    simp [nfGo, pp, cp]
  have hol : o.length ≤ 1 := by rw [ho, scs_length]; exact kp_len _
  simp only [comitialaw6_InvertNone.j0, ba_size]
  rw [invert_eq d o hgo (by omega), if_pos hio, hat, inv_keeps, hnf]
  simp only [Option.bind_some]
  rw [hr k (by omega)]
  simp only [Option.bind_some]
  rw [invert_eq d r hg (by omega), if_pos hm.ins]
  simp only [Option.bind_some, if_true]
  rw [rsame_refl o (by omega) k (by omega)]
  simp only [Option.bind_some, if_true]
  rw [ref_normal _ (by rw [cms_scs]; exact nf_good _ g3) k (by omega), cms_scs, at_nf, nf_norm]
  simp only [Option.bind_some]
  rw [rsame_refl _ (by omega) k (by omega)]
  rfl
theorem InvertNone : comitialaw6_InvertNone.Pure := by
  intro l0 l1 _ _ _ _ _ _
  obtain ⟨d, hd, hdl⟩ := doc_eq l0
  obtain ⟨j, hj⟩ : ∃ j, j = 700000 := ⟨_, rfl⟩
  refine ⟨j + 1, ?_⟩
  unfold comitialaw6_InvertNone.f
  rw [known6_true]
  simp only [Option.bind_some, if_true, hd, ba_size]
  by_cases h : (d.length : Int) > 0
  · rw [if_pos h]
    exact none_j0 l1 d hdl _ (by unfold kp; rw [if_neg (by omega)]; simp [scs, sc]) j (by omega)
  · rw [if_neg h]
    exact none_j0 l1 d hdl _ (by unfold kp; rw [if_pos (by omega)]; simp [scs]) j (by omega)
end Go.Proofs.Ytmkblbkijjabdaa.Pure

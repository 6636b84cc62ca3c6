/- The statement InvertAll, once the machine's side is told by the printed contracts: it holds of the Lean functions of the Go functions. Conditions: none. -/
import Derived.Test.YtmkblbkijjabdaaQI
import Derived.Test.YtmkblbkijjabdaaQxcomitialaw6InvertAll
namespace Go.Proofs.Ytmkblbkijjabdaa.Pure
open Go.OpM Go.RowKit Go.Cx Go.Proofs.Ytmkblbkijjabdaa.Q Go.Proofs.YtmkblbkijjabdaaW.PrintWords Go.Proofs.YtmkblbkijjabdaaW.PrintLast Go.Proofs.YtmkblbkijjabdaaW.PrintMore
set_option linter.unusedVariables false
set_option linter.unusedSimpArgs false

theorem all_j1 (ns : List Int) (a2 : Int) (d : List UInt8) (hd : d.length ≤ 100) (i : Int) (r : List S42) (hg : good (cms r) = true) (k : Nat) (hk : 500000 ≤ k) (h : comitialaw6_InvertAll.l0 k ns a2 ⟨d.toArray⟩ (wrap64 (i + 1)) = some true) : comitialaw6_InvertAll.j1 (k + 1) ns a2 ⟨d.toArray⟩ i r = some true := by
  simp only [comitialaw6_InvertAll.j1]
  rw [invert_eq d r hg (by omega), ref6_op d r hg k hk]
  simp only [Option.bind_some]
  by_cases hi : inC (cms r) = d.length
  · rw [if_pos hi]
    obtain ⟨g1, g2, g3⟩ := inv_good hg hi
    have hl := normal_len g3
    dsimp only
    rw [rsame_refl (scs (nf (inv (at_ (cms r)) d))) (by omega) k (by omega)]
    simp only [Option.bind_some, if_true]
    exact h
  · rw [if_neg hi]
    dsimp only
    rw [rsame_refl ([] : List S42) (by simp) k (by simp; omega)]
    simp only [Option.bind_some, if_true]
    exact h
theorem mx_eq (a b : Int) : mx a b = max a b := by unfold mx; split <;> omega
theorem InvertAll : comitialaw6_InvertAll.Pure := by
  intro l0 l1 a2 _ _ _ _ _ _ _
  obtain ⟨d, hd, hdl⟩ := doc_eq l0
  obtain ⟨r, hr, hm, _⟩ := make_eq d.length (by omega) l1
  obtain ⟨n, hn⟩ : ∃ n : Nat, min (max (a2.tmod 90) 0) 89 = (n : Int) := ⟨(min (max (a2.tmod 90) 0) 89).toNat, by omega⟩
  obtain ⟨r2, hr2, hm2, _⟩ := make_eq n (by omega) l1
  have hg := hm.good (by omega)
  have hg2 := hm2.good (by omega)
  obtain ⟨j, hj⟩ : ∃ j, j = 500000 := ⟨_, rfl⟩
  refine ⟨j + 5, ?_⟩
  unfold comitialaw6_InvertAll.f
  rw [known6_true]
  simp only [Option.bind_some, if_true, hd]
  have e2 : comitialaw6_InvertAll.l0 (j + 1) l1 a2 ⟨d.toArray⟩ 2 = some true := by
    simp only [comitialaw6_InvertAll.l0]
    rw [if_neg (by decide)]
  have e1 : comitialaw6_InvertAll.l0 (j + 1 + 1 + 1) l1 a2 ⟨d.toArray⟩ 1 = some true := by
    simp only [comitialaw6_InvertAll.l0, ba_size]
    rw [if_pos (by decide), hr _ (by omega)]
    simp only [Option.bind_some]
    rw [if_pos trivial, mn_eq, mx_eq, hn, hr2 _ (by omega)]
    simp only [Option.bind_some]
    exact all_j1 l1 a2 d hdl 1 r2 hg2 (j + 1) (by omega) (by rw [w64 (by decide) (by decide)]; exact e2)
  have e0 : comitialaw6_InvertAll.l0 (j + 1 + 1 + 1 + 1 + 1) l1 a2 ⟨d.toArray⟩ 0 = some true := by
    simp only [comitialaw6_InvertAll.l0, ba_size]
    rw [if_pos (by decide), hr _ (by omega)]
    simp only [Option.bind_some]
    rw [if_neg (by decide)]
    exact all_j1 l1 a2 d hdl 0 r hg (j + 1 + 1 + 1) (by omega) (by rw [w64 (by decide) (by decide)]; exact e1)
  exact e0
end Go.Proofs.Ytmkblbkijjabdaa.Pure

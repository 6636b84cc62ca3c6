/- The statement OpBytes, once the machine's side is told by the printed contracts: it holds of the Lean functions of the Go functions. Conditions: none. -/
import Derived.Test.YthfpohhkgcgbeaaQJ
import Derived.Test.YthfpohhkgcgbeaaQxcomitialaw4OpBytes
namespace Go.Proofs.Ythfpohhkgcgbeaa.Pure
open Go.OpM Go.RowKit Go.Cx Go.Proofs.Ythfpohhkgcgbeaa.Q Go.Proofs.YthfpohhkgcgbeaaW.PrintWords Go.Proofs.YthfpohhkgcgbeaaW.PrintLast Go.Proofs.YthfpohhkgcgbeaaW.PrintMore
set_option linter.unusedVariables false
set_option linter.unusedSimpArgs false

theorem OpBytes : comitialaw4_OpBytes.Pure := by
  intro l0 l1 l2 l3 _ _ _ _ _ _ _ _ _ _ _ _
  refine ⟨101, ?_⟩
  obtain ⟨K, hK⟩ : ∃ K, K = 100 := ⟨_, rfl⟩
  have hK1 : 101 = K + 1 := by omega
  rw [hK1]
  unfold comitialaw4_OpBytes.f
  rw [known_true _ (by omega)]
  simp only [Option.bind_some, if_true]
  have hT : comitialaw4_OpBytes.j0 (K + 1) l0 l1 l2 l3 true = some true := by simp only [comitialaw4_OpBytes.j0]; rw [if_pos trivial]
  by_cases c0 : (l0.length : Int) = 0
  · rw [if_pos c0]; exact hT
  rw [if_neg c0]
  by_cases c1 : (l1.length : Int) = 0
  · rw [if_pos c1]; exact hT
  rw [if_neg c1]
  by_cases c2 : (l2.length : Int) = 0
  · rw [if_pos c2]; exact hT
  rw [if_neg c2]
  by_cases c3 : (l3.length : Int) = 0
  · rw [if_pos c3]; exact hT
  rw [if_neg c3, w64 (x := (l0.length : Int) + (l1.length : Int)) (by omega) (by omega), w64 (x := (l0.length : Int) + (l1.length : Int) + (l2.length : Int)) (by omega) (by omega), w64 (by omega) (by omega)]
  by_cases c4 : (l0.length : Int) + (l1.length : Int) + (l2.length : Int) + (l3.length : Int) > 110
  · rw [decide_eq_true c4]; exact hT
  rw [decide_eq_false c4]
  obtain ⟨a, ha, hal⟩ := nums_str l0
  obtain ⟨b, hb, hbl⟩ := nums_str l1
  obtain ⟨c, hc, hcl⟩ := nums_str l2
  obtain ⟨s, hs, hsl⟩ := nums_str l3
  simp only [comitialaw4_OpBytes.j0]
  rw [if_neg (by decide), ha, hb, hc, hs, ba_app, ba_app, ba_app, ba_app, ba_size, ba_size, ba_size, ba_size, ba_size, ba_size, if_pos (by omega), if_pos (by simp only [List.length_append]; omega), ← hal, ← hbl, ← hcl]
  simp only [Option.bind_some]
  have hz : s ≠ [] := by intro h; rw [h] at hsl; simp at hsl; omega
  obtain ⟨o, ho⟩ : ∃ o : List S30, o = [(⟨1, (a.length : Int), (⟨#[]⟩ : ByteArray)⟩ : S30), ⟨3, (b.length : Int), (⟨#[]⟩ : ByteArray)⟩, ⟨2, 0, (⟨s.toArray⟩ : ByteArray)⟩, ⟨1, (c.length : Int), (⟨#[]⟩ : ByteArray)⟩] := ⟨_, rfl⟩
  rw [← ho]
  have hat : at_ (cms o) = keeps a.length ++ (cuts b.length ++ (puts s ++ keeps c.length)) := by
    rw [ho]
    show Cm.at_ ⟨1, a.length, []⟩ ++ (Cm.at_ ⟨3, b.length, []⟩ ++ (Cm.at_ ⟨2, 0, s⟩ ++ (Cm.at_ ⟨1, c.length, []⟩ ++ []))) = _
    rw [at_keep, at_put, at_cut, at_keep, List.append_nil]
  have hin : inC (cms o) = (a ++ b ++ c).length := by unfold inC; rw [hat]; simp
  have hout : outC (cms o) = (a ++ s ++ c).length := by unfold outC; rw [hat]; simp
  have hg : good (cms o) = true := by
    refine good_iff.2 ⟨?_, by rw [hin, hout]; simp; omega⟩
    rw [ho]
    exact Vl.cons (c := ⟨1, a.length, []⟩) (keep_ok (by omega)) (Vl.cons (c := ⟨3, b.length, []⟩) (cut_ok (by omega)) (Vl.cons (c := ⟨2, 0, s⟩) (put_ok hz) (Vl.cons (c := ⟨1, c.length, []⟩) (keep_ok (by omega)) Vl.nil)))
  have hol : o.length = 4 := by rw [ho]; rfl
  have happ : app id (at_ (cms o)) (a ++ b ++ c) = a ++ s ++ c := by
    rw [hat, app_append _ _ _ _ (by simp), app_append _ _ _ _ (by simp), app_append _ _ _ _ (by simp), app_keeps _ _ _ (by simp), app_cuts, app_puts, app_keeps _ _ _ (by simp)]
    simp
  have hnf : nf (at_ (cms o)) = [⟨1, a.length, []⟩, ⟨2, 0, s⟩, ⟨3, b.length, []⟩, ⟨1, c.length, []⟩] := by
    rw [hat]
    unfold nf
    have e : keeps c.length = keeps c.length ++ [] := by simp
    rw [nfGo_keeps0, nfGo_cuts, nfGo_puts, e, nfGo_keeps _ _ _ _ _ (by omega) (by simp [hz])]
    simp only [nfGo]
    unfold kp pp cp
    rw [if_neg (by omega), if_neg (by simpa using hz), if_neg (by omega), if_neg (by omega), if_pos rfl, if_pos rfl]
    simp
  rw [apply_eq _ o hg (by simp; omega), if_pos hin, if_pos (by rw [hout]; simp; omega), happ]
  simp only [Option.bind_some]
  rw [normal_eq o hg K (by omega), hnf]
  simp only [Option.bind_some]
  rw [if_pos trivial, if_pos (by omega), if_pos (by simp only [List.length_append]; omega), if_pos trivial, if_pos (by rfl), if_pos (by simp [scs]), if_pos (by rfl), in_eq o hg]
  simp only [Option.bind_some]
  rw [if_pos (by rw [hin, ba_size]), out_eq o hg]
  simp only [Option.bind_some]
  rw [hout, ba_size]
  simp
end Go.Proofs.Ythfpohhkgcgbeaa.Pure

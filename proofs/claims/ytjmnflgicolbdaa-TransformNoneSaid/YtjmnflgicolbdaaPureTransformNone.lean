/- The statement TransformNone, once the machine's side is told by the printed contracts: it holds of the Lean functions of the Go functions. Conditions: none. -/
import Derived.Test.YtjmnflgicolbdaaQE7
import Derived.Test.YtjmnflgicolbdaaQxcomitiaref5All
import Derived.Test.YtjmnflgicolbdaaQxcomitialaw7TransformNone
namespace Go.Proofs.Ytjmnflgicolbdaa.Pure
open Go.OpM Go.RowKit Go.Cx Go.Proofs.Ytjmnflgicolbdaa.Q Go.Proofs.YtjmnflgicolbdaaW.PrintWords Go.Proofs.YtjmnflgicolbdaaW.PrintLast Go.Proofs.YtjmnflgicolbdaaW.PrintMore
set_option linter.unusedVariables false
set_option linter.unusedSimpArgs false

theorem norm_keeps (n : Nat) : norm (keeps n) = keeps n := by
  have : ∀ n, normGo (keeps n) [] 0 = keeps n := by
    intro n
    induction n with
    | zero => rfl
    | succ n ih => simp only [keeps, List.replicate_succ] at ih ⊢; simp only [normGo]; rw [ih]; rfl
  exact this n
theorem rall_nil (n : Nat) : comitiaref5_All.f (n : Int) [] = some (scs (kp n), 0) := by
  unfold comitiaref5_All.f
  rw [if_pos rfl]
  by_cases hn : n = 0
  · subst hn; rw [if_neg (by omega)]; rfl
  · rw [if_pos (by omega)]; unfold kp; rw [if_neg hn]; rfl
theorem over_nil (x : List S43) (hx : x.length < 1000000) (k : Nat) : transform_Over.f (k + 1) x [] = some (x, 0) := by
  unfold transform_Over.f slices_Clone_Comp.f
  rw [if_pos hx]
  simp only [Option.bind_some, transform_Over.l0]
  rw [if_neg (by simp)]
theorem TransformNone : comitialaw7_TransformNone.Pure := by
  intro a0 l1 _ _ _ _
  obtain ⟨n, hn⟩ : ∃ n : Nat, min (max (a0.tmod 60) 0) 59 = (n : Int) := ⟨(min (max (a0.tmod 60) 0) 59).toNat, by omega⟩
  obtain ⟨x, hx, hxm, _⟩ := make_eq n (by omega) l1
  have hgx := hxm.good (by omega)
  have hxi := hxm.ins
  have hxo := hxm.outs
  have hxl := hxm.len
  have sx : ins (at_ (cms x)) + outs (at_ (cms x)) ≤ 100000 := good_sum hgx
  have lx := normal_len sx
  have vk : ∀ n : Nat, Vl (cms (scs (kp n))) ∧ inC (cms (scs (kp n))) = n ∧ outC (cms (scs (kp n))) = n ∧ at_ (cms (scs (kp n))) = keeps n := by
    intro n
    rw [cms_scs]
    exact ⟨kp_ok n, by unfold inC; rw [at_kp, ins_keeps], by unfold outC; rw [at_kp, outs_keeps], at_kp n⟩
  obtain ⟨v1, v2, v3, v4⟩ := vk n
  obtain ⟨u1, u2, u3, u4⟩ := vk (outC (cms x))
  have g1 : good2 (cms x) (cms (scs (kp n))) = true := good2_mk hxm.vl v1 (by omega)
  have g2 : good2 (cms (scs (kp n))) (cms x) = true := good2_mk v1 hxm.vl (by omega)
  have ik : n = ins (norm (at_ (cms x))) := by rw [ins_norm]; exact hxi.symm
  have ok : outC (cms x) = outs (norm (at_ (cms x))) := by rw [outs_norm]; rfl
  have q1 : pairA (norm (at_ (cms x))) (norm (at_ (cms (scs (kp n))))) = (norm (at_ (cms x)), keeps (outC (cms x))) := by
    rw [v4, norm_keeps, ok]
    conv => lhs; rw [ik]
    exact pair_keeps _
  have q2 : pairA (norm (at_ (cms (scs (kp n))))) (norm (at_ (cms x))) = (keeps (outC (cms x)), norm (at_ (cms x))) := by
    rw [v4, norm_keeps, ok]
    conv => lhs; rw [ik]
    exact keeps_pair _
  have sk : ins (keeps (outC (cms x))) + outs (keeps (outC (cms x))) ≤ 100000 := by rw [ins_keeps, outs_keeps]; omega
  have lk := normal_len sk
  refine ⟨400002, ?_⟩
  obtain ⟨k, hk⟩ : ∃ k, k = 400000 := ⟨_, rfl⟩
  have hk2 : 400002 = k + 2 := by omega
  rw [hk2]
  unfold comitialaw7_TransformNone.f
  rw [known7_true _ (by omega), mn_eq, mx_eq, hn]
  simp only [Option.bind_some, if_true]
  rw [hx _ (by omega)]
  simp only [Option.bind_some]
  rw [rall_nil n]
  simp only [Option.bind_some]
  rw [tpair_eq g1, if_pos (by omega), tpair_eq g2, if_pos (by omega), q1, q2, over_nil x (by omega) (k + 1), ref_out x hgx _ (by omega)]
  simp only [Option.bind_some]
  rw [rall_nil _]
  simp only [Option.bind_some, if_true]
  rw [ref_normal x hgx _ (by omega), nf_norm]
  simp only [Option.bind_some]
  rw [rsame_refl _ (by omega) _ (by omega)]
  simp only [Option.bind_some, if_true]
  rw [ref_normal (scs (kp (outC (cms x)))) (good_iff.2 ⟨u1, by omega⟩) _ (by rw [scs_length]; have := kp_len (outC (cms x)); omega), u4]
  simp only [Option.bind_some]
  rw [rsame_refl _ (by omega) _ (by omega)]
  simp only [Option.bind_some, if_true]
  rw [rsame_refl _ (by omega) _ (by omega)]
  simp
end Go.Proofs.Ytjmnflgicolbdaa.Pure

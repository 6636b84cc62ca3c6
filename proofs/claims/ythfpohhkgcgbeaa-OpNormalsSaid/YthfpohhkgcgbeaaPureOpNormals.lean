/- The statement OpNormals, once the machine's side is told by the printed contracts: it holds of the Lean functions of the Go functions. Conditions: none. -/
import Derived.Test.YthfpohhkgcgbeaaQJN
import Derived.Test.YthfpohhkgcgbeaaQxcomitialaw4OpNormals
namespace Go.Proofs.Ythfpohhkgcgbeaa.Pure
open Go.OpM Go.RowKit Go.Cx Go.Proofs.Ythfpohhkgcgbeaa.Q Go.Proofs.YthfpohhkgcgbeaaW.PrintWords Go.Proofs.YthfpohhkgcgbeaaW.PrintLast Go.Proofs.YthfpohhkgcgbeaaW.PrintMore
set_option linter.unusedVariables false
set_option linter.unusedSimpArgs false

theorem nf_chk (x : List A) (hi : ins x ≤ 120) (ho : outs x ≤ 120) : ∀ c ∈ nf x, chk c.k c.n c.s = 0 := by
  intro c hc
  have hok := nf_ok x 0 [] 0 c hc
  have hat := at_nf x
  obtain ⟨a, b, hab⟩ := List.append_of_mem hc
  rw [hab, at_append, at_cons] at hat
  have h1 := congrArg ins hat
  have h2 := congrArg outs hat
  rw [ins_norm] at h1
  rw [outs_norm] at h2
  simp only [ins_append, outs_append] at h1 h2
  unfold chk
  rcases Cm.cases hok with ⟨n, hn, rfl⟩ | ⟨s, hs, rfl⟩ | ⟨n, hn, rfl⟩
  · simp only [at_keep, ins_keeps] at h1
    simp; omega
  · simp only [at_put, outs_puts] at h2
    simp [hs]; omega
  · simp only [at_cut, ins_cuts] at h1
    simp; omega
theorem nfGo_len (l : List Cm) (hv : Vl l) : ∀ k p c, (nfGo (at_ l) k p c).length ≤ (kp k).length + (pp p).length + (cp c).length + l.length := by
  induction l with
  | nil => intro k p c; simp [nfGo]; omega
  | cons x l ih =>
    intro k p c
    have ih := ih hv.tail
    have kl : ∀ n, (kp n).length ≤ 1 := kp_len
    rw [at_cons]
    rcases Cm.cases hv.head with ⟨n, hn, rfl⟩ | ⟨s, hs, rfl⟩ | ⟨n, hn, rfl⟩
    · rw [at_keep]
      by_cases hg : p = [] ∧ c = 0
      · obtain ⟨rfl, rfl⟩ := hg
        rw [nfGo_keeps0]
        have := ih (k + n) [] 0
        have := kl (k + n)
        simp only [List.length_cons]
        simp [pp, cp] at *
        omega
      · rw [nfGo_keeps _ _ _ _ _ hn hg]
        have := ih n [] 0
        have := kl n
        simp only [List.length_append, List.length_cons]
        simp [pp, cp] at *
        omega
    · rw [at_put, nfGo_puts]
      have := ih k (p ++ s) c
      have h1 : (pp (p ++ s)).length ≤ 1 := by unfold pp; split <;> simp
      simp only [List.length_cons]
      omega
    · rw [at_cut, nfGo_cuts]
      have := ih k p (c + n)
      have h1 : (cp (c + n)).length ≤ 1 := by unfold cp; split <;> simp
      simp only [List.length_cons]
      omega
theorem OpNormals : comitialaw4_OpNormals.Pure := by
  intro l0 l1 _ _ _ _ _ _
  obtain ⟨d, hd, hdl⟩ := doc_eq l0
  obtain ⟨r, hr, hm, _⟩ := make_eq d.length (by omega) l1
  have hg := hm.good (by omega)
  have hsum := good_sum hg
  have hi := hm.ins
  have ho := hm.outs
  have hrl := hm.len
  have hnl := normal_len hsum
  have hgn : good (cms (scs (nf (at_ (cms r))))) = true := by rw [cms_scs]; exact nf_good _ hsum
  have hal := at_len (at_ (cms r))
  have hin : inC (cms (scs (nf (at_ (cms r))))) = d.length := by rw [cms_scs]; unfold inC at hi ⊢; rw [at_nf, ins_norm, hi]
  have hon : outC (cms (scs (nf (at_ (cms r))))) = outC (cms r) := by rw [cms_scs]; unfold outC; rw [at_nf, outs_norm]
  obtain ⟨k, hk⟩ : ∃ k, k = 500000 := ⟨_, rfl⟩
  refine ⟨k, ?_⟩
  unfold comitialaw4_OpNormals.f
  rw [known_true k (by omega)]
  simp only [Option.bind_some, if_true, hd, ba_size]
  rw [hr k (by omega)]
  simp only [Option.bind_some]
  rw [normal_eq r hg k (by omega)]
  simp only [Option.bind_some]
  rw [apply_eq d r hg (by omega), apply_eq d _ hgn (by omega), ref_normal r hg k (by omega)]
  simp only [Option.bind_some]
  rw [same_refl _ (by omega) k (by omega)]
  simp only [Option.bind_some, if_true]
  rw [normal_scs _ hsum k (by omega)]
  simp only [Option.bind_some]
  rw [same_refl _ (by omega) k (by omega)]
  simp only [Option.bind_some, if_true]
  have happ : app id (at_ (cms (scs (nf (at_ (cms r)))))) d = app id (at_ (cms r)) d := by
    rw [cms_scs, at_nf]; exact app_norm _ _ _ (by unfold inC at hi; omega)
  rw [if_pos hi, if_pos ho, if_pos hin, hon, if_pos ho, happ]
  dsimp only
  rw [if_pos rfl, if_pos rfl, if_pos rfl, in_eq _ hgn, in_eq r hg]
  simp only [Option.bind_some]
  rw [if_pos (by rw [hin, hi]), out_eq _ hgn, out_eq r hg]
  simp only [Option.bind_some]
  rw [if_pos (by rw [hon]), check_ok _ k (by omega) ?_ ?_]
  · rfl
  · have := nfGo_len (cms r) hm.vl 0 [] 0
    rw [scs_length]
    unfold nf
    rw [cms_length] at this
    simp [kp, pp, cp] at this
    omega
  · intro c hc
    obtain ⟨x, hx, rfl⟩ := List.mem_map.1 hc
    have := nf_chk (at_ (cms r)) (by unfold inC at hi; omega) (by unfold outC at ho; omega) x hx
    have e : (sc x).f2.toList = x.s := ba_list x.s
    rw [e]
    exact this
end Go.Proofs.Ythfpohhkgcgbeaa.Pure

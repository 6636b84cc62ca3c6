/- Normal forms: their lengths; Normal's own. -/
import Derived.Test.YtmkblbkijjabdaaQN
namespace Go.Proofs.Ytmkblbkijjabdaa.Q
open Go.OpM Go.RowKit Go.Cx Go.Proofs.YtmkblbkijjabdaaW.PrintWords Go.Proofs.YtmkblbkijjabdaaW.PrintLast Go.Proofs.YtmkblbkijjabdaaW.PrintMore
set_option linter.unusedVariables false
set_option linter.unusedSimpArgs false

theorem nf_len (x : List A) : ∀ k p c, (nfGo x k p c).length ≤ 3 * x.length + 3 := by
  induction x with
  | nil => intro k p c; have := kp_len k; have := pp_cp_len p c; simp only [nfGo, List.length_append] at *; simp; omega
  | cons a x ih =>
    intro k p c
    have e1 := kp_len k
    have e2 := pp_cp_len p c
    cases a <;> simp only [nfGo]
    · split
      · have := ih (k + 1) [] 0; simp only [List.length_cons]; omega
      · have := ih 1 [] 0; simp only [List.length_append, List.length_cons] at *; omega
    · have := ih k p (c + 1); simp only [List.length_cons]; omega
    · rename_i b; have := ih k (p ++ [b]) c; simp only [List.length_cons]; omega
theorem nf_good (x : List A) (h : ins x + outs x ≤ 100000) : good (nf x) = true := good_iff.2 ⟨nf_ok x 0 [] 0, by unfold inC outC; rw [at_nf, ins_norm, outs_norm]; exact h⟩
theorem good_sum {l : List Cm} (h : good l = true) : ins (at_ l) + outs (at_ l) ≤ 100000 := (good_iff.1 h).2
theorem good_vl {l : List Cm} (h : good l = true) : Vl l := (good_iff.1 h).1
/-- Normal's own. -/
theorem normal_scs (x : List A) (h : ins x + outs x ≤ 100000) (k : Nat) (hk : 3 * x.length + 3 < k) : op_Normal.f k (scs (nf x)) = some (scs (nf x)) := by
  have := nf_len x 0 [] 0
  rw [normal_eq _ (by rw [cms_scs]; exact nf_good x h) k (by rw [scs_length]; unfold nf; omega), cms_scs, at_nf, nf_norm]
theorem normal_len {x : List A} (h : ins x + outs x ≤ 100000) : (scs (nf x)).length ≤ 300003 := by
  have h1 := nf_len x 0 [] 0
  have h2 := at_len x
  rw [scs_length]; unfold nf; omega
end Go.Proofs.Ytmkblbkijjabdaa.Q

/- The chapter's example is as it stands. -/
import Derived.Test.YthfpohhkgcgbeaaQN
import Derived.Test.YthfpohhkgcgbeaaQxcomitialaw4known
namespace Go.Proofs.Ythfpohhkgcgbeaa.Q
open Go.OpM Go.RowKit Go.Cx Go.Proofs.YthfpohhkgcgbeaaW.PrintWords Go.Proofs.YthfpohhkgcgbeaaW.PrintLast Go.Proofs.YthfpohhkgcgbeaaW.PrintMore
set_option linter.unusedVariables false
set_option linter.unusedSimpArgs false
theorem known_true (k : Nat) (hk : 10 ≤ k) : comitialaw4_known.f k = some true := by
  unfold comitialaw4_known.f
  rw [normal_eq _ (by decide) k (by simp; omega)]
  have e : scs (nf (at_ (cms [⟨3, 1, (⟨#[]⟩ : ByteArray)⟩, ⟨2, 0, (⟨#[120]⟩ : ByteArray)⟩, ⟨2, 0, (⟨#[121]⟩ : ByteArray)⟩]))) = [⟨2, 0, ⟨#[120, 121]⟩⟩, ⟨3, 1, ⟨#[]⟩⟩] := rfl
  rw [e]
  have e2 : (⟨#[120, 121]⟩ : ByteArray).toList = [120, 121] := ByteArray.toList_mk _
  simp [rd_T30, e2]
end Go.Proofs.Ythfpohhkgcgbeaa.Q

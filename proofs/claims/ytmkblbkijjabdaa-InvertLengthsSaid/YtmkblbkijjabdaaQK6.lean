/- The chapter's example is as it stands. -/
import Derived.Test.YtmkblbkijjabdaaQF
import Derived.Test.YtmkblbkijjabdaaQRA
import Derived.Test.YtmkblbkijjabdaaQD
import Derived.Test.YtmkblbkijjabdaaQxcomitialaw6known
namespace Go.Proofs.Ytmkblbkijjabdaa.Q
open Go.OpM Go.RowKit Go.Cx Go.Proofs.YtmkblbkijjabdaaW.PrintWords Go.Proofs.YtmkblbkijjabdaaW.PrintLast Go.Proofs.YtmkblbkijjabdaaW.PrintMore
set_option linter.unusedVariables false
set_option linter.unusedSimpArgs false
/-- What the program's Op answers. -/
theorem invert_eq (d : List UInt8) (l : List S42) (h : good (cms l) = true) (hd : d.length ≤ 100000) : invert_Op.f ⟨d.toArray⟩ l = some (if inC (cms l) = d.length then (scs (nf (inv (at_ (cms l)) d)), 0) else ([], 7)) := by
  unfold invert_Op.f
  rw [if_pos ⟨h, by rw [ba_size]; exact hd⟩, ba_size]
  by_cases hi : inC (cms l) = d.length
  · rw [if_pos hi, if_pos hi]
  · rw [if_neg hi, if_neg hi]
theorem known6_true : comitialaw6_known.f = some true := by
  unfold comitialaw6_known.f
  have h : invert_Op.f (⟨#[120]⟩ : ByteArray) (([(⟨3, 1, (⟨#[]⟩ : ByteArray)⟩ : S42)] : List (S42))) = some ([⟨2, 0, ⟨#[120]⟩⟩], 0) := by
    have := invert_eq [120] [(⟨3, 1, (⟨#[]⟩ : ByteArray)⟩ : S42)] (by decide) (by decide)
    rw [if_pos (by decide)] at this
    exact this
  have e2 : (⟨#[120]⟩ : ByteArray).toList = [120] := ByteArray.toList_mk _
  rw [h]
  simp [rd_T42, e2]
theorem inv_good {d : List UInt8} {l : List S42} (h : good (cms l) = true) (hi : inC (cms l) = d.length) : ins (inv (at_ (cms l)) d) = outC (cms l) ∧ outs (inv (at_ (cms l)) d) = d.length ∧ ins (inv (at_ (cms l)) d) + outs (inv (at_ (cms l)) d) ≤ 100000 := by
  have h1 := (good_iff.1 h).2
  have h2 := inv_ins (at_ (cms l)) d
  have h3 := inv_outs (at_ (cms l)) d (by unfold inC at hi; omega)
  unfold inC outC at *
  omega
end Go.Proofs.Ytmkblbkijjabdaa.Q

/- Doc in plain words. -/
import Derived.Test.YtmkblbkijjabdaaQM
import Derived.Test.YtmkblbkijjabdaaQxcomitialaw4Doc
namespace Go.Proofs.Ytmkblbkijjabdaa.Q
open Go.OpM Go.RowKit Go.Cx Go.Proofs.YtmkblbkijjabdaaW.PrintWords Go.Proofs.YtmkblbkijjabdaaW.PrintLast Go.Proofs.YtmkblbkijjabdaaW.PrintMore
set_option linter.unusedVariables false
set_option linter.unusedSimpArgs false

theorem nums_str (l : List Int) : ∃ s : List UInt8, strOfNums l = ⟨s.toArray⟩ ∧ s.length = l.length := ⟨l.map fun n => UInt8.ofNat n.toNat, rfl, by simp⟩
theorem doc_eq (l : List Int) : ∃ s : List UInt8, comitialaw4_Doc.f l = some ⟨s.toArray⟩ ∧ s.length ≤ 100 := by
  unfold comitialaw4_Doc.f
  rw [mn_eq, if_pos (by omega), if_pos (by omega)]
  obtain ⟨s, h1, h2⟩ := nums_str (l.take (min (l.length : Int) 100).toNat)
  exact ⟨s, by rw [h1], by rw [h2, List.length_take]; omega⟩
end Go.Proofs.Ytmkblbkijjabdaa.Q

/- Contracts of Go functions: each call answers what the Lean function of its name answers. Conditions: stand in each theorem. Written by this seat's own program over the kit's printer. -/
import Derived.Test.YthfpohhkgcgbeaaQ0
namespace Go.Proofs.Ythfpohhkgcgbeaa.Q
open Go.RowKit Go.Proofs.YthfpohhkgcgbeaaW.PrintWords Go.Proofs.YthfpohhkgcgbeaaW.PrintLast Go.Proofs.YthfpohhkgcgbeaaW.PrintMore
attribute [local go_sem] max2_int min2_int max_two min_two max_three min_three max_four min_four   -- for this text's walks alone
set_option linter.unusedVariables false
set_option linter.unusedSimpArgs false

/-! ### Parts as the plain texts have them -/
open Go.OpM Go.Cx Go.F64
def cm (x : S30) : Cm := ⟨x.f0, x.f1, x.f2.data.toList⟩
def sc (c : Cm) : S30 := ⟨c.k, c.n, ⟨c.s.toArray⟩⟩
theorem cm_sc (c : Cm) : cm (sc c) = c := by simp [cm, sc]
theorem sc_cm (x : S30) : sc (cm x) = x := by
  obtain ⟨a, b, c⟩ := x
  cases c
  simp [cm, sc]
def cms (l : List S30) : List Cm := l.map cm
def scs (l : List Cm) : List S30 := l.map sc
@[simp] theorem cms_scs (l : List Cm) : cms (scs l) = l := by
  unfold cms scs
  rw [List.map_map]
  exact (List.map_congr_left fun c _ => cm_sc c).trans (List.map_id _)
@[simp] theorem scs_cms (l : List S30) : scs (cms l) = l := by
  unfold cms scs
  rw [List.map_map]
  exact (List.map_congr_left fun c _ => sc_cm c).trans (List.map_id _)
/-- Valid, and of a size that all counters bear. -/
def good (l : List Cm) : Bool := decide (∀ c ∈ l, c.ok) && decide (inC l + outC l ≤ 100000)
theorem good_iff {l : List Cm} : good l = true ↔ Vl l ∧ inC l + outC l ≤ 100000 := by
  unfold good Vl
  rw [Bool.and_eq_true, decide_eq_true_iff, decide_eq_true_iff]
theorem emp_ne (l : List UInt8) : (!l.isEmpty) = (l != []) := by cases l <;> rfl
theorem ext_size (s : ByteArray) (j : Int) (h : j ≤ s.size) : ((s.extract 0 j.toNat).size : Int) = max j 0 := by
  rw [ByteArray.size_extract]; omega
theorem oda {p : Prop} [Decidable p] (h : decide p = true := by first | (with_reducible assumption) | assumption) : p := of_decide_eq_true h
theorem at_len0 (x : List A) : x.length ≤ ins x + outs x := by
  induction x with
  | nil => simp
  | cons a x ih => cases a <;> simp [ins, outs] <;> omega
theorem vl_len0 {l : List Cm} (h : Vl l) : l.length ≤ (at_ l).length := by
  induction l with
  | nil => simp
  | cons c l ih =>
    have := ih h.tail
    rcases Cm.cases h.head with ⟨n, hn, rfl⟩ | ⟨s, hs, rfl⟩ | ⟨n, hn, rfl⟩
    · simp [keeps]; omega
    · have := List.length_pos_iff.2 hs; simp [puts]; omega
    · simp [cuts]; omega

end Go.Proofs.Ythfpohhkgcgbeaa.Q

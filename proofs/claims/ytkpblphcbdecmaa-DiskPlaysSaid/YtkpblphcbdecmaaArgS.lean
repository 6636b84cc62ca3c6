/- What an argument reads as: a slice whose elements are structs. -/
import Derived.ProofKit
import Derived.OpenShut
import Derived.ShutString
import Derived.ChangeOld
import Derived.Deep.Slices
import Derived.Deep.Strs
import Derived.Lib.SmallJoins
namespace Go.ArgS
open Go.ChangeShapes Go.WideShapes Go.ChangeAt Go.RowKit
section
variable {H : Type} {enc : TypeId × Value → H} {P : Program} {w : World} {base : Nat} {spare : Nat → Bool} {held : Bool}

/-- A slice whose elements are sz cells each, by what an element's cells read as. -/
theorem elems_row {α : Type} {t e : TypeId} {fuel : Nat} {a : Option Addr} {n c : Nat} {x : DataW H × List MemPlace} (sz : Nat) (ht : P.underlying t = some (.slice e)) (hc : P.cellsOf e = sz) (R : List Value → α → Prop)
    (h : DataW.trod enc P w base spare held fuel t (Value.slice a n c).cells.toList = some x)
    (hR : ∀ m cs y, cs.length = sz → DataW.trod enc P w base spare held m e cs = some y → ∃ z, R cs z) :
    ∃ l : List α, l.length = n ∧ n ≤ c ∧ n ≤ 9223372036854775807 ∧ (0 < n → ∃ ad, a = some ad ∧ ∀ j p, l[j]? = some p → ∃ cs, cs.length = sz ∧ R cs p ∧ ∀ i u, cs[i]? = some u → w.cell? (ad.add (j * sz + i)) = some u) := by
  rcases Go.Deep.open_slice ht h with ⟨hcs, _⟩ | ⟨ad, len, cap, m, k, D, Pl, hcs, _, hl, hm, hmm, _, hx⟩
  · simp [Value.cells] at hcs
    obtain ⟨rfl, rfl, rfl⟩ := hcs
    exact ⟨[], rfl, Nat.le_refl _, by omega, fun h => absurd h (by omega)⟩
  · simp [Value.cells] at hcs
    obtain ⟨rfl, rfl, rfl⟩ := hcs
    have hnm : n ≤ m := by split at hmm <;> omega
    rw [hc] at hx
    have hz : ∀ i, i < n → ∃ z : α, ∃ cs, cs.length = sz ∧ R cs z ∧ ∀ j u, cs[j]? = some u → w.cell? (ad.add (i * sz + j)) = some u := fun i hi => by
      obtain ⟨cs', h1, h2⟩ := hx i (by omega)
      obtain ⟨_, h4, h5⟩ := World.cells?_some h1
      obtain ⟨z, hz⟩ := hR _ _ _ h4 h2
      refine ⟨z, cs', h4, hz, fun j u hu => ?_⟩
      have hj : j < sz := by rw [← h4]; exact (List.getElem?_eq_some_iff.1 hu).1
      have := h5 j hj
      rw [Addr.add_add] at this
      rw [this, hu]
    refine ⟨List.ofFn (fun i : Fin n => (hz i.1 i.2).choose), by simp, hl, by unfold maxLen at hm; omega, fun _ => ⟨ad, rfl, fun j p hj => ?_⟩⟩
    have hi : j < n := by
      have := (List.getElem?_eq_some_iff.1 hj).1
      simpa using this
    rw [List.getElem?_ofFn, dif_pos hi] at hj
    simp only [Option.some.injEq] at hj
    rw [← hj]
    exact (hz j hi).choose_spec
end
end Go.ArgS

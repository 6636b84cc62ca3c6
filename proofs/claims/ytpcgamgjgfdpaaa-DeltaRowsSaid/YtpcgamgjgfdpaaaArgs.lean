/- What the arguments of a statement read as, in our own words for memory. -/
import Derived.Test.YtpcgamgjgfdpaaaMem2
import Derived.ProofKit
import Derived.OpenShut
import Derived.ShutString
import Derived.ChangeOld
import Derived.Deep.Slices
namespace Go.Cx
open Go.ChangeShapes Go.WideShapes Go.ChangeAt Go.RowKit
section
variable {H : Type} {enc : TypeId × Value → H} {P : Program} {w : World} {base : Nat} {spare : Nat → Bool} {held : Bool}

theorem i64_wf {n : Int} (h : (Lit.int .i64 n).wf = true) : I64 n := by
  have h1 : IntKind.i64.min = -9223372036854775808 := by decide +kernel
  have h2 : IntKind.i64.max = 9223372036854775807 := by decide +kernel
  simp only [Lit.wf, h1, h2, Bool.and_eq_true, decide_eq_true_eq] at h
  exact h
theorem u8_wf {n : Int} (h : (Lit.int .u8 n).wf = true) : 0 ≤ n ∧ n ≤ 255 := by
  have h1 : IntKind.u8.min = 0 := by decide +kernel
  have h2 : IntKind.u8.max = 255 := by decide +kernel
  simp only [Lit.wf, h1, h2, Bool.and_eq_true, decide_eq_true_eq] at h
  exact h

theorem ints_row {k : IntKind} {t e : TypeId} {fuel : Nat} {a : Option Addr} {n c : Nat} {x : DataW H × List MemPlace} (ht : P.underlying t = some (.slice e)) (he : P.underlying e = some (.int k)) (hc : P.cellsOf e = 1)
    (h : DataW.trod enc P w base spare held fuel t (Value.slice a n c).cells.toList = some x) :
    ∃ l : List Int, Sl w 1 a n c (l.map (Value.int k)) ∧ ∀ z ∈ l, (Lit.int k z).wf = true := by
  rcases open_ints ht he hc h with ⟨hcs, _⟩ | ⟨x, len, cap, zs, hcs, _, hl, hm, hz, _, hcell, hwz⟩
  · simp [Value.cells] at hcs
    obtain ⟨rfl, rfl, rfl⟩ := hcs
    exact ⟨[], Sl.nil _ _, fun _ h => by cases h⟩
  · simp [Value.cells] at hcs
    obtain ⟨rfl, rfl, rfl⟩ := hcs
    have hzl : n ≤ zs.length := by split at hz <;> omega
    refine ⟨zs.take n, ⟨by simp; omega, hl, hm, (fun h => by cases h), ?_⟩, fun z hz => hwz z (List.mem_of_mem_take hz)⟩
    intro b hb j u hu
    cases hb
    rw [List.getElem?_map, List.getElem?_take] at hu
    split at hu
    · rename_i hj
      rw [hcell j (by omega)]
      rw [List.getElem?_eq_getElem (by omega)] at hu
      rw [← hu]
      simp [List.getD, List.getElem?_eq_getElem (show j < zs.length by omega)]
    · cases hu

theorem bytes_row {t e : TypeId} {fuel : Nat} {a : Option Addr} {n c : Nat} {x : DataW H × List MemPlace} (ht : P.underlying t = some (.slice e)) (he : P.underlying e = some (.int .u8)) (hc : P.cellsOf e = 1)
    (h : DataW.trod enc P w base spare held fuel t (Value.slice a n c).cells.toList = some x) : ∃ l : List UInt8, Sl w 1 a n c (bv l) := by
  obtain ⟨l, h1, h2⟩ := ints_row ht he hc h
  refine ⟨l.map fun z => UInt8.ofNat z.toNat, ?_⟩
  have : bv (l.map fun z => UInt8.ofNat z.toNat) = l.map (Value.int .u8) := by
    unfold bv
    rw [List.map_map]
    refine List.map_congr_left fun z hz => ?_
    have := u8_wf (h2 z hz)
    simp only [Function.comp, UInt8.toNat_ofNat', Value.int.injEq, true_and]
    omega
  rw [this]; exact h1

/-- A slice whose elements are one cell each, by what an element's cell reads as. -/
theorem cells_row {α : Type} {t e : TypeId} {fuel : Nat} {a : Option Addr} {n c : Nat} {x : DataW H × List MemPlace} (ht : P.underlying t = some (.slice e)) (hc : P.cellsOf e = 1) (R : Value → α → Prop)
    (h : DataW.trod enc P w base spare held fuel t (Value.slice a n c).cells.toList = some x)
    (hR : ∀ m v y, DataW.trod enc P w base spare held m e [v] = some y → ∃ z, R v z) :
    ∃ (vs : List Value) (l : List α), l.length = n ∧ Sl w 1 a n c vs ∧ ∀ (i : Nat) (z : α), l[i]? = some z → ∃ v, vs[i]? = some v ∧ R v z := by
  rcases Go.Deep.open_slice1 ht hc h with ⟨hcs, _⟩ | ⟨ad, len, cap, m, k, V, D, Pl, hcs, _, hl, hm, hmm, _, hx⟩
  · simp [Value.cells] at hcs
    obtain ⟨rfl, rfl, rfl⟩ := hcs
    exact ⟨[], [], rfl, Sl.nil _ _, fun i z hz => by simp at hz⟩
  · simp [Value.cells] at hcs
    obtain ⟨rfl, rfl, rfl⟩ := hcs
    have hnm : n ≤ m := by split at hmm <;> omega
    have hz : ∀ i, i < n → ∃ z, R (V i) z := fun i hi => hR _ _ _ (hx i (by omega)).2
    refine ⟨(List.range n).map V, List.ofFn (fun i : Fin n => (hz i.1 i.2).choose), by simp, ⟨by simp, hl, hm, (fun h => by cases h), ?_⟩, ?_⟩
    · intro b hb j u hu
      cases hb
      rw [List.getElem?_map] at hu
      by_cases hj : j < n
      · rw [List.getElem?_range hj] at hu
        cases hu
        exact (hx j (by omega)).1
      · rw [List.getElem?_eq_none (by simp; omega)] at hu
        cases hu
    · intro i z hz'
      have hi : i < n := by
        have := (List.getElem?_eq_some_iff.1 hz').1
        simpa using this
      refine ⟨V i, by rw [List.getElem?_map, List.getElem?_range hi]; rfl, ?_⟩
      rw [List.getElem?_ofFn, dif_pos hi] at hz'
      simp only [Option.some.injEq] at hz'
      rw [← hz']
      exact (hz i hi).choose_spec

theorem map_of_rel {α : Type} {f : α → Value} {vs : List Value} {l : List α} (hl : l.length = vs.length) (h : ∀ (i : Nat) (z : α), l[i]? = some z → ∃ v, vs[i]? = some v ∧ v = f z) : vs = l.map f := by
  apply List.ext_getElem?
  intro i
  rw [List.getElem?_map]
  cases hi : l[i]? with
  | none => rw [List.getElem?_eq_none_iff] at hi; simp; omega
  | some z => obtain ⟨v, h1, rfl⟩ := h i z hi; simpa using h1

theorem bools_row {t e : TypeId} {fuel : Nat} {a : Option Addr} {n c : Nat} {x : DataW H × List MemPlace} (ht : P.underlying t = some (.slice e)) (he : P.underlying e = some .bool) (hc : P.cellsOf e = 1)
    (h : DataW.trod enc P w base spare held fuel t (Value.slice a n c).cells.toList = some x) : ∃ l : List Bool, Sl w 1 a n c (bbv l) := by
  obtain ⟨vs, l, h1, h2, h3⟩ := cells_row ht hc (fun v b => v = Value.bool b) h (fun m v y hy => by
    obtain ⟨b, hb, _⟩ := DataW.trod_bool he hy
    exact ⟨b, by simpa using hb⟩)
  have := map_of_rel (f := fun b => Value.bool b) (by rw [h1]; have := h2.1; omega) h3
  exact ⟨l, by unfold bbv; rw [← this]; exact h2⟩

theorem rows_row {t e e' : TypeId} {fuel : Nat} {a : Option Addr} {n c : Nat} {x : DataW H × List MemPlace} (ht : P.underlying t = some (.slice e)) (he : P.underlying e = some (.slice e')) (hc : P.cellsOf e = 1)
    (he' : P.underlying e' = some (.int .u8)) (hc' : P.cellsOf e' = 1)
    (h : DataW.trod enc P w base spare held fuel t (Value.slice a n c).cells.toList = some x) : ∃ ll, RowsAt w a n c ll := by
  obtain ⟨vs, l, h1, h2, h3⟩ := cells_row ht hc (fun v (l : List UInt8) => ∃ a' c', v = Value.slice a' l.length c' ∧ Sl w 1 a' l.length c' (bv l)) h (fun m v y hy => by
    have hy' := hy
    have hv : ∃ a' n' c', v = Value.slice a' n' c' := by
      rcases DataW.trod_slice he hy with ⟨hcs, _⟩ | ⟨a', n', c', _, _, _, _, hcs, _⟩
      · simp at hcs; exact ⟨_, _, _, hcs⟩
      · simp at hcs; exact ⟨_, _, _, hcs⟩
    obtain ⟨a', n', c', rfl⟩ := hv
    obtain ⟨lb, hb⟩ := bytes_row he he' hc' (a := a') (n := n') (c := c') hy'
    have hlen : lb.length = n' := by have := hb.1; rw [bv_length] at this; omega
    exact ⟨lb, a', c', by rw [hlen], by rw [hlen]; exact hb⟩)
  exact ⟨l, h1, vs, h2, fun i lb hi => by
    obtain ⟨v, e1, a', c', rfl, e2⟩ := h3 i lb hi
    exact ⟨a', c', e1, e2⟩⟩

end
end Go.Cx

/- What the arguments of a statement read as, in our own words for memory. -/
import Derived.Test.YtpcgamgjgfdpaaaL8
import Derived.ProofKit
import Derived.OpenShut
import Derived.ShutString
import Derived.ChangeOld
import Derived.Deep.Slices
import Derived.Deep.Strs
import Derived.Lib.SmallJoins
namespace Go.Cx
open Go.ChangeShapes Go.WideShapes Go.ChangeAt Go.RowKit
section
variable {H : Type} {enc : TypeId × Value → H} {P : Program} {w : World} {base : Nat} {spare : Nat → Bool} {held : Bool}

theorem i64_wf {n : Int} (h : (Lit.int .i64 n).wf = true) : I64 n := by
  have h1 : IntKind.i64.min = -9223372036854775808 := by decide +kernel
  have h2 : IntKind.i64.max = 9223372036854775807 := by decide +kernel
  simp only [Lit.wf, h1, h2, Bool.and_eq_true, decide_eq_true_eq] at h
  exact h
theorem u8_wf {n : Int} (h : (Lit.int .u8 n).wf = true) : 0 ≤ n ∧ n ≤ 255 := by
  have h1 : IntKind.u8.min = 0 := by decide +kernel
  have h2 : IntKind.u8.max = 255 := by decide +kernel
  simp only [Lit.wf, h1, h2, Bool.and_eq_true, decide_eq_true_eq] at h
  exact h

theorem ints_row {k : IntKind} {t e : TypeId} {fuel : Nat} {a : Option Addr} {n c : Nat} {x : DataW H × List MemPlace} (ht : P.underlying t = some (.slice e)) (he : P.underlying e = some (.int k)) (hc : P.cellsOf e = 1)
    (h : DataW.trod enc P w base spare held fuel t (Value.slice a n c).cells.toList = some x) :
    ∃ l : List Int, Sl w 1 a n c (l.map (Value.int k)) ∧ ∀ z ∈ l, (Lit.int k z).wf = true := by
  rcases open_ints ht he hc h with ⟨hcs, _⟩ | ⟨x, len, cap, zs, hcs, _, hl, hm, hz, _, hcell, hwz⟩
  · simp [Value.cells] at hcs
    obtain ⟨rfl, rfl, rfl⟩ := hcs
    exact ⟨[], Sl.nil _ _, fun _ h => by cases h⟩
  · simp [Value.cells] at hcs
    obtain ⟨rfl, rfl, rfl⟩ := hcs
    have hzl : n ≤ zs.length := by split at hz <;> omega
    refine ⟨zs.take n, ⟨by simp; omega, hl, hm, (fun h => by cases h), ?_⟩, fun z hz => hwz z (List.mem_of_mem_take hz)⟩
    intro b hb j u hu
    cases hb
    rw [List.getElem?_map, List.getElem?_take] at hu
    split at hu
    · rename_i hj
      rw [hcell j (by omega)]
      rw [List.getElem?_eq_getElem (by omega)] at hu
      rw [← hu]
      simp [List.getD, List.getElem?_eq_getElem (show j < zs.length by omega)]
    · cases hu

theorem bytes_row {t e : TypeId} {fuel : Nat} {a : Option Addr} {n c : Nat} {x : DataW H × List MemPlace} (ht : P.underlying t = some (.slice e)) (he : P.underlying e = some (.int .u8)) (hc : P.cellsOf e = 1)
    (h : DataW.trod enc P w base spare held fuel t (Value.slice a n c).cells.toList = some x) : ∃ l : List UInt8, Sl w 1 a n c (bv l) := by
  obtain ⟨l, h1, h2⟩ := ints_row ht he hc h
  refine ⟨l.map fun z => UInt8.ofNat z.toNat, ?_⟩
  have : bv (l.map fun z => UInt8.ofNat z.toNat) = l.map (Value.int .u8) := by
    unfold bv
    rw [List.map_map]
    refine List.map_congr_left fun z hz => ?_
    have := u8_wf (h2 z hz)
    simp only [Function.comp, UInt8.toNat_ofNat', Value.int.injEq, true_and]
    omega
  rw [this]; exact h1

/-- A slice whose elements are one cell each, by what an element's cell reads as. -/
theorem cells_row {α : Type} {t e : TypeId} {fuel : Nat} {a : Option Addr} {n c : Nat} {x : DataW H × List MemPlace} (ht : P.underlying t = some (.slice e)) (hc : P.cellsOf e = 1) (R : Value → α → Prop)
    (h : DataW.trod enc P w base spare held fuel t (Value.slice a n c).cells.toList = some x)
    (hR : ∀ m v y, DataW.trod enc P w base spare held m e [v] = some y → ∃ z, R v z) :
    ∃ (vs : List Value) (l : List α), l.length = n ∧ Sl w 1 a n c vs ∧ ∀ (i : Nat) (z : α), l[i]? = some z → ∃ v, vs[i]? = some v ∧ R v z := by
  rcases Go.Deep.open_slice1 ht hc h with ⟨hcs, _⟩ | ⟨ad, len, cap, m, k, V, D, Pl, hcs, _, hl, hm, hmm, _, hx⟩
  · simp [Value.cells] at hcs
    obtain ⟨rfl, rfl, rfl⟩ := hcs
    exact ⟨[], [], rfl, Sl.nil _ _, fun i z hz => by simp at hz⟩
  · simp [Value.cells] at hcs
    obtain ⟨rfl, rfl, rfl⟩ := hcs
    have hnm : n ≤ m := by split at hmm <;> omega
    have hz : ∀ i, i < n → ∃ z, R (V i) z := fun i hi => hR _ _ _ (hx i (by omega)).2
    refine ⟨(List.range n).map V, List.ofFn (fun i : Fin n => (hz i.1 i.2).choose), by simp, ⟨by simp, hl, hm, (fun h => by cases h), ?_⟩, ?_⟩
    · intro b hb j u hu
      cases hb
      rw [List.getElem?_map] at hu
      by_cases hj : j < n
      · rw [List.getElem?_range hj] at hu
        cases hu
        exact (hx j (by omega)).1
      · rw [List.getElem?_eq_none (by simp; omega)] at hu
        cases hu
    · intro i z hz'
      have hi : i < n := by
        have := (List.getElem?_eq_some_iff.1 hz').1
        simpa using this
      refine ⟨V i, by rw [List.getElem?_map, List.getElem?_range hi]; rfl, ?_⟩
      rw [List.getElem?_ofFn, dif_pos hi] at hz'
      simp only [Option.some.injEq] at hz'
      rw [← hz']
      exact (hz i hi).choose_spec

theorem map_of_rel {α : Type} {f : α → Value} {vs : List Value} {l : List α} (hl : l.length = vs.length) (h : ∀ (i : Nat) (z : α), l[i]? = some z → ∃ v, vs[i]? = some v ∧ v = f z) : vs = l.map f := by
  apply List.ext_getElem?
  intro i
  rw [List.getElem?_map]
  cases hi : l[i]? with
  | none => rw [List.getElem?_eq_none_iff] at hi; simp; omega
  | some z => obtain ⟨v, h1, rfl⟩ := h i z hi; simpa using h1

theorem bools_row {t e : TypeId} {fuel : Nat} {a : Option Addr} {n c : Nat} {x : DataW H × List MemPlace} (ht : P.underlying t = some (.slice e)) (he : P.underlying e = some .bool) (hc : P.cellsOf e = 1)
    (h : DataW.trod enc P w base spare held fuel t (Value.slice a n c).cells.toList = some x) : ∃ l : List Bool, Sl w 1 a n c (bbv l) := by
  obtain ⟨vs, l, h1, h2, h3⟩ := cells_row ht hc (fun v b => v = Value.bool b) h (fun m v y hy => by
    obtain ⟨b, hb, _⟩ := DataW.trod_bool he hy
    exact ⟨b, by simpa using hb⟩)
  have := map_of_rel (f := fun b => Value.bool b) (by rw [h1]; have := h2.1; omega) h3
  exact ⟨l, by unfold bbv; rw [← this]; exact h2⟩

theorem rows_row {t e e' : TypeId} {fuel : Nat} {a : Option Addr} {n c : Nat} {x : DataW H × List MemPlace} (ht : P.underlying t = some (.slice e)) (he : P.underlying e = some (.slice e')) (hc : P.cellsOf e = 1)
    (he' : P.underlying e' = some (.int .u8)) (hc' : P.cellsOf e' = 1)
    (h : DataW.trod enc P w base spare held fuel t (Value.slice a n c).cells.toList = some x) : ∃ ll, RowsAt w a n c ll := by
  obtain ⟨vs, l, h1, h2, h3⟩ := cells_row ht hc (fun v (l : List UInt8) => ∃ a' c', v = Value.slice a' l.length c' ∧ Sl w 1 a' l.length c' (bv l)) h (fun m v y hy => by
    have hy' := hy
    have hv : ∃ a' n' c', v = Value.slice a' n' c' := by
      rcases DataW.trod_slice he hy with ⟨hcs, _⟩ | ⟨a', n', c', _, _, _, _, hcs, _⟩
      · simp at hcs; exact ⟨_, _, _, hcs⟩
      · simp at hcs; exact ⟨_, _, _, hcs⟩
    obtain ⟨a', n', c', rfl⟩ := hv
    obtain ⟨lb, hb⟩ := bytes_row he he' hc' (a := a') (n := n') (c := c') hy'
    have hlen : lb.length = n' := by have := hb.1; rw [bv_length] at this; omega
    exact ⟨lb, a', c', by rw [hlen], by rw [hlen]; exact hb⟩)
  exact ⟨l, h1, vs, h2, fun i lb hi => by
    obtain ⟨v, e1, a', c', rfl, e2⟩ := h3 i lb hi
    exact ⟨a', c', e1, e2⟩⟩

end
end Go.Cx
namespace Go.ArgS
open Go.ChangeShapes Go.WideShapes Go.ChangeAt Go.RowKit
section
variable {H : Type} {enc : TypeId × Value → H} {P : Program} {w : World} {base : Nat} {spare : Nat → Bool} {held : Bool}

/-- A slice whose elements are sz cells each, by what an element's cells read as. -/
theorem elems_row {α : Type} {t e : TypeId} {fuel : Nat} {a : Option Addr} {n c : Nat} {x : DataW H × List MemPlace} (sz : Nat) (ht : P.underlying t = some (.slice e)) (hc : P.cellsOf e = sz) (R : List Value → α → Prop)
    (h : DataW.trod enc P w base spare held fuel t (Value.slice a n c).cells.toList = some x)
    (hR : ∀ m cs y, cs.length = sz → DataW.trod enc P w base spare held m e cs = some y → ∃ z, R cs z) :
    ∃ l : List α, l.length = n ∧ n ≤ c ∧ n ≤ maxLen ∧ (0 < n → ∃ ad, a = some ad ∧ ∀ j p, l[j]? = some p → ∃ cs, cs.length = sz ∧ R cs p ∧ ∀ i u, cs[i]? = some u → w.cell? (ad.add (j * sz + i)) = some u) := by
  rcases Go.Deep.open_slice ht h with ⟨hcs, _⟩ | ⟨ad, len, cap, m, k, D, Pl, hcs, _, hl, hm, hmm, _, hx⟩
  · simp [Value.cells] at hcs
    obtain ⟨rfl, rfl, rfl⟩ := hcs
    exact ⟨[], rfl, Nat.le_refl _, Nat.zero_le _, fun h => absurd h (by omega)⟩
  · simp [Value.cells] at hcs
    obtain ⟨rfl, rfl, rfl⟩ := hcs
    have hnm : n ≤ m := by split at hmm <;> omega
    rw [hc] at hx
    have hz : ∀ i, i < n → ∃ z : α, ∃ cs, cs.length = sz ∧ R cs z ∧ ∀ j u, cs[j]? = some u → w.cell? (ad.add (i * sz + j)) = some u := fun i hi => by
      obtain ⟨cs', h1, h2⟩ := hx i (by omega)
      obtain ⟨_, h4, h5⟩ := World.cells?_some h1
      obtain ⟨z, hz⟩ := hR _ _ _ h4 h2
      refine ⟨z, cs', h4, hz, fun j u hu => ?_⟩
      have hj : j < sz := by rw [← h4]; exact (List.getElem?_eq_some_iff.1 hu).1
      have := h5 j hj
      rw [Addr.add_add] at this
      rw [this, hu]
    refine ⟨List.ofFn (fun i : Fin n => (hz i.1 i.2).choose), by simp, hl, (by have h_1 := hm; have h_2 := hl; omega), fun _ => ⟨ad, rfl, fun j p hj => ?_⟩⟩
    have hi : j < n := by
      have := (List.getElem?_eq_some_iff.1 hj).1
      simpa using this
    rw [List.getElem?_ofFn, dif_pos hi] at hj
    simp only [Option.some.injEq] at hj
    rw [← hj]
    exact (hz j hi).choose_spec
end
end Go.ArgS

namespace Go.Proofs.Ytpcgamgjgfdpaaa
open Go.RowKit Go.Cx
theorem comp_cells {H : Type} {enc : TypeId × Value → H} {w : World} {base : Nat} {spare : Nat → Bool} {held : Bool} {m : Nat} {cs : List Value} {y : DataW H × List MemPlace} (hl : cs.length = 3)
    (h : DataW.trod enc Try.prog w base spare held m 34 cs = some y) : ∃ z : Int × Int × List UInt8, cs = [.int .i64 z.1, .int .i64 z.2.1, .string (str z.2.2)] := by
  match cs, hl with
  | [c0, c1, c2], _ =>
    have k3 : Try.prog.cellsOf 3 = 1 := by kernel_rfl
    have k4 : Try.prog.cellsOf 9 = 1 := by kernel_rfl
    obtain ⟨y0, y1, y2, n, _, _, h0, h1, h2⟩ := Go.Deep.trod_struct3 Try.underlying34 h
    simp only [k3, k4, List.drop_zero, List.drop_succ_cons, List.take_succ_cons, List.take_zero] at h0 h1 h2
    obtain ⟨a, ha, _, _⟩ := DataW.trod_int Try.underlying3 h0
    obtain ⟨b, hb, _, _⟩ := DataW.trod_int Try.underlying3 h1
    obtain ⟨s, hs, _, _⟩ := DataW.trod_string Try.underlying9 h2
    simp only [List.cons.injEq, and_true] at ha hb hs
    obtain ⟨l, rfl⟩ := str_of s
    exact ⟨(a, b, l), by rw [ha, hb, hs]⟩
theorem ops_row {H : Type} {enc : TypeId × Value → H} {w : World} {base : Nat} {spare : Nat → Bool} {held : Bool} {fuel : Nat} {a : Option Addr} {n c : Nat} {x : DataW H × List MemPlace}
    (h : DataW.trod enc Try.prog w base spare held fuel 28 (Value.slice a n c).cells.toList = some x) : ∃ l : List (Int × Int × List UInt8), l.length = n ∧ n ≤ c ∧ n ≤ maxLen ∧ (0 < n → ∃ ad, a = some ad ∧ ∀ (j : Nat) p, l[j]? = some p → ∃ cs : List Value, cs.length = 3 ∧ (cs = [.int .i64 p.1, .int .i64 p.2.1, .string (str p.2.2)]) ∧ ∀ (i : Nat) u, cs[i]? = some u → w.cell? (ad.add (j * 3 + i)) = some u) :=
  Go.ArgS.elems_row (α := Int × Int × List UInt8) 3 Try.underlying28 (by kernel_rfl) (fun cs p => cs = [.int .i64 p.1, .int .i64 p.2.1, .string (str p.2.2)]) h (fun m cs y hl hy => comp_cells hl hy)
end Go.Proofs.Ytpcgamgjgfdpaaa

/- Contracts of Go functions: each call answers what the Lean function of its name answers. Conditions: stand in each theorem. Written by this seat's own program over the kit's printer. -/
import Derived.Test.YthfpohhkgcgbeaaQ0
namespace Go.Proofs.Ythfpohhkgcgbeaa.Q
open Go.RowKit Go.Proofs.YthfpohhkgcgbeaaW.PrintWords Go.Proofs.YthfpohhkgcgbeaaW.PrintLast Go.Proofs.YthfpohhkgcgbeaaW.PrintMore
attribute [local go_sem] max2_int min2_int max_two min_two max_three min_three max_four min_four   -- for this text's walks alone
set_option linter.unusedVariables false
set_option linter.unusedSimpArgs false

/-! ### Operations in memory, cell by cell -/
open Go.OpM Go.Cx Go.F64
def enc3 (x : S30) : List Value := [.int .i64 x.f0, .int .i64 x.f1, .string x.f2]
def encs3 (l : List S30) : List Value := l.flatMap enc3
theorem encs3_len (l : List S30) : (encs3 l).length = l.length * 3 := by
  induction l with
  | nil => rfl
  | cons c l ih => simp only [encs3, List.flatMap_cons, List.length_append, List.length_cons] at *; rw [ih]; simp [enc3]; omega
theorem encs3_at (l : List S30) : ∀ (j : Nat) (p : S30), l[j]? = some p → ((encs3 l).drop (j * 3)).take 3 = enc3 p := by
  induction l with
  | nil => intro j p h; simp at h
  | cons c l ih =>
    intro j p h
    cases j with
    | zero => simp at h; subst h; simp [encs3, enc3]
    | succ j =>
      have := ih j p (by simpa using h)
      have e : (encs3 (c :: l)).drop ((j + 1) * 3) = (encs3 l).drop (j * 3) := by
        simp only [encs3, List.flatMap_cons]
        have : (j + 1) * 3 = (enc3 c).length + j * 3 := by simp [enc3]; omega
        rw [this, List.drop_append]
        simp
      rw [e, this]
theorem encs3_get (l : List S30) (i : Nat) (u : Value) (h : (encs3 l)[i]? = some u) : ∃ p, l[i / 3]? = some p ∧ (enc3 p)[i % 3]? = some u := by
  have hi : i < l.length * 3 := by rw [← encs3_len]; exact (List.getElem?_eq_some_iff.1 h).1
  have hj : i / 3 < l.length := by omega
  refine ⟨l[i / 3], List.getElem?_eq_getElem hj, ?_⟩
  rw [← encs3_at l (i / 3) _ (List.getElem?_eq_getElem hj), List.getElem?_take, if_pos (by omega), List.getElem?_drop]
  rw [show i / 3 * 3 + i % 3 = i by omega]; exact h
theorem encs3_one (l : List S30) : ∀ u ∈ encs3 l, u.oneCell' = true := by
  intro u hu
  obtain ⟨p, _, hp⟩ := List.mem_flatMap.1 hu
  simp only [enc3, List.mem_cons, List.not_mem_nil, or_false] at hp
  rcases hp with rfl | rfl | rfl <;> rfl
/-- What is read lies there cell by cell. -/
theorem cells3 {w : World} {A : Option Addr} {l : List S30} (h : Kd.C k30 w A l.length l) : ∀ b, A = some b → ∀ j u, (encs3 l)[j]? = some u → w.cell? (b.add j) = some u := by
  rintro b rfl j u hu
  obtain ⟨p, hp, hu2⟩ := encs3_get l j u hu
  have hl : 0 < l.length := by have := (List.getElem?_eq_some_iff.1 hp).1; omega
  obtain ⟨ad, e, hc⟩ := h.2.2 hl
  cases e
  obtain ⟨c, _, hK, hcell⟩ := hc _ _ hp
  obtain rfl := k30_open hK
  have := hcell (j % 3) u hu2
  have e3 : j / 3 * (k30).sz + j % 3 = j := by show j / 3 * 3 + j % 3 = j; omega
  rwa [e3] at this
theorem cells3_none {w : World} {l : List S30} (h : Kd.C k30 w none l.length l) : l = [] := by
  rcases Nat.eq_zero_or_pos l.length with h0 | h0
  · exact List.eq_nil_of_length_eq_zero h0
  · obtain ⟨ad, e, _⟩ := h.2.2 h0
    cases e
/-- What is owned cell by cell is a row of operations' parts. -/
theorem own3 {w : World} {base : Nat} {a : Option Addr} {n c : Nat} {l : List S30} (hn : n = l.length) (h : Own w base 30 3 a n c (encs3 l)) : Kd.R k30 30 w base (fun _ => True) (.slice a n c) l := by
  subst hn
  refine ⟨fun _ _ => trivial, encs3 l, h, encs3_len l, fun j p hp => ?_⟩
  have : ((encs3 l).drop (j * (k30).sz)).take (k30).sz = enc3 p := encs3_at l j p hp
  rw [this]
  exact k30_mkM _ _ _ p
theorem et_comp : ElemT Try.prog 25 30 3 32 (.agg #[.int .i64 0, .int .i64 0, .string ⟨#[]⟩]) := ElemT.mk' Try.underlying25 (by kernel_rfl) rfl (by decide)

end Go.Proofs.Ythfpohhkgcgbeaa.Q

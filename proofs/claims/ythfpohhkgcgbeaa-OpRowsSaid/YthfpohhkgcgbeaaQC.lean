/- op.Check in plain words. -/
import Derived.Test.YthfpohhkgcgbeaaQM
import Derived.Test.YthfpohhkgcgbeaaQxopCheck
namespace Go.Proofs.Ythfpohhkgcgbeaa.Q
open Go.OpM Go.RowKit Go.Cx Go.Proofs.YthfpohhkgcgbeaaW.PrintWords Go.Proofs.YthfpohhkgcgbeaaW.PrintLast Go.Proofs.YthfpohhkgcgbeaaW.PrintMore
set_option linter.unusedVariables false
set_option linter.unusedSimpArgs false

/-- What is wrong with a part. -/
def chk (K N : Int) (s : List UInt8) : Int :=
  if K = 1 ∨ K = 3 then (if N < 1 ∨ N > 120 ∨ s ≠ [] then 1 else 0) else if K = 2 then (if N ≠ 0 ∨ s = [] then 1 else if s.length > 120 then 5 else 0) else 3
theorem size_toList (S : ByteArray) : S.size = S.toList.length := by
  obtain ⟨l, rfl⟩ := str_of S
  rw [str_toList, str_size]
theorem check_val (k : Nat) (hk : 2 ≤ k) (K N : Int) (S : ByteArray) : op_check.f k K N S = some (chk K N S.toList) := by
  obtain ⟨k, rfl⟩ : ∃ m, k = m + 2 := ⟨k - 2, by omega⟩
  have hs : (S.toList == []) = decide (S.toList = []) := by rw [Bool.eq_iff_iff]; simp
  have hs2 : (S.toList != []) = decide (S.toList ≠ []) := by rw [Bool.eq_iff_iff]; simp
  unfold op_check.f chk
  by_cases h1 : K = 1
  · subst h1
    simp only [op_check.j0, op_check.j1, size_toList, hs2]
    by_cases a : N < 1
    · simp [a]
    · by_cases b : N > 120
      · simp [a, b]
      · by_cases c : S.toList = []
        · simp [a, b, c]
        · simp [a, b, c]
  · by_cases h3 : K = 3
    · subst h3
      simp only [op_check.j0, op_check.j1, size_toList, hs2]
      by_cases a : N < 1
      · simp [a]
      · by_cases b : N > 120
        · simp [a, b]
        · by_cases c : S.toList = []
          · simp [a, b, c]
          · simp [a, b, c]
    · by_cases h2 : K = 2
      · subst h2
        simp only [op_check.j0, op_check.j2, size_toList, hs]
        by_cases a : N = 0
        · by_cases c : S.toList = []
          · simp [a, c]
          · by_cases d : S.toList.length > 120
            · have : (S.toList.length : Int) > 120 := by omega
              simp [a, c, d, this]
            · have : ¬ (S.toList.length : Int) > 120 := by omega
              simp [a, c, d, this]
        · simp [a]
      · simp only [op_check.j0]
        simp [h1, h2, h3]
theorem check_loop (l s : List S30) : ∀ (p : List S30) (k : Nat), l = p ++ s → l.length ≤ 1000000000000 → s.length + 3 ≤ k →
    op_Check.l0 k l (l.length : Int) (p.length : Int) = some ((s.map fun c => chk c.f0 c.f1 c.f2.toList).find? (· ≠ 0) |>.getD 0) := by
  induction s with
  | nil =>
    intro p k hl h0 hk
    obtain ⟨k, rfl⟩ : ∃ m, k = m + 1 := ⟨k - 1, by omega⟩
    have hpl : p.length = l.length := by rw [hl]; simp
    simp only [op_Check.l0]
    rw [if_neg (by omega)]
    rfl
  | cons c s ih =>
    intro p k hl h0 hk
    obtain ⟨k, rfl⟩ : ∃ m, k = m + 1 := ⟨k - 1, by omega⟩
    have hpl : p.length < l.length := by rw [hl]; simp
    have hrd : rd_T30 l (p.length : Int) = c := by rw [hl]; exact rd_mid p c s
    simp only [List.length_cons] at hk
    simp only [op_Check.l0]
    rw [if_pos (by omega), if_pos (by omega), if_pos (by omega), hrd, check_val k (by omega), w_succ _ (by omega)]
    simp only [Option.bind_some]
    by_cases hc : chk c.f0 c.f1 c.f2.toList = 0
    · rw [if_pos hc]
      have := ih (p ++ [c]) k (by simp [hl]) h0 (by omega)
      have e : (p ++ [c]).length = p.length + 1 := by simp
      rw [e] at this
      rw [this]
      simp [hc]
    · rw [if_neg hc]
      simp [hc]
theorem check_eq (l : List S30) (k : Nat) (hk : l.length + 3 ≤ k) (h0 : l.length ≤ 1000000) : op_Check.f k l = some (if l.length > 40 then 4 else ((l.map fun c => chk c.f0 c.f1 c.f2.toList).find? (· ≠ 0)).getD 0) := by
  unfold op_Check.f
  by_cases h : l.length > 40
  · rw [if_pos (by omega), if_pos h]
  · rw [if_neg (by omega), if_neg h]
    exact check_loop l l [] k rfl (by omega) (by omega)
theorem check_ok (l : List S30) (k : Nat) (hk : 50 ≤ k) (h0 : l.length ≤ 40) (h : ∀ c ∈ l, chk c.f0 c.f1 c.f2.toList = 0) : op_Check.f k l = some 0 := by
  rw [check_eq l k (by omega) (by omega), if_neg (by omega)]
  have : (l.map fun c => chk c.f0 c.f1 c.f2.toList).find? (· ≠ 0) = none := by
    rw [List.find?_eq_none]
    intro x hx
    obtain ⟨c, hc, rfl⟩ := List.mem_map.1 hx
    simp [h c hc]
  rw [this]; rfl
theorem check_one (c : S30) (k : Nat) (hk : 50 ≤ k) : op_Check.f k [c] = some (chk c.f0 c.f1 c.f2.toList) := by
  rw [check_eq [c] k (by simp; omega) (by simp), if_neg (by simp)]
  by_cases h : chk c.f0 c.f1 c.f2.toList = 0
  · simp [h]
  · simp [h]
end Go.Proofs.Ythfpohhkgcgbeaa.Q

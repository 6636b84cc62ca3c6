/- Same in plain words. -/
import Derived.Test.YthfpohhkgcgbeaaQM
import Derived.Test.YthfpohhkgcgbeaaQxopSame
namespace Go.Proofs.Ythfpohhkgcgbeaa.Q
open Go.OpM Go.RowKit Go.Cx Go.Proofs.YthfpohhkgcgbeaaW.PrintWords Go.Proofs.YthfpohhkgcgbeaaW.PrintLast Go.Proofs.YthfpohhkgcgbeaaW.PrintMore
set_option linter.unusedVariables false
set_option linter.unusedSimpArgs false

theorem equal_loop (a b : List S30) (s : List S30) : ∀ (t p q : List S30) (k : Nat), a = p ++ s → b = q ++ t → p.length = q.length → s.length = t.length → a.length ≤ 1000000000000 → s.length < k →
    ∃ r, slices_Equal_Comp.l0 k a b (a.length : Int) (p.length : Int) = some r ∧ (r = true ↔ s = t) := by
  induction s with
  | nil =>
    intro t p q k ha hb hp hs h0 hk
    obtain ⟨k, rfl⟩ : ∃ m, k = m + 1 := ⟨k - 1, by omega⟩
    have ht : t = [] := List.eq_nil_of_length_eq_zero (by simpa using hs.symm)
    have hl : p.length = a.length := by rw [ha]; simp
    refine ⟨true, ?_, by simp [ht]⟩
    simp only [slices_Equal_Comp.l0]
    rw [if_neg (by omega)]
  | cons c s ih =>
    intro t p q k ha hb hp hs h0 hk
    obtain ⟨k, rfl⟩ : ∃ m, k = m + 1 := ⟨k - 1, by omega⟩
    obtain ⟨e, t, rfl⟩ : ∃ e t', t = e :: t' := List.exists_cons_of_ne_nil (by intro h; rw [h] at hs; simp at hs)
    have hl : p.length < a.length := by rw [ha]; simp
    have hl2 : q.length < b.length := by rw [hb]; simp
    have r1 : rd_T30 a (p.length : Int) = c := by rw [ha]; exact rd_mid p c s
    have r2 : rd_T30 b (p.length : Int) = e := by rw [hb, hp]; exact rd_mid q e t
    simp only [slices_Equal_Comp.l0]
    rw [if_pos (by omega), if_pos (by omega), if_pos (by omega), if_pos (by omega), r1, r2]
    by_cases hce : c = e
    · rw [if_neg (fun h => (s_eq.1 h) hce), w_succ _ (by omega)]
      simp only [List.length_cons] at hk hs
      obtain ⟨r, h1, h2⟩ := ih t (p ++ [c]) (q ++ [e]) k (by simp [ha]) (by simp [hb]) (by simp [hp]) (by omega) h0 (by omega)
      refine ⟨r, ?_, ?_⟩
      · have : (p ++ [c]).length = p.length + 1 := by simp
        rw [this] at h1
        exact h1
      · rw [h2]; simp [hce]
    · rw [if_pos (s_eq.2 hce)]
      exact ⟨false, rfl, by simp [hce]⟩
theorem same_ex (a b : List S30) (h0 : a.length ≤ 1000000000000) (k : Nat) (hk : a.length < k) : ∃ r, op_Same.f k a b = some r ∧ (r = true ↔ a = b) := by
  unfold op_Same.f slices_Equal_Comp.f
  by_cases hl : a.length = b.length
  · rw [if_pos (by omega)]
    obtain ⟨r, h1, h2⟩ := equal_loop a b a b [] [] k rfl rfl rfl hl h0 hk
    have h1' : slices_Equal_Comp.l0 k a b (a.length : Int) 0 = some r := h1
    rw [h1']
    exact ⟨r, rfl, h2⟩
  · rw [if_neg (by omega)]
    exact ⟨false, rfl, by simp; intro h; exact hl (by rw [h])⟩
theorem same_refl (a : List S30) (h0 : a.length ≤ 1000000000000) (k : Nat) (hk : a.length < k) : op_Same.f k a a = some true := by
  obtain ⟨r, h1, h2⟩ := same_ex a a h0 k hk
  rw [h1, h2.2 rfl]
theorem same_ne {a b : List S30} (h : a ≠ b) (h0 : a.length ≤ 1000000000000) (k : Nat) (hk : a.length < k) : op_Same.f k a b = some false := by
  obtain ⟨r, h1, h2⟩ := same_ex a b h0 k hk
  rw [h1]
  cases r with
  | false => rfl
  | true => exact absurd (h2.1 rfl) h

end Go.Proofs.Ythfpohhkgcgbeaa.Q

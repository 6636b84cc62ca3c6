/- The statement OpSames, once the machine's side is told by the printed contracts: it holds of the Lean functions of the Go functions. Conditions: none. -/
import Derived.Test.YthfpohhkgcgbeaaQJS
import Derived.Test.YthfpohhkgcgbeaaQxcomitialaw4OpSames
namespace Go.Proofs.Ythfpohhkgcgbeaa.Pure
open Go.OpM Go.RowKit Go.Cx Go.Proofs.Ythfpohhkgcgbeaa.Q Go.Proofs.YthfpohhkgcgbeaaW.PrintWords Go.Proofs.YthfpohhkgcgbeaaW.PrintLast Go.Proofs.YthfpohhkgcgbeaaW.PrintMore
set_option linter.unusedVariables false
set_option linter.unusedSimpArgs false

theorem size_le (p s : List S30) (c : S30) (hv : Vl (cms (p ++ c :: s))) (hk : c.f0 = 2) : c.f2.size ≤ outC (cms (p ++ c :: s)) := by
  by_cases h : 0 < c.f2.size
  · have e : p ++ c :: s = p ++ ([c] ++ s) := rfl
    have hn : c.f1 = 0 := by
      have := hv (cm c) (by rw [cms_append]; simp [cms])
      unfold Cm.ok cm at this
      simp only at this
      omega
    have hcc : c = ⟨2, 0, c.f2⟩ := by rw [← hk, ← hn]
    have := (put_cm c.f2 h).2.2
    rw [← hcc] at this
    rw [e, cms_append, cms_append, outC_append, outC_append, this]
    omega
  · omega
theorem kind3 (p s : List S30) (c : S30) (hv : Vl (cms (p ++ c :: s))) : 1 ≤ c.f0 ∧ c.f0 ≤ 3 := by
  have := hv (cm c) (by rw [cms_append]; simp [cms])
  unfold Cm.ok cm at this
  simp only at this
  omega
theorem chg_ne (c : S30) (h3 : 1 ≤ c.f0 ∧ c.f0 ≤ 3) : comitialaw4_OpSames.chg c ≠ c := by
  unfold comitialaw4_OpSames.chg
  intro h
  split at h
  · have := congrArg (fun x : S30 => x.f2.size) h
    simp [ByteArray.size_append] at this
    exact absurd this (by decide)
  · split at h
    · have := congrArg (fun x : S30 => x.f1) h
      simp only at this
      unfold wrap64 at this
      omega
    · have := congrArg (fun x : S30 => x.f0) h
      simp only at this
      unfold wrap64 at this
      omega
theorem OpSames : comitialaw4_OpSames.Pure := by
  intro a0 l1 a2 _ _ _ _ _
  have hm0 : 0 ≤ a0 % 90 := Int.emod_nonneg _ (by omega)
  have hm1 : a0 % 90 < 90 := Int.emod_lt_of_pos _ (by omega)
  obtain ⟨n, hn⟩ : ∃ n : Nat, (n : Int) = 1 + a0 % 90 := ⟨(1 + a0 % 90).toNat, by omega⟩
  obtain ⟨o, hr, hm, hne⟩ := make_eq n (by omega) l1
  have ho0 := hne (by omega)
  have hlen := hm.len
  have hpos : 0 < o.length := by cases o with | nil => exact absurd rfl ho0 | cons _ _ => simp
  have ht0 : 0 ≤ a2 % (o.length : Int) := Int.emod_nonneg _ (by omega)
  have ht1 : a2 % (o.length : Int) < (o.length : Int) := Int.emod_lt_of_pos _ (by omega)
  obtain ⟨i, hi⟩ : ∃ i : Nat, a2 % (o.length : Int) = (i : Int) := ⟨(a2 % (o.length : Int)).toNat, by omega⟩
  have hil : i < o.length := by omega
  have hw := within_eq a2 (o.length : Int) (by omega) (by omega)
  rw [hi] at hw
  have hv := hm.vl
  have hout := hm.outs
  obtain ⟨p, c, s, hps, hpl⟩ : ∃ p c s, o = p ++ c :: s ∧ p.length = i := ⟨o.take i, o[i], o.drop (i + 1), by simp, by rw [List.length_take]; omega⟩
  have hci : o[i]? = some c := by rw [hps, ← hpl]; simp
  rw [hps] at hv hout
  have h3 := kind3 p s c hv
  have hsz : c.f2.size ≤ 1000 := by
    by_cases h2 : c.f0 = 2
    · have := size_le p s c hv h2; omega
    · have := hv (cm c) (by rw [cms_append]; simp [cms])
      unfold Cm.ok cm at this
      simp only at this
      have hd : c.f2.data.toList = [] := by
        rcases this with ⟨_, _, h⟩ | ⟨h, _, _⟩ | ⟨_, _, h⟩
        · exact h
        · exact absurd h h2
        · exact h
      have : c.f2.size = c.f2.data.toList.length := by simp
      rw [this, hd]; simp
  refine ⟨400, _, (n : Int), o, i, c, _, known_true _ (by omega), within_eq a0 90 (by omega) (by omega), by rw [← hn]; exact w64 (by omega) (by omega), hr 400 (by omega), by omega, hw, hil, hci, hsz, rfl, same_refl o (by omega) 400 (by omega), ?_, ?_⟩
  · apply same_ne _ (by omega) 400 (by omega)
    intro h
    have h2 := congrArg (fun l : List S30 => l[i]?) h
    simp only [hci, List.getElem?_set_self hil, Option.some.injEq] at h2
    exact chg_ne c h3 h2.symm
  · apply same_ne _ (by omega) 400 (by omega)
    intro h
    have := congrArg List.length h
    rw [List.length_take] at this
    omega
end Go.Proofs.Ythfpohhkgcgbeaa.Pure

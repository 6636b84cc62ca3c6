/- The statement OpLong, once the machine's side is told by the printed contracts: it holds of the Lean functions of the Go functions. Conditions: none. -/
import Derived.Test.YthfpohhkgcgbeaaQJ
import Derived.Test.YthfpohhkgcgbeaaQxcomitialaw4OpLong
namespace Go.Proofs.Ythfpohhkgcgbeaa.Pure
open Go.OpM Go.RowKit Go.Cx Go.Proofs.Ythfpohhkgcgbeaa.Q Go.Proofs.YthfpohhkgcgbeaaW.PrintWords Go.Proofs.YthfpohhkgcgbeaaW.PrintLast Go.Proofs.YthfpohhkgcgbeaaW.PrintMore
set_option linter.unusedVariables false
set_option linter.unusedSimpArgs false

theorem zeros (n : Nat) : ∃ s : List UInt8, strOfNums (List.replicate n 0) = ⟨s.toArray⟩ ∧ s.length = n := by
  obtain ⟨s, h1, h2⟩ := nums_str (List.replicate n 0)
  exact ⟨s, h1, by rw [h2, List.length_replicate]⟩
theorem OpLong : comitialaw4_OpLong.Pure := by
  intro a0 a1 _ _
  refine ⟨100, ?_⟩
  unfold comitialaw4_OpLong.f
  rw [known_true _ (by omega)]
  simp only [Option.bind_some, if_true]
  rw [within_eq a0 119 (by omega) (by omega), within_eq a1 119 (by omega) (by omega)]
  simp only [Option.bind_some]
  obtain ⟨n, hn⟩ : ∃ n : Nat, 1 + a0 % 119 = (n : Int) := ⟨(1 + a0 % 119).toNat, by omega⟩
  obtain ⟨m, hm⟩ : ∃ m : Nat, 1 + a1 % 119 = (m : Int) := ⟨(1 + a1 % 119).toNat, by omega⟩
  have n1 : 1 ≤ n ∧ n ≤ 119 := by omega
  have m1 : 1 ≤ m ∧ m ≤ 119 := by omega
  rw [w64 (x := 1 + a0 % 119) (by omega) (by omega), w64 (x := 1 + a1 % 119) (by omega) (by omega), hn, hm]
  obtain ⟨d, hd, hdl⟩ := zeros n
  obtain ⟨s, hs, hsl⟩ := zeros m
  rw [Int.toNat_natCast, Int.toNat_natCast, hd, hs, if_pos (by omega), if_pos (by omega), if_pos (by omega), if_pos (by omega)]
  have hz : s ≠ [] := by intro h; rw [h] at hsl; simp at hsl; omega
  have hat : at_ (cms [(⟨1, (n : Int), (⟨#[]⟩ : ByteArray)⟩ : S30), ⟨2, 0, (⟨s.toArray⟩ : ByteArray)⟩]) = keeps n ++ puts s := by
    show Cm.at_ ⟨1, n, []⟩ ++ (Cm.at_ ⟨2, 0, s⟩ ++ []) = _
    rw [at_keep, at_put, List.append_nil]
  have hin : inC (cms [(⟨1, (n : Int), (⟨#[]⟩ : ByteArray)⟩ : S30), ⟨2, 0, (⟨s.toArray⟩ : ByteArray)⟩]) = n := by unfold inC; rw [hat]; simp
  have hout : outC (cms [(⟨1, (n : Int), (⟨#[]⟩ : ByteArray)⟩ : S30), ⟨2, 0, (⟨s.toArray⟩ : ByteArray)⟩]) = n + m := by unfold outC; rw [hat]; simp [hsl]
  have hg : good (cms [(⟨1, (n : Int), (⟨#[]⟩ : ByteArray)⟩ : S30), ⟨2, 0, (⟨s.toArray⟩ : ByteArray)⟩]) = true :=
    good_iff.2 ⟨Vl.cons (c := ⟨1, n, []⟩) (keep_ok (by omega)) (Vl.cons (c := ⟨2, 0, s⟩) (put_ok hz) Vl.nil), by rw [hin, hout]; omega⟩
  rw [apply_eq d _ hg (by omega), hin, hout, if_pos (by omega), hat, w64 (x := (n : Int) + (m : Int)) (by omega) (by omega)]
  simp only [Option.bind_some]
  by_cases h : (n : Int) + (m : Int) > 120
  · rw [if_pos h, if_neg (show ¬ n + m ≤ 120 by omega)]
    dsimp only
    rw [if_pos rfl]
    have e0 : (⟨#[]⟩ : ByteArray).toList = [] := ByteArray.toList_mk []
    rw [e0]
    rfl
  · rw [if_neg h, if_pos (show n + m ≤ 120 by omega)]
    dsimp only
    rw [if_pos rfl, ba_size, app_length _ _ _ (by simp; omega)]
    simp [hsl]
end Go.Proofs.Ythfpohhkgcgbeaa.Pure

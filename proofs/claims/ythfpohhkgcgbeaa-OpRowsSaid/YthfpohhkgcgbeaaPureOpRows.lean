/- The statement OpRows, once the machine's side is told by the printed contracts: it holds of the Lean functions of the Go functions. Conditions: none. -/
import Derived.Test.YthfpohhkgcgbeaaQKd
import Derived.Test.YthfpohhkgcgbeaaQC
import Derived.Test.YthfpohhkgcgbeaaQxcomitialaw4OpRows
namespace Go.Proofs.Ythfpohhkgcgbeaa.Pure
open Go.OpM Go.RowKit Go.Cx Go.Proofs.Ythfpohhkgcgbeaa.Q Go.Proofs.YthfpohhkgcgbeaaW.PrintWords Go.Proofs.YthfpohhkgcgbeaaW.PrintLast Go.Proofs.YthfpohhkgcgbeaaW.PrintMore
set_option linter.unusedVariables false
set_option linter.unusedSimpArgs false

theorem bl (a : Array UInt8) : (⟨a⟩ : ByteArray).toList = a.toList := ByteArray.toList_mk a.toList
theorem zl (n : Nat) : (strOfNums (List.replicate n 0)).toList = List.replicate n 0 := by
  rw [strOfNums, bl]; simp
theorem rows_loop (k : Nat) (b : Bool) (x5 : Int) (c : S30) (N : Nat) (hN : wrap64 (40 + x5) = N) (d : Nat) : ∀ (m k : Nat), m + d = N → 1 ≤ m → N ≤ 50 → d < k → comitialaw4_OpRows.l0 k b x5 (List.replicate m c) = comitialaw4_OpRows.l0 (k - d) b x5 (List.replicate N c) := by
  induction d with
  | zero => intro m k h _ _ _; subst h; rfl
  | succ d ih =>
    intro m k h h1 h2 hk
    obtain ⟨k, rfl⟩ : ∃ j, k = j + 1 := ⟨k - 1, by omega⟩
    have := ih (m + 1) k (by omega) (by omega) h2 (by omega)
    simp only [comitialaw4_OpRows.l0]
    have e : rd_T30 (List.replicate m c) 0 = c := by
      obtain ⟨m, rfl⟩ : ∃ j, m = j + 1 := ⟨m - 1, by omega⟩
      simp [rd_T30, List.replicate_succ]
    rw [if_pos (by rw [hN, List.length_replicate]; omega), if_pos (by rw [List.length_replicate]; omega), if_pos (by rw [List.length_replicate]; omega), e]
    have e2 : List.replicate m c ++ [c] = List.replicate (m + 1) c := by rw [List.replicate_succ']
    have e3 : k + 1 - (d + 1) = k - d := by omega
    rw [show (⟨c.f0, c.f1, c.f2⟩ : S30) = c from rfl, e2, e3]
    exact this
theorem rows_end (k : Nat) (b : Bool) (x5 : Int) (L : List S30) (h : ¬ (L.length : Int) < wrap64 (40 + x5)) : comitialaw4_OpRows.l0 (k + 1) b x5 L = (op_Check.f k L).bind fun t299 => if b = true then some (t299 == 4) else (if t299 = 0 then some true else some false) := by
  simp only [comitialaw4_OpRows.l0]
  rw [if_neg h]
theorem OpRows : comitialaw4_OpRows.Pure := by
  intro a0 a1 h
  have hw := within_eq a0 8 (by omega) (by omega)
  have h0 := Int.emod_nonneg a0 (by omega : (8 : Int) ≠ 0)
  have h1 := Int.emod_lt_of_pos a0 (by omega : (0 : Int) < 8)
  refine ⟨120, ?_⟩
  unfold comitialaw4_OpRows.f
  rw [known_true 120 (by omega)]
  generalize a0 % 8 = r at hw h0 h1
  have hc : r = 0 ∨ r = 1 ∨ r = 2 ∨ r = 3 ∨ r = 4 ∨ r = 5 ∨ r = 6 ∨ r = 7 := by omega
  have c1 := check_one (k := 119) (hk := by omega)
  have e1 : wrap64 121 = 121 := w64 (by decide) (by decide)
  have e2 : wrap64 120 = 120 := w64 (by decide) (by decide)
  have e3 : wrap64 0 = 0 := w64 (by decide) (by decide)
  have e4 : wrap64 1 = 1 := w64 (by decide) (by decide)
  have x1 : (⟨#[120]⟩ : ByteArray).extract 0 1 = ⟨#[120]⟩ := rfl
  have x2 : (⟨#[120]⟩ : ByteArray).extract 0 0 = ⟨#[]⟩ := rfl
  have z1 : strOfNums (List.replicate 121 0) = strOfNums (List.replicate 121 0) := rfl
  simp only [Option.bind_some, if_true, comitialaw4_OpRows.j0, hw]
  rcases hc with rfl | rfl | rfl | rfl | rfl | rfl | rfl | rfl
  case inr.inr.inr.inr.inr.inr.inl =>
    cases a1
    · have := rows_loop 119 false 0 ⟨1, 5, ⟨#[]⟩⟩ 40 (w64 (by decide) (by decide)) 39 1 119 (by omega) (by omega) (by omega) (by omega)
      have e : ([⟨1, 5, ⟨#[]⟩⟩] : List S30) = List.replicate 1 ⟨1, 5, ⟨#[]⟩⟩ := rfl
      have e0 : wrap64 (40 + 0) = 40 := w64 (by decide) (by decide)
      change comitialaw4_OpRows.l0 119 false 0 (List.replicate 1 ⟨1, 5, ⟨#[]⟩⟩) = some true
      rw [this, rows_end 79 _ _ _ (by rw [List.length_replicate, e0]; decide), check_ok _ _ (by omega) (by rw [List.length_replicate]; omega) (by intro c hc; rw [List.eq_of_mem_replicate hc]; simp [chk, bl])]
      simp
    · have := rows_loop 119 true 1 ⟨1, 5, ⟨#[]⟩⟩ 41 (w64 (by decide) (by decide)) 40 1 119 (by omega) (by omega) (by omega) (by omega)
      have e : ([⟨1, 5, ⟨#[]⟩⟩] : List S30) = List.replicate 1 ⟨1, 5, ⟨#[]⟩⟩ := rfl
      have e0 : wrap64 (40 + 1) = 41 := w64 (by decide) (by decide)
      change comitialaw4_OpRows.l0 119 true 1 (List.replicate 1 ⟨1, 5, ⟨#[]⟩⟩) = some true
      rw [this, rows_end 78 _ _ _ (by rw [List.length_replicate, e0]; decide), check_eq _ _ (by rw [List.length_replicate]; omega) (by rw [List.length_replicate]; omega), if_pos (by rw [List.length_replicate]; omega)]
      simp
  case inr.inr.inr.inl =>
    cases a1
    · obtain ⟨Z, hZ, hl⟩ : ∃ Z : ByteArray, strOfNums (List.replicate (wrap64 (120 + 0)).toNat 0) = Z ∧ Z.toList.length = 120 := ⟨_, rfl, by rw [zl, List.length_replicate, w64 (by decide) (by decide)]; rfl⟩
      have hn : Z.toList ≠ [] := by intro h; rw [h] at hl; simp at hl
      rw [if_neg Bool.false_ne_true, hZ]
      simp [c1, e2, chk, hl, hn]
    · obtain ⟨Z, hZ, hl⟩ : ∃ Z : ByteArray, strOfNums (List.replicate (wrap64 (120 + 1)).toNat 0) = Z ∧ Z.toList.length = 121 := ⟨_, rfl, by rw [zl, List.length_replicate, w64 (by decide) (by decide)]; rfl⟩
      have hn : Z.toList ≠ [] := by intro h; rw [h] at hl; simp at hl
      rw [if_pos rfl, hZ]
      simp [c1, e1, chk, hl, hn]
  all_goals (cases a1 <;> simp [c1, rd_T30, e1, e2, e3, e4, x1, x2, chk, bl, zl])
end Go.Proofs.Ythfpohhkgcgbeaa.Pure

/- Contracts of Go functions: each call answers what the Lean function of its name answers. Conditions: stand in each theorem. Written by this seat's own program over the kit's printer. -/
import Derived.Test.YtlcnhamcbakfcaaQ0
import Derived.Test.YtlcnhamcbakfcaaQxwpscopeagain
import Derived.WalkMore
namespace Go.Proofs.Ytlcnhamcbakfcaa.Q
open Go.RowKit Go.Proofs.YtlcnhamcbakfcaaW.PrintWords Go.Proofs.YtlcnhamcbakfcaaW.PrintLast Go.Proofs.YtlcnhamcbakfcaaW.PrintMore
attribute [local go_sem] max2_int min2_int max_two min_two max_three min_three max_four min_four   -- for this text's walks alone
set_option linter.unusedVariables false
set_option linter.unusedSimpArgs false

-- HAND
/-! ### people_find: function 10 -/
open Go.OpM Go.Cx Go.F64
-- IMPORT Derived.WalkMore
def people_find.f (l0 : List (S29)) (a1_0 a1_1 : Int) : Option (Int × Bool) := if l0.length ≤ 1000000 then some (((fnd l0 ⟨a1_0, a1_1⟩).1 : Int), (fnd l0 ⟨a1_0, a1_1⟩).2) else none
theorem rdU_get {l : List S29} {k : Nat} (h : k < l.length) : rd_T29 l (k : Int) = l[k] := by
  unfold rd_T29; simp [List.getD_eq_getElem?_getD, h]
def FindJump (w : World) (l : List S29) (a b : Int) (A0 : Option Addr) (c0 : Nat) (a' : Act) (wr : World) : Prop :=
  ∃ (k : Nat) (u1 u2 u4 u5 u7 u8 u9 u10 u11 u12 u13 u14 u15 u16 u17 u18 u19 u20 u21 u22 u23 u24 u25 u26 u27 u28 u29 u30 u31 u32 u33 u34 u35 u36 u37 u38 u39 u40 u41 u42 u43 u44 u45 u46 u47 u48 u49 u50 u51 u52 : Value), a' = { tmps := #[.slice A0 l.length c0, u1, u2, .pointer (some ⟨w.heap.size, 0, none⟩), u4, u5, .int .i64 k, u7, u8, u9, u10, u11, u12, u13, u14, u15, u16, u17, u18, u19, u20, u21, u22, u23, u24, u25, u26, u27, u28, u29, u30, u31, u32, u33, u34, u35, u36, u37, u38, u39, u40, u41, u42, u43, u44, u45, u46, u47, u48, u49, u50, u51, u52], defers := [] } ∧
    k ≤ l.length ∧ Hid ((fnd l ⟨a, b⟩).1 = k + (fnd (l.drop k) ⟨a, b⟩).1 ∧ (fnd l ⟨a, b⟩).2 = (fnd (l.drop k) ⟨a, b⟩).2) ∧ Hid (Below w.heap.size w wr) ∧ wr.cell? ⟨w.heap.size, 0, none⟩ = some (.int .i64 a) ∧ wr.cell? ⟨w.heap.size, 1, none⟩ = some (.int .i64 b)
set_option maxRecDepth 100000 in
set_option maxHeartbeats 4000000 in
theorem people_find.calls (A0 : Option Addr) (c0 : Nat) (l0 : List (S29)) (a1_0 a1_1 : Int) (r1 : Int) (r2 : Bool) (w : World) (hr0 : Kd.C k29 w A0 l0.length l0) (hc0 : l0.length ≤ c0) (h : people_find.f l0 a1_0 a1_1 = some (r1, r2)) :
    Calls Try.prog 10 #[.slice A0 l0.length c0, .agg #[.int .i64 a1_0, .int .i64 a1_1]] w fun e w' => e = .returned (.tuple #[.int .i64 r1, .bool r2]) ∧ Below w.heap.size w w' := by
  have hl : l0.length ≤ 1000000 := by
    unfold people_find.f at h
    by_cases hl : l0.length ≤ 1000000
    · exact hl
    · rw [if_neg hl] at h; cases h
  unfold people_find.f at h
  rw [if_pos hl] at h
  simp only [Option.some.injEq, Prod.mk.injEq] at h
  obtain ⟨rfl, rfl⟩ := h
  have HR := Go.Cx.hid hr0
  clear hr0 hc0
  go_enter Try.func10, Try.ntmps10
  go_wp2
  refine wp_scope_again 0 (FindJump w l0 a1_0 a1_1 A0 c0) (fun a' _ => l0.length - (intOf (a'.tmps.getD 6 undef)).toNat) rfl ?pass ?first
  case first =>
    intro PASS
    have HP := Go.Cx.hid PASS
    clear PASS
    go_wp2
    refine wp_label ?_
    simp only [Exit.then]
    refine (show ∀ (a : Act) (w : World), Code.wp Try.prog _ _ a w → _ from by assumption) _ _ ?_
    exact HP.out _ _ ⟨0, _, _, _, _, _, _, _, _, _, _, _, _, _, _, _, _, _, _, _, _, _, _, _, _, _, _, _, _, _, _, _, _, _, _, _, _, _, _, _, _, _, _, _, _, _, _, _, _, _, _, rfl, Nat.zero_le _, Go.Cx.hid (by simp), Go.Cx.hid (((Ch.refl (fun _ => False) w).alloc _).below0), by rw [cell_blk (alloc_blk_new _ rfl)]; rfl, by rw [cell_blk (alloc_blk_new _ rfl)]; rfl⟩
  case pass =>
    rintro a' wr ⟨k, u1, u2, u4, u5, u7, u8, u9, u10, u11, u12, u13, u14, u15, u16, u17, u18, u19, u20, u21, u22, u23, u24, u25, u26, u27, u28, u29, u30, u31, u32, u33, u34, u35, u36, u37, u38, u39, u40, u41, u42, u43, u44, u45, u46, u47, u48, u49, u50, u51, u52, rfl, hk, HF, HB, x0, x1⟩
    by_cases hlt : k < l0.length
    · have hkb : ((k : Int) == (l0.length : Int)) = false := beq_eq_false_iff_ne.2 (by omega)
      have hlti : (k : Int) < l0.length := by omega
      have k0 : (0 : Int) ≤ k := by omega
      obtain ⟨ad, e, y0, y1⟩ := at_T29 (Kd.C_below HR.out HB.out) (k : Int) (by omega) (by omega)
      subst e
      rw [rdU_get hlt] at y0 y1
      simp only [Int.toNat_natCast] at y0 y1
      obtain ⟨p, q, hpq⟩ : ∃ p q, l0[k] = ⟨p, q⟩ := ⟨_, _, rfl⟩
      rw [hpq] at y0 y1
      simp only at y0 y1
      have hd : l0.drop k = ⟨p, q⟩ :: l0.drop (k + 1) := by rw [List.drop_eq_getElem_cons hlt, hpq]
      have hf := HF.out
      rw [hd] at hf
      simp only [fnd] at hf
      clear HF hd hpq
      rcases Int.lt_trichotomy a1_0 p with h | h | h
      · rw [if_pos (show ult ⟨a1_0, a1_1⟩ ⟨p, q⟩ from Or.inl h)] at hf
        have F := Go.Cx.hid hf
        have c1 : decide (a1_0 < p) = true := decide_eq_true h
        clear hf h
        go_wp2
        repeat (go_quiet (fail); try go_wp2)
        simp only [Exit.jump]
        go_ret2
        rw [F.out.1, F.out.2]
        exact ⟨by simp, by repeat (first | exact HB.out | apply pw_below_drewN)⟩
      · subst h
        have c1 : decide (a1_0 < a1_0) = false := decide_eq_false (by omega)
        rcases Int.lt_trichotomy a1_1 q with h | h | h
        · rw [if_pos (show ult ⟨a1_0, a1_1⟩ ⟨a1_0, q⟩ from Or.inr ⟨rfl, h⟩)] at hf
          have F := Go.Cx.hid hf
          have c3 : decide (a1_1 < q) = true := decide_eq_true h
          clear hf h
          go_wp2
          repeat (go_quiet (fail); try go_wp2)
          simp only [Exit.jump]
          go_ret2
          rw [F.out.1, F.out.2]
          exact ⟨by simp, by repeat (first | exact HB.out | apply pw_below_drewN)⟩
        · subst h
          rw [if_neg (ult_irr _), if_pos ⟨rfl, rfl⟩] at hf
          have F := Go.Cx.hid hf
          have c3 : decide (a1_1 < a1_1) = false := decide_eq_false (by omega)
          clear hf
          go_wp2
          repeat (go_quiet (fail); try go_wp2)
          simp only [Exit.jump]
          go_ret2
          rw [F.out.1, F.out.2]
          exact ⟨by simp, by repeat (first | exact HB.out | apply pw_below_drewN)⟩
        · rw [if_neg (show ¬ ult ⟨a1_0, a1_1⟩ ⟨a1_0, q⟩ by unfold ult; simp only; omega), if_neg (show ¬ (a1_0 = a1_0 ∧ q = a1_1) by omega)] at hf
          have F := Go.Cx.hid (show (fnd l0 ⟨a1_0, a1_1⟩).1 = (k + 1) + (fnd (l0.drop (k + 1)) ⟨a1_0, a1_1⟩).1 ∧ (fnd l0 ⟨a1_0, a1_1⟩).2 = (fnd (l0.drop (k + 1)) ⟨a1_0, a1_1⟩).2 from ⟨by rw [hf.1]; simp only; omega, hf.2⟩)
          have c3 : decide (a1_1 < q) = false := decide_eq_false (by omega)
          have c4 : (q == a1_1) = false := beq_eq_false_iff_ne.2 (by omega)
          clear hf h
          go_wp2
          repeat (go_quiet (fail); try go_wp2)
          refine wp_goto ?_
          rw [show ((k : Int) + 1) = ((k + 1 : Nat) : Int) from by omega]
          refine ⟨by trivial, ⟨k + 1, _, _, _, _, _, _, _, _, _, _, _, _, _, _, _, _, _, _, _, _, _, _, _, _, _, _, _, _, _, _, _, _, _, _, _, _, _, _, _, _, _, _, _, _, _, _, _, _, _, _, rfl, by omega, F, Go.Cx.hid (by repeat (first | exact HB.out | apply pw_below_drewN)), x0, x1⟩, ?_⟩
          show l0.length - (intOf (.int .i64 ((k + 1 : Nat) : Int))).toNat < l0.length - (intOf (.int .i64 ((k : Nat) : Int))).toNat
          simp only [intOf]
          omega
      · rw [if_neg (show ¬ ult ⟨a1_0, a1_1⟩ ⟨p, q⟩ by unfold ult; simp only; omega), if_neg (show ¬ (p = a1_0 ∧ q = a1_1) by omega)] at hf
        have F := Go.Cx.hid (show (fnd l0 ⟨a1_0, a1_1⟩).1 = (k + 1) + (fnd (l0.drop (k + 1)) ⟨a1_0, a1_1⟩).1 ∧ (fnd l0 ⟨a1_0, a1_1⟩).2 = (fnd (l0.drop (k + 1)) ⟨a1_0, a1_1⟩).2 from ⟨by rw [hf.1]; simp only; omega, hf.2⟩)
        have c1 : decide (a1_0 < p) = false := decide_eq_false (by omega)
        have c2 : (p == a1_0) = false := beq_eq_false_iff_ne.2 (by omega)
        clear hf h
        go_wp2
        repeat (go_quiet (fail); try go_wp2)
        refine wp_goto ?_
        rw [show ((k : Int) + 1) = ((k + 1 : Nat) : Int) from by omega]
        refine ⟨by trivial, ⟨k + 1, _, _, _, _, _, _, _, _, _, _, _, _, _, _, _, _, _, _, _, _, _, _, _, _, _, _, _, _, _, _, _, _, _, _, _, _, _, _, _, _, _, _, _, _, _, _, _, _, _, _, rfl, by omega, F, Go.Cx.hid (by repeat (first | exact HB.out | apply pw_below_drewN)), x0, x1⟩, ?_⟩
        show l0.length - (intOf (.int .i64 ((k + 1 : Nat) : Int))).toNat < l0.length - (intOf (.int .i64 ((k : Nat) : Int))).toNat
        simp only [intOf]
        omega
    · have hkn : k = l0.length := by omega
      have hkb : ((k : Int) == (l0.length : Int)) = true := beq_iff_eq.2 (by omega)
      have hf := HF.out
      rw [hkn, List.drop_length] at hf
      simp only [fnd] at hf
      have F := Go.Cx.hid (show (fnd l0 ⟨a1_0, a1_1⟩).1 = k ∧ (fnd l0 ⟨a1_0, a1_1⟩).2 = false from ⟨by rw [hf.1]; omega, hf.2⟩)
      clear HF hf hkn
      go_wp2
      repeat (go_quiet (fail); try go_wp2)
      simp only [Exit.jump]
      go_ret2
      rw [F.out.1, F.out.2]
      exact ⟨by simp, by repeat (first | exact HB.out | apply pw_below_drewN)⟩

end Go.Proofs.Ytlcnhamcbakfcaa.Q

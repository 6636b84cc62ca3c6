/- Statements of chapter 1 on readers: CodeFails, CodeLess. -/
import Derived.Test.YteleabfbnlhkkaaReadB
namespace Go.Proofs.Yteleabfbnlhkkaa
open Go.RowKit Go.Cx
set_option linter.unusedVariables false
set_option linter.unusedSimpArgs false

set_option maxRecDepth 100000 in
set_option maxHeartbeats 400000 in
theorem within1_any (a n : Int) (w : World) (hn : 0 < n) (hn2 : n ≤ 1000000000000) :
    Calls Try.prog 18 #[.int .i64 a, .int .i64 n] w fun e w' => e = .returned (.int .i64 (a % n)) ∧ w = w' := by
  have h0 : (n == 0) = false := beq_eq_false_iff_ne.2 (by omega)
  have t1 := Int.tmod_lt_of_pos a hn
  have t2 := Int.lt_tmod_of_pos a hn
  have e := Int.tmod_eq_emod (a := a) (b := n)
  by_cases hs : a.tmod n < 0
  · have E : a % n = a.tmod n + n := by
      rw [e] at hs ⊢
      have := Int.emod_nonneg a (by omega : n ≠ 0)
      have := Int.emod_lt_of_pos a hn
      split at hs <;> split <;> simp_all <;> omega
    have HE := hid E
    clear E e
    go_enter Try.func18, Try.ntmps18
    go_wp2
    go_ret
    rw [HE.out]
    exact ⟨rfl, rfl⟩
  · have E : a % n = a.tmod n := by
      rw [e] at hs ⊢
      have := Int.emod_nonneg a (by omega : n ≠ 0)
      have := Int.emod_lt_of_pos a hn
      split at hs <;> split <;> simp_all <;> omega
    have HE := hid E
    clear E e
    go_enter Try.func18, Try.ntmps18
    go_wp2
    go_ret
    rw [HE.out]
    exact ⟨rfl, rfl⟩



theorem Rd.le {w : World} {p : Nat} {l : List UInt8} {e : Int} (h : Rd w p l e) : l.length ≤ 1000000 := by obtain ⟨a, n, c, h1, h2, h3, h4, h5⟩ := h; omega
theorem er0 (e : Int) : er 0 e = e := by simp [er]
theorem er_ne {e : Int} (h : e ≠ 0) (f : Int) : er e f = e := by simp [er, h]
theorem endOf_ne {e : Int} (h : e ≠ 0) (l : List UInt8) : endOf l e = e := by simp [endOf, h]

/-! ### CodeFails -/
set_option maxRecDepth 100000 in
set_option maxHeartbeats 800000 in
theorem CodeFails_walk (w : World) (a0 : Option Addr) (n0 c0 : Nat) (l0 : List UInt8) (h0 : Sl w 1 a0 n0 c0 (bv l0)) (x : Int) (hx : I64 x) (y : Int) (hy : I64 y) :
    Calls Try.prog 9 #[.slice a0 n0 c0, .int .i64 x, .int .i64 y] w fun e w' => e = .returned (.bool true) ∧ Below w.heap.size w w' := by
  refine Calls.mono (R := True_ w) ?_ (fun e w' h => ⟨h.1, h.2.below0⟩)
  have H0 := hid h0
  have HL := hid (Sl_len h0)
  have HN := fun w => hid (Sl.nil w 1)
  clear h0
  rcases Nat.lt_or_ge 100 n0 with h1 | h1
  · go_enter Try.func9, Try.ntmps9
    go_wp2_with (go_at_call 11; refine (known1_any _).mono ?_; rintro e w1 ⟨rfl, hc1⟩; have C1 := hid hc1; clear hc1)
    go_ret
    exact ⟨rfl, C1.out⟩
  · obtain ⟨E, hE⟩ : ∃ E, E = x % 22 := ⟨_, rfl⟩
    obtain ⟨F, hF⟩ : ∃ F, F = y % 22 := ⟨_, rfl⟩
    have b1 : 0 ≤ E ∧ E ≤ 21 := by omega
    have b2 : 0 ≤ F ∧ F ≤ 21 := by omega
    have bE := b1.1
    have bE2 := b1.2
    have bF := b2.1
    have bF2 := b2.2
    have hne : (1 + E) ≠ 0 := by omega
    have K1 : (0 : Int) < 22 := by omega
    have K2 : (22 : Int) ≤ 1000000000000 := by omega
    have K3 : n0 ≤ 1000000 := by omega
    have hend : (endOf l0 0 == 0) = (decide (n0 = 0)) := by
      have := HL.out
      cases l0 with
      | nil => have h0 : n0 = 0 := this; simp [endOf, h0]
      | cons a l => have h0 : n0 ≠ 0 := by rw [this]; simp
                    simp [endOf, h0]
    have hB : (((n0 : Int) == 0) = decide (n0 = 0)) := by
      by_cases h : n0 = 0
      · subst h; rfl
      · have : ((n0 : Int) == 0) = false := beq_eq_false_iff_ne.2 (by omega)
        rw [this]; simp [h]
    have wE : IntKind.i64.wrap (1 + E) = 1 + E := by rw [IntKind.wrap_i64]; omega
    have wF : IntKind.i64.wrap (1 + F) = 1 + F := by rw [IntKind.wrap_i64]; omega
    have XE := hid hE
    have XF := hid hF
    have NE := hid hne
    have Q1 := hid (er_ne hne (1 + F))
    have Q2 := hid (er_ne hne 8)
    have Q3 := hid (endOf_ne hne l0)
    have Z0 := hid (er0 0)
    have Z1 := hid (er0 (1 + E))
    have Z2 := hid (er0 8)
    have Z3 := hid (er_ne (show (8 : Int) ≠ 0 by decide) (1 + F))
    have Z4 := hid (endOf_ne (show (8 : Int) ≠ 0 by decide) [])
    clear hne hE hF b1 b2
    go_enter Try.func9, Try.ntmps9
    go_wp2_with (first
      | (go_at_call 11; refine (known1_any _).mono ?_; rintro e w1 ⟨rfl, hc1⟩; have C1 := hid hc1; have A1 := hid (H0.out.below hc1.below0); clear hc1)
      | (go_at_call 18; refine (within1_any x 22 _ K1 K2).mono ?_; rintro e w2 ⟨rfl, rfl⟩; rw [← XE.out]; have K1' := K1; clear K1)
      | (go_at_call 18; refine (within1_any y 22 _ K1' K2).mono ?_; rintro e w2 ⟨rfl, rfl⟩; rw [← XF.out])
      | (go_at_call 19; refine (new1_any a0 n0 c0 l0 w1 A1.out K3).mono ?_; rintro e w2 ⟨p, rfl, hr, hp, hc⟩; have R2 := hid hr; have PP := hid (Nat.le_trans C1.out.size hp); have C2 := hid (C1.out.f hc); clear hr hc hp A1 C1)
      | (go_at_call 28; refine (fail_any p l0 0 0 _ R2.out).mono ?_; rintro e w3 ⟨rfl, hr, hc⟩; rw [Z0.out] at hr; have R3 := hid hr; have C3 := hid (C2.out.far1 hc PP.out); clear hr hc R2 C2)
      | (go_at_call 22; refine (end_any p l0 0 w3 R3.out).mono ?_; rintro e w4 ⟨rfl, rfl⟩)
      | (go_at_call 28; refine (fail_any p l0 0 (1 + E) _ R3.out).mono ?_; rintro e w5 ⟨rfl, hr, hc⟩; rw [Z1.out] at hr; have R5 := hid hr; have C5 := hid (C3.out.far1 hc PP.out); clear hr hc R3 C3)
      | (go_at_call 28; refine (fail_any p l0 (1 + E) (1 + F) _ R5.out).mono ?_; rintro e w6 ⟨rfl, hr, hc⟩; rw [Q1.out] at hr; have R6 := hid hr; have C6 := hid (C5.out.far1 hc PP.out); clear hr hc R5 C5)
      | (go_at_call 20; refine (rint_bad p l0 (1 + E) _ R6.out (.inl NE.out)).mono ?_; rintro e w7 ⟨rfl, hr, hc⟩; rw [Q2.out] at hr; have R7 := hid hr; have C7 := hid (C6.out.far1 hc PP.out); clear hr hc R6 C6)
      | (go_at_call 23; refine (rtext_bad p l0 (1 + E) _ R7.out (.inl NE.out)).mono ?_; rintro e w8 ⟨rfl, hr, hc⟩; rw [Q2.out] at hr; have R8 := hid hr; have C8 := hid (C7.out.far1 hc PP.out); clear hr hc R7 C7)
      | (go_at_call 21; refine (rbyte_bad p l0 (1 + E) _ R8.out (.inl NE.out)).mono ?_; rintro e w9 ⟨rfl, hr, hc⟩; rw [Q2.out] at hr; have R9 := hid hr; have C9 := hid (C8.out.far1 hc PP.out); clear hr hc R8 C8)
      | (go_at_call 19; refine (new1_any none 0 0 [] w9 (HN _).out (Nat.zero_le _)).mono ?_; rintro e v1 ⟨q, rfl, hr, hp, hc⟩; have V1 := hid hr; have QQ := hid (Nat.le_trans C9.out.size hp); have QP := hid hp; have D1 := hid hc; have C10 := hid (C9.out.f hc); clear hr hc hp C9)
      | (go_at_call 20; refine (rint_bad q [] 0 _ V1.out (.inr (by simp))).mono ?_; rintro e v2 ⟨rfl, hr, hc⟩; rw [Z2.out] at hr; have V2 := hid hr; have D2 := hid (D1.out.far1 hc QP.out); have C11 := hid (C10.out.far1 hc QQ.out); clear hr hc V1 D1 C10)
      | (go_at_call 28; refine (fail_any q [] 8 (1 + F) _ V2.out).mono ?_; rintro e v3 ⟨rfl, hr, hc⟩; rw [Z3.out] at hr; have V3 := hid hr; have D3 := hid (R9.out.f (D2.out.far1 hc QP.out)); have C12 := hid (C11.out.far1 hc QQ.out); clear hr hc V2 D2 C11)
      | (go_at_call 22; refine (end_any p l0 (1 + E) v3 D3.out).mono ?_; rw [Q3.out]; rintro e v4 ⟨rfl, rfl⟩; clear D3)
      | (go_at_call 22; refine (end_any q [] 8 v3 V3.out).mono ?_; rw [Z4.out]; rintro e v5 ⟨rfl, rfl⟩))
    go_ret
    exact ⟨by simp, C12.out⟩
end Go.Proofs.Yteleabfbnlhkkaa

/- Readers, every case in one contract; how what was written is read. -/
import Derived.Test.YtpcgamgjgfdpaaaL8
namespace Go.Proofs.Ytpcgamgjgfdpaaa
namespace Cd
open Go.RowKit Go.Cx
set_option linter.unusedVariables false
set_option linter.unusedSimpArgs false

def rdB (l : List UInt8) (e : Int) : Int × List UInt8 × Int := if e = 0 then (match l with | b :: t => ((b.toNat : Int), t, 0) | [] => (0, [], 8)) else (0, l, e)
def rdI (l : List UInt8) (e : Int) : Int × List UInt8 × Int := if e = 0 then (if 8 ≤ l.length then (wrap64 (leNum (l.take 8) : Nat), l.drop 8, 0) else (0, l, 8)) else (0, l, e)
def rdT (l : List UInt8) (e : Int) : List UInt8 × List UInt8 × Int :=
  if e = 0 then (if 2 ≤ l.length then (if leNum (l.take 2) ≤ (l.drop 2).length then ((l.drop 2).take (leNum (l.take 2)), (l.drop 2).drop (leNum (l.take 2)), 0) else ([], l.drop 2, 8)) else ([], l, 8)) else ([], l, e)
theorem er_bad {e : Int} (h : e ≠ 0) (x : Int) : er e x = e := if_neg h
def RdPost (w : World) (p : Nat) (v : Value) (l : List UInt8) (e : Int) (en : Ending) (w' : World) : Prop := en = .returned v ∧ Rd w' p l e ∧ Ch (fun k => k = p) w w'
theorem pbyte_any (p : Nat) (l : List UInt8) (e : Int) (w : World) (h : Rd w p l e) : Calls Try.prog 30 #[.pointer (some ⟨p, 0, none⟩)] w (RdPost w p (.int .i64 (rdB l e).1) (rdB l e).2.1 (rdB l e).2.2) := by
  by_cases he : e = 0
  · subst he
    cases l with
    | nil => exact rbyte_bad p [] 0 w h (.inr (by simp))
    | cons b t => exact rbyte_ok p b t w h
  · have := rbyte_bad p l e w h (.inl he)
    unfold rdB
    rw [if_neg he]
    unfold NumBad at this
    rw [er_bad he] at this
    exact this
theorem pint_any (p : Nat) (l : List UInt8) (e : Int) (w : World) (h : Rd w p l e) : Calls Try.prog 31 #[.pointer (some ⟨p, 0, none⟩)] w (RdPost w p (.int .i64 (rdI l e).1) (rdI l e).2.1 (rdI l e).2.2) := by
  by_cases he : e = 0
  · subst he
    unfold rdI
    rw [if_pos rfl]
    by_cases h8 : 8 ≤ l.length
    · rw [if_pos h8]; exact rint_ok p l w h h8
    · rw [if_neg h8]; exact rint_bad p l 0 w h (.inr (by omega))
  · have := rint_bad p l e w h (.inl he)
    unfold rdI
    rw [if_neg he]
    unfold NumBad at this
    rw [er_bad he] at this
    exact this
theorem ptext_any (p : Nat) (l : List UInt8) (e : Int) (w : World) (h : Rd w p l e) : Calls Try.prog 32 #[.pointer (some ⟨p, 0, none⟩)] w (RdPost w p (.string (str (rdT l e).1)) (rdT l e).2.1 (rdT l e).2.2) := by
  by_cases he : e = 0
  · subst he
    unfold rdT
    rw [if_pos rfl]
    by_cases h2 : 2 ≤ l.length
    · rw [if_pos h2]
      by_cases hk : leNum (l.take 2) ≤ (l.drop 2).length
      · rw [if_pos hk]; exact rtext_ok p l w h _ h2 rfl hk
      · rw [if_neg hk]; exact rtext_cut p l w h _ h2 rfl (by omega)
    · rw [if_neg h2]; exact rtext_bad p l 0 w h (.inr (by omega))
  · have := rtext_bad p l e w h (.inl he)
    unfold rdT
    rw [if_neg he]
    rw [er_bad he] at this
    exact this

/-! The document's reader. -/
def RX (w : World) (q : Nat) (a : Option Addr) (n c : Nat) (L l : List UInt8) (e : Int) : Prop := ∃ P, P ≤ n ∧ L.drop P = l ∧ RC w q a n c P e
def RXPost (w : World) (q : Nat) (a : Option Addr) (n c : Nat) (L : List UInt8) (v : Value) (l : List UInt8) (e : Int) (en : Ending) (w' : World) : Prop := en = .returned v ∧ RX w' q a n c L l e ∧ Ch (fun k => k = q) w w'
theorem RX.ch {S : Nat → Prop} {w w' : World} {q : Nat} {a : Option Addr} {n c : Nat} {L l : List UInt8} {e : Int} (h : RX w q a n c L l e) (hc : Ch S w w') (hs : ¬ S q) : RX w' q a n c L l e := by
  obtain ⟨P, h1, h2, h3⟩ := h
  exact ⟨P, h1, h2, hc.heap h3 hs⟩
theorem RX.err {w : World} {q : Nat} {a : Option Addr} {n c : Nat} {L l : List UInt8} {e : Int} (h : RX w q a n c L l e) : w.cell? ⟨q, 2, none⟩ = some (.int .i64 e) := by
  obtain ⟨P, h1, h2, h3⟩ := h
  exact cell_blk h3 2
theorem xb_any (q : Nat) (a : Option Addr) (n c : Nat) (L l : List UInt8) (e : Int) (w : World) (h : RX w q a n c L l e) (hn : n ≤ 1000000) (hL : n = L.length) (hS : ∀ w', Ch (fun k => k = q) w w' → Sl w' 1 a n c (bv L)) :
    Calls Try.prog 44 #[.pointer (some ⟨q, 0, none⟩)] w (RXPost w q a n c L (.int .i64 (rdB l e).1) (rdB l e).2.1 (rdB l e).2.2) := by
  obtain ⟨P, hP, hl, hr⟩ := h
  have hlen : l.length = n - P := by rw [← hl, List.length_drop, hL]
  by_cases he : e = 0
  · subst he
    cases l with
    | nil =>
      refine (xbyte_bad q a n c P 0 w hr hP hn (.inr (by simp at hlen; omega))).mono ?_
      rintro en w' ⟨rfl, h1, h2⟩
      exact ⟨rfl, ⟨P, hP, hl, h1⟩, h2⟩
    | cons b t =>
      simp only [List.length_cons] at hlen
      refine (xbyte_ok q a n c P L b t w hr hn (by omega) hl hS).mono ?_
      rintro en w' ⟨rfl, h1, h2⟩
      exact ⟨rfl, ⟨P + 1, by omega, by rw [← List.drop_drop, hl]; rfl, h1⟩, h2⟩
  · refine (xbyte_bad q a n c P e w hr hP hn (.inl he)).mono ?_
    rintro en w' ⟨rfl, h1, h2⟩
    rw [er_bad he] at h1
    unfold rdB
    rw [if_neg he]
    exact ⟨rfl, ⟨P, hP, hl, h1⟩, h2⟩
theorem xi_any (q : Nat) (a : Option Addr) (n c : Nat) (L l : List UInt8) (e : Int) (w : World) (h : RX w q a n c L l e) (hn : n ≤ 1000000) (hL : n = L.length) (hS : ∀ w', Ch (fun k => k = q) w w' → Sl w' 1 a n c (bv L)) :
    Calls Try.prog 46 #[.pointer (some ⟨q, 0, none⟩)] w (RXPost w q a n c L (.int .i64 (rdI l e).1) (rdI l e).2.1 (rdI l e).2.2) := by
  obtain ⟨P, hP, hl, hr⟩ := h
  have hlen : l.length = n - P := by rw [← hl, List.length_drop, hL]
  unfold rdI
  by_cases he : e = 0
  · subst he
    rw [if_pos rfl]
    by_cases h8 : 8 ≤ l.length
    · rw [if_pos h8]
      refine (xint_ok q a n c P L w hr hn hL (by omega) hS).mono ?_
      rintro en w' ⟨rfl, h1, h2⟩
      exact ⟨by rw [hl], ⟨P + 8, by omega, by rw [← List.drop_drop, hl], h1⟩, h2⟩
    · rw [if_neg h8]
      refine (xint_bad q a n c P 0 w hr hP hn (.inr (by omega))).mono ?_
      rintro en w' ⟨rfl, h1, h2⟩
      exact ⟨rfl, ⟨P, hP, hl, h1⟩, h2⟩
  · rw [if_neg he]
    refine (xint_bad q a n c P e w hr hP hn (.inl he)).mono ?_
    rintro en w' ⟨rfl, h1, h2⟩
    rw [er_bad he] at h1
    exact ⟨rfl, ⟨P, hP, hl, h1⟩, h2⟩
theorem xt_any (q : Nat) (a : Option Addr) (n c : Nat) (L l : List UInt8) (e : Int) (w : World) (h : RX w q a n c L l e) (hn : n ≤ 1000000) (hL : n = L.length) (hS : ∀ w', Ch (fun k => k = q) w w' → Sl w' 1 a n c (bv L)) :
    Calls Try.prog 47 #[.pointer (some ⟨q, 0, none⟩)] w (RXPost w q a n c L (.string (str (rdT l e).1)) (rdT l e).2.1 (rdT l e).2.2) := by
  obtain ⟨P, hP, hl, hr⟩ := h
  have hlen : l.length = n - P := by rw [← hl, List.length_drop, hL]
  unfold rdT
  by_cases he : e = 0
  · subst he
    rw [if_pos rfl]
    by_cases h2 : 2 ≤ l.length
    · rw [if_pos h2]
      match l, h2 with
      | b0 :: b1 :: r, _ =>
        have ek : leNum ((b0 :: b1 :: r).take 2) = b0.toNat + 256 * b1.toNat := by simp [leNum]
        have er2 : (b0 :: b1 :: r).drop 2 = r := rfl
        simp only [List.length_cons] at hlen
        rw [ek, er2]
        by_cases hk : b0.toNat + 256 * b1.toNat ≤ r.length
        · rw [if_pos hk]
          refine (xtext_ok q a n c P L b0 b1 r _ w hr hn hL (by omega) hl rfl (by omega) hS).mono ?_
          rintro en w' ⟨rfl, h1, h2⟩
          have e2 : L.drop (P + 2) = r := by rw [← List.drop_drop, hl]; rfl
          exact ⟨by rw [e2], ⟨_, by omega, by rw [← List.drop_drop, e2], h1⟩, h2⟩
        · rw [if_neg hk]
          refine (xtext_cut q a n c P L b0 b1 r _ w hr hn hL (by omega) hl rfl (by omega) hS).mono ?_
          rintro en w' ⟨rfl, h1, h2⟩
          exact ⟨rfl, ⟨P + 2, by omega, by rw [← List.drop_drop, hl]; rfl, h1⟩, h2⟩
    · rw [if_neg h2]
      refine (xtext_bad q a n c P 0 w hr hP hn (.inr (by omega))).mono ?_
      rintro en w' ⟨rfl, h1, h2⟩
      exact ⟨rfl, ⟨P, hP, hl, h1⟩, h2⟩
  · rw [if_neg he]
    refine (xtext_bad q a n c P e w hr hP hn (.inl he)).mono ?_
    rintro en w' ⟨rfl, h1, h2⟩
    rw [er_bad he] at h1
    exact ⟨rfl, ⟨P, hP, hl, h1⟩, h2⟩
theorem xe_any (q : Nat) (a : Option Addr) (n c : Nat) (L l : List UInt8) (e : Int) (w : World) (h : RX w q a n c L l e) (hL : n = L.length) :
    Calls Try.prog 48 #[.pointer (some ⟨q, 0, none⟩)] w (RXPost w q a n c L (.int .i64 (endOf l e)) l e) := by
  obtain ⟨P, hP, hl, hr⟩ := h
  refine (xend_any q a n c P e L w hr hL).mono ?_
  rintro en w' ⟨rfl, h1, h2⟩
  exact ⟨by rw [hl], ⟨P, hP, hl, h1⟩, h2⟩
theorem xf_any (q : Nat) (a : Option Addr) (n c : Nat) (L l : List UInt8) (e e' : Int) (w : World) (h : RX w q a n c L l e) :
    Calls Try.prog 45 #[.pointer (some ⟨q, 0, none⟩), .int .i64 e'] w (RXPost w q a n c L (.tuple #[]) l (er e e')) := by
  obtain ⟨P, hP, hl, hr⟩ := h
  refine (xfail_any q a n c P e e' w hr).mono ?_
  rintro en w' ⟨rfl, h1, h2⟩
  exact ⟨rfl, ⟨P, hP, hl, h1⟩, h2⟩

/-! ### What was written is read -/
theorem by8_toNat (x : Int) (i : Nat) : (by8 x i).toNat = (x % 18446744073709551616).toNat / 2 ^ (8 * i) % 256 := by
  have h := u8of_val (IntKind.u64.wrap x / 2 ^ (8 * i))
  have e : IntKind.u64.wrap x = ((x % 18446744073709551616).toNat : Int) := by
    rw [IntKind.wrap_u64]
    have := Int.emod_nonneg x (by omega : (18446744073709551616 : Int) ≠ 0)
    omega
  unfold by8
  rw [e] at h ⊢
  generalize (x % 18446744073709551616).toNat = u at h ⊢
  have e2 : ((u : Int) / 2 ^ (8 * i)) % 256 = ((u / 2 ^ (8 * i) % 256 : Nat) : Int) := by
    rw [Int.natCast_emod, Int.natCast_ediv, Int.natCast_pow]; rfl
  rw [e2] at h
  exact Int.ofNat_inj.1 h
theorem leNum_upto (x : Int) (i : Nat) : leNum (upto x i) = (x % 18446744073709551616).toNat % 2 ^ (8 * i) := by
  induction i with
  | zero => simp [upto, leNum, Nat.mod_one]
  | succ i ih =>
    rw [upto_succ, leNum_snoc, ih, upto_length, by8_toNat, show 8 * (i + 1) = 8 * i + 8 by omega, Nat.pow_add, Nat.mod_mul]
theorem le8_back (x : Int) (h : I64 x) : wrap64 (leNum (le8 x) : Nat) = x := by
  unfold le8
  rw [leNum_upto]
  have : (2 : Nat) ^ (8 * 8) = 18446744073709551616 := by decide
  rw [this]
  obtain ⟨h1, h2⟩ := h
  unfold wrap64
  omega
theorem rdB_back (x : Int) (h0 : 0 ≤ x) (h1 : x ≤ 255) (X : List UInt8) : rdB ([u8of x] ++ X) 0 = (x, X, 0) := by
  have := u8of_val x
  unfold rdB
  rw [if_pos rfl]
  simp only [List.singleton_append]
  rw [this, Int.emod_eq_of_lt h0 (by omega)]
theorem rdI_back (x : Int) (h : I64 x) (X : List UInt8) : rdI (le8 x ++ X) 0 = (x, X, 0) := by
  unfold rdI
  rw [if_pos rfl, if_pos (by rw [List.length_append, le8_length]; omega), List.take_left' (le8_length x), List.drop_left' (le8_length x), le8_back x h]
theorem rdT_back (s : List UInt8) (h : s.length ≤ 65535) (X : List UInt8) : rdT (txt s ++ X) 0 = (s, X, 0) := by
  have hm : (min s.length 65535 : Nat) = s.length := by omega
  have ht : txt s = [u8of (s.length : Nat), u8of ((s.length : Nat) / 256 : Int)] ++ s := by unfold txt; rw [hm, List.take_of_length_le h]
  have h0 := u8of_val (s.length : Nat)
  have h1 := u8of_val ((s.length : Nat) / 256 : Int)
  have ek : leNum ((txt s ++ X).take 2) = s.length := by
    rw [ht]
    simp only [List.append_assoc, List.cons_append, List.nil_append, List.take_succ_cons, List.take_zero, leNum]
    omega
  have e2 : (txt s ++ X).drop 2 = s ++ X := by rw [ht]; rfl
  have el : 2 ≤ (txt s ++ X).length := by rw [ht]; simp
  unfold rdT
  rw [if_pos rfl, if_pos el, ek, e2, if_pos (by rw [List.length_append]; omega), List.take_left' rfl, List.drop_left' rfl]
end Cd
end Go.Proofs.Ytpcgamgjgfdpaaa

/- Chapter 8: what was printed, and what was walked by hand, beside one another; op.Check in plain words; what was written is read. -/
import Derived.Test.YtpcgamgjgfdpaaaQ8
import Derived.Test.YtpcgamgjgfdpaaaL8R
import Derived.Test.YtpcgamgjgfdpaaaL8S
import Derived.Test.YtpcgamgjgfdpaaaL8T
import Derived.Test.YtpcgamgjgfdpaaaL8K
namespace Go.Proofs.Ytpcgamgjgfdpaaa
namespace Cd
open Go.RowKit Go.Cx Go.OpM Go.Proofs.Ytpcgamgjgfdpaaa.Q Go.Proofs.YtpcgamgjgfdpaaaW.PrintWords Go.Proofs.YtpcgamgjgfdpaaaW.PrintLast Go.Proofs.YtpcgamgjgfdpaaaW.PrintMore
set_option linter.unusedVariables false
set_option linter.unusedSimpArgs false

def sO (x : O3) : S34 := ⟨x.k, x.n, str x.s⟩
def oS (x : S34) : O3 := ⟨x.f0, x.f1, x.f2.toList⟩
theorem oS_sO (x : O3) : oS (sO x) = x := by unfold oS sO; simp only [str_toList]
theorem sO_oS (x : S34) : sO (oS x) = x := by
  obtain ⟨a, b, c⟩ := x
  obtain ⟨l, rfl⟩ := str_of c
  unfold oS sO
  simp only [str_toList]
theorem map_sO_oS (l : List S34) : (l.map oS).map sO = l := by
  rw [List.map_map]
  exact (List.map_congr_left fun c _ => sO_oS c).trans (List.map_id _)
theorem map_oS_sO (l : List O3) : (l.map sO).map oS = l := by
  rw [List.map_map]
  exact (List.map_congr_left fun c _ => oS_sO c).trans (List.map_id _)
theorem encs_es (l : List O3) : encs3 (l.map sO) = es l := by
  unfold encs3 es
  rw [List.flatMap_map]
  rfl
theorem opsC {w : World} {A : Option Addr} {n : Nat} {l : List O3} (h : OpsAt w A n l) (hn : n ≤ 9223372036854775807) : Kd.C k34 w A (l.map sO).length (l.map sO) := by
  have hl := h.1
  refine ⟨rfl, by rw [List.length_map]; omega, fun h0 => ?_⟩
  rw [List.length_map] at h0
  obtain ⟨b, rfl⟩ := h.2.1 (by omega)
  refine ⟨b, rfl, fun j p hj => ?_⟩
  rw [List.getElem?_map] at hj
  obtain ⟨x, hx, rfl⟩ := Option.map_eq_some_iff.1 hj
  obtain ⟨h1, h2, h3⟩ := es_at l j x hx
  refine ⟨[.int .i64 x.k, .int .i64 x.n, .string (str x.s)], rfl, k34_mk w (sO x), fun i u hu => ?_⟩
  match i, hu with
  | 0, hu => simp at hu; subst hu; exact h.2.2 b rfl _ _ h1
  | 1, hu => simp at hu; subst hu; exact h.2.2 b rfl _ _ h2
  | 2, hu => simp at hu; subst hu; exact h.2.2 b rfl _ _ h3
  | i + 3, hu => simp at hu
theorem opsO {w : World} {A : Option Addr} {l : List S34} (h : Kd.C k34 w A l.length l) : OpsAt w A l.length (l.map oS) := by
  refine ⟨by rw [List.length_map], fun h0 => ?_, fun b hb j u hu => ?_⟩
  · obtain ⟨ad, e, _⟩ := h.2.2 h0
    exact ⟨ad, e⟩
  · refine cells3 h b hb j u ?_
    rw [← encs_es, map_sO_oS] at hu
    exact hu

/-! ### Check -/
def chkO (l : List O3) : Int := if l.length > 40 then 4 else ((l.map fun c => chk c.k c.n c.s).find? (· ≠ 0)).getD 0
theorem chk_map (l : List O3) : ((l.map sO).map fun c => chk c.f0 c.f1 c.f2.toList) = l.map fun c => chk c.k c.n c.s := by
  rw [List.map_map]
  refine List.map_congr_left fun c _ => ?_
  show chk c.k c.n (str c.s).toList = _
  rw [str_toList]
theorem chk_p : Chk 28 chkO := by
  intro w a n c l h hc hn
  have hl := h.1
  have e := check_eq (l.map sO) 400 (by rw [List.length_map]; omega) (by rw [List.length_map]; omega)
  rw [chk_map, List.length_map] at e
  have := op_Check.calls 400 a c (l.map sO) (chkO l) w (opsC h (by omega)) (by rw [List.length_map]; omega) e
  rw [List.length_map, hl] at this
  exact this.mono (fun e w' h => ⟨h.1, Ch.of_below h.2⟩)
theorem rcheck_val (k : Nat) (hk : 2 ≤ k) (K N : Int) (S : ByteArray) : comitiaref4_check.f k K N S = some (chk K N S.toList) := by
  obtain ⟨k, rfl⟩ : ∃ m, k = m + 2 := ⟨k - 2, by omega⟩
  have hs : (S.toList == []) = decide (S.toList = []) := by rw [Bool.eq_iff_iff]; simp
  unfold comitiaref4_check.f chk
  by_cases h1 : K = 1
  · subst h1
    simp only [comitiaref4_check.j0, size_toList]
    by_cases a : N < 1
    · simp [a]
    · by_cases b : N > 120
      · simp [a, b]
      · by_cases c : S.toList = []
        · simp [a, b, c]
        · simp [a, b, c]
  · by_cases h3 : K = 3
    · subst h3
      simp only [comitiaref4_check.j0, size_toList]
      by_cases a : N < 1
      · simp [a]
      · by_cases b : N > 120
        · simp [a, b]
        · by_cases c : S.toList = []
          · simp [a, b, c]
          · simp [a, b, c]
    · by_cases h2 : K = 2
      · subst h2
        simp only [comitiaref4_check.j0, comitiaref4_check.j1, size_toList, hs]
        by_cases a : N = 0
        · by_cases c : S.toList = []
          · simp [a, c]
          · by_cases d : S.toList.length > 120
            · have : (S.toList.length : Int) > 120 := by omega
              simp [a, c, d, this]
            · have : ¬ (S.toList.length : Int) > 120 := by omega
              simp [a, c, d, this]
        · simp [a]
      · simp only [comitiaref4_check.j0]
        simp [h1, h2, h3]
theorem rcheck_loop (l s : List S34) : ∀ (p : List S34) (k : Nat), l = p ++ s → l.length ≤ 1000000000000 → s.length + 3 ≤ k →
    comitiaref4_Check.l0 k l (p.length : Int) = some ((s.map fun c => chk c.f0 c.f1 c.f2.toList).find? (· ≠ 0) |>.getD 0) := by
  induction s with
  | nil =>
    intro p k hl h0 hk
    obtain ⟨k, rfl⟩ : ∃ m, k = m + 1 := ⟨k - 1, by omega⟩
    have hpl : p.length = l.length := by rw [hl]; simp
    simp only [comitiaref4_Check.l0]
    rw [if_neg (by omega)]
    rfl
  | cons c s ih =>
    intro p k hl h0 hk
    obtain ⟨k, rfl⟩ : ∃ m, k = m + 1 := ⟨k - 1, by omega⟩
    have hpl : p.length < l.length := by rw [hl]; simp
    have hrd : rd_T34 l (p.length : Int) = c := by rw [hl]; exact rd_mid p c s
    simp only [List.length_cons] at hk
    simp only [comitiaref4_Check.l0]
    rw [if_pos (by omega), if_pos (by omega), hrd, rcheck_val k (by omega), w_succ _ (by omega)]
    simp only [Option.bind_some]
    by_cases hc : chk c.f0 c.f1 c.f2.toList = 0
    · rw [if_pos hc]
      have := ih (p ++ [c]) k (by simp [hl]) h0 (by omega)
      have e : (p ++ [c]).length = p.length + 1 := by simp
      rw [e] at this
      rw [this]
      simp [hc]
    · rw [if_neg hc]
      simp [hc]
theorem rcheck_eq (l : List S34) (k : Nat) (hk : l.length + 3 ≤ k) (h0 : l.length ≤ 1000000) : comitiaref4_Check.f k l = some (if l.length > 40 then 4 else ((l.map fun c => chk c.f0 c.f1 c.f2.toList).find? (· ≠ 0)).getD 0) := by
  unfold comitiaref4_Check.f
  by_cases h : l.length > 40
  · rw [if_pos (by omega), if_pos h]
  · rw [if_neg (by omega), if_neg h]
    exact rcheck_loop l l [] k rfl (by omega) hk
theorem chk_x : Chk 49 chkO := by
  intro w a n c l h hc hn
  have hl := h.1
  have e := rcheck_eq (l.map sO) 400 (by rw [List.length_map]; omega) (by rw [List.length_map]; omega)
  rw [chk_map, List.length_map] at e
  have := comitiaref4_Check.calls 400 a c (l.map sO) (chkO l) w (opsC h (by omega)) (by rw [List.length_map]; omega) e
  rw [List.length_map, hl] at this
  exact this.mono (fun e w' h => ⟨h.1, Ch.of_below h.2⟩)

/-! ### What was written is read -/
theorem rdN_back : ∀ (l : List O3) (X : List UInt8), (∀ x ∈ l, 0 ≤ x.k ∧ x.k ≤ 255 ∧ I64 x.n ∧ x.s.length ≤ 65535) → rdN l.length (l.flatMap cB ++ X) 0 = (l, X, 0)
  | [], X, h => rfl
  | x :: l, X, h => by
    obtain ⟨h1, h2, h3, h4⟩ := h x (List.mem_cons_self ..)
    have ih := rdN_back l X (fun y hy => h y (List.mem_cons_of_mem _ hy))
    have e : (x :: l).flatMap cB ++ X = [u8of x.k] ++ (le8 x.n ++ (txt x.s ++ (l.flatMap cB ++ X))) := by simp [cB]
    have ec : rdC ((x :: l).flatMap cB ++ X) 0 = (x, l.flatMap cB ++ X, 0) := by
      unfold rdC
      rw [e, rdB_back x.k h1 h2, rdI_back x.n h3, rdT_back x.s h4]
    rw [List.length_cons]
    simp only [rdN]
    rw [ec]
    simp only
    rw [ih]
theorem parse_back (l : List O3) (hl : l.length ≤ 40) (h : ∀ x ∈ l, 0 ≤ x.k ∧ x.k ≤ 255 ∧ I64 x.n ∧ x.s.length ≤ 65535) (hc : chkO l = 0) : parse chkO (oB l) = (l, 0) := by
  have e : rdB (oB l) 0 = (((l.length : Nat) : Int), l.flatMap cB, 0) := rdB_back (l.length : Nat) (by omega) (by omega) _
  have e2 := rdN_back l [] h
  rw [List.append_nil] at e2
  unfold parse
  rw [e]
  simp only
  rw [if_neg (by omega), Int.toNat_natCast, e2]
  unfold fin
  simp only
  rw [if_pos (by simp [endOf]), if_pos hc]
theorem parse_many (l : List O3) (h0 : 40 < l.length) (h1 : l.length ≤ 255) : parse chkO (oB l) = ([], 4) := by
  have e : rdB (oB l) 0 = (((l.length : Nat) : Int), l.flatMap cB, 0) := rdB_back (l.length : Nat) (by omega) (by omega) _
  unfold parse
  rw [e]
  simp only
  rw [if_pos (by omega)]
theorem find_none (l : List Int) (h : ∀ x ∈ l, x = 0) : (l.find? (· ≠ 0)).getD 0 = 0 := by
  rw [List.find?_eq_none.2 (fun x hx => by simp [h x hx])]
  rfl
theorem chkO_ok (l : List O3) (hl : l.length ≤ 40) (h : ∀ x ∈ l, chk x.k x.n x.s = 0) : chkO l = 0 := by
  unfold chkO
  rw [if_neg (by omega)]
  exact find_none _ (fun z hz => by
    obtain ⟨x, hx, rfl⟩ := List.mem_map.1 hz
    exact h x hx)

/-! ### Few -/
theorem few_loop (l s : List S34) : ∀ (p : List S34) (k : Nat), l = p ++ s → l.length ≤ 9223372036854775807 → s.length + 1 ≤ k →
    comitialaw4_Few.l0 k l (p.length : Int) = some ((s.all fun c => decide (c.f2.size ≤ 150)) && decide (l.length ≤ 50)) := by
  induction s with
  | nil =>
    intro p k hl h0 hk
    obtain ⟨k, rfl⟩ : ∃ m, k = m + 1 := ⟨k - 1, by omega⟩
    have hpl : p.length = l.length := by rw [hl]; simp
    simp only [comitialaw4_Few.l0]
    rw [if_neg (by omega)]
    simp
    omega
  | cons c s ih =>
    intro p k hl h0 hk
    obtain ⟨k, rfl⟩ : ∃ m, k = m + 1 := ⟨k - 1, by omega⟩
    have hpl : p.length < l.length := by rw [hl]; simp
    have hrd : rd_T34 l (p.length : Int) = c := by rw [hl]; exact rd_mid p c s
    simp only [List.length_cons] at hk
    simp only [comitialaw4_Few.l0]
    rw [if_pos (by omega), if_pos (by omega), hrd, show wrap64 ((p.length : Int) + 1) = ((p.length + 1 : Nat) : Int) by rw [w64 (by omega) (by omega)]; simp]
    by_cases hc : c.f2.size ≤ 150
    · rw [if_neg (by omega)]
      have := ih (p ++ [c]) k (by simp [hl]) h0 (by omega)
      have e : (p ++ [c]).length = p.length + 1 := by simp
      rw [e] at this
      rw [this]
      simp [hc]
    · rw [if_pos (by omega)]
      simp [hc]
theorem few_eq (l : List S34) (k : Nat) (h0 : l.length ≤ 9223372036854775807) (hk : l.length + 1 ≤ k) : comitialaw4_Few.f k l = some ((l.all fun c => decide (c.f2.size ≤ 150)) && decide (l.length ≤ 50)) :=
  few_loop l l [] k rfl h0 hk
end Cd
end Go.Proofs.Ytpcgamgjgfdpaaa

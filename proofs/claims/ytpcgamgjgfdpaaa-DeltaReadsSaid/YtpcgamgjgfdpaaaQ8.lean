/- The raw maker of operations, op.Check, the reference's Same in plain words, for chapter 8. Merged by cut8q.py. -/
import Derived.Test.YtpcgamgjgfdpaaaQxcm
import Derived.Test.YtpcgamgjgfdpaaaQxcomitialaw4Make
import Derived.Test.YtpcgamgjgfdpaaaQxopCheck
import Derived.Test.YtpcgamgjgfdpaaaQxcomitiaref4Same
import Derived.Test.YtpcgamgjgfdpaaaQxcomitialaw4Few
import Derived.Test.YtpcgamgjgfdpaaaQxcomitiaref4Check
import Derived.Test.YtpcgamgjgfdpaaaQxcomitialaw8within
namespace Go.Proofs.Ytpcgamgjgfdpaaa.Q
open Go.OpM Go.RowKit Go.Cx Go.Proofs.YtpcgamgjgfdpaaaW.PrintWords Go.Proofs.YtpcgamgjgfdpaaaW.PrintLast Go.Proofs.YtpcgamgjgfdpaaaW.PrintMore
set_option linter.unusedVariables false
set_option linter.unusedSimpArgs false

theorem w64 {x : Int} (h0 : -9223372036854775808 ≤ x) (h1 : x ≤ 9223372036854775807) : wrap64 x = x := by unfold wrap64; omega
theorem rd_mid (p : List S34) (c : S34) (s : List S34) : rd_T34 (p ++ c :: s) (p.length : Int) = c := by
  simp [rd_T34, List.getD_eq_getElem?_getD]
theorem ba_app (a b : List UInt8) : (⟨a.toArray⟩ : ByteArray) ++ ⟨b.toArray⟩ = ⟨(a ++ b).toArray⟩ := by
  apply ByteArray.ext
  simp [ByteArray.data_append]
theorem ba_size (a : List UInt8) : (⟨a.toArray⟩ : ByteArray).size = a.length := by simp [ByteArray.size]
theorem ba_list (a : List UInt8) : (⟨a.toArray⟩ : ByteArray).toList = a := ByteArray.toList_mk a
theorem scs_append (a b : List Cm) : scs (a ++ b) = scs a ++ scs b := by simp [scs]
theorem scs_length (a : List Cm) : (scs a).length = a.length := by simp [scs]
theorem cms_append (a b : List S34) : cms (a ++ b) = cms a ++ cms b := by simp [cms]
theorem cms_length (a : List S34) : (cms a).length = a.length := by simp [cms]
theorem scs_inj {a b : List Cm} (h : scs a = scs b) : a = b := by rw [← cms_scs a, ← cms_scs b, h]
theorem cms_inj {a b : List S34} (h : cms a = cms b) : a = b := by rw [← scs_cms a, ← scs_cms b, h]

theorem kp_len (k : Nat) : (kp k).length ≤ 1 := by unfold kp; split <;> simp
/-- Weights. -/
theorem ok_len {c : Cm} (h : c.ok) : 1 ≤ c.at_.length := by
  rcases Cm.cases h with ⟨n, hn, rfl⟩ | ⟨s, hs, rfl⟩ | ⟨n, hn, rfl⟩
  · simp [keeps]; omega
  · simp only [at_put, puts, List.length_map]; exact List.length_pos_iff.2 hs
  · simp [cuts]; omega
theorem at_len (x : List A) : x.length ≤ ins x + outs x := by
  induction x with
  | nil => simp
  | cons a x ih => cases a <;> simp [ins, outs] <;> omega
theorem ins_le (x : List A) : ins x ≤ x.length := by
  induction x with
  | nil => simp [ins]
  | cons a x ih => cases a <;> simp [ins] <;> omega
theorem outs_le (x : List A) : outs x ≤ x.length := by
  induction x with
  | nil => simp [outs]
  | cons a x ih => cases a <;> simp [outs] <;> omega
theorem vl_len {l : List Cm} (h : Vl l) : l.length ≤ (at_ l).length := by
  induction l with
  | nil => simp
  | cons c l ih => have := ih h.tail; have := ok_len h.head; simp; omega
theorem good_len {l : List S34} (h : good (cms l) = true) : l.length ≤ 100000 := by
  obtain ⟨h1, h2⟩ := good_iff.1 h
  have := vl_len h1
  have := at_len (at_ (cms l))
  unfold inC outC at h2
  rw [cms_length] at *
  omega


theorem within_eq (a n : Int) (h0 : 0 < n) (h1 : n ≤ 1000000000000) : comitialaw4_within.f a n = some (a % n) := by
  unfold comitialaw4_within.f
  rw [if_neg (by omega)]
  have e := Int.tmod_eq_emod (a := a) (b := n)
  have p1 := Int.emod_nonneg a (by omega : n ≠ 0)
  have p2 := Int.emod_lt_of_pos a h0
  by_cases hd : n ∣ a
  · have e0 : a % n = 0 := Int.emod_eq_zero_of_dvd hd
    have : a.tmod n = 0 := by rw [e]; simp [hd, e0]
    rw [this, if_neg (by omega), e0]
  · by_cases ha : 0 ≤ a
    · have : a.tmod n = a % n := by rw [e]; simp [ha]
      rw [this, if_neg (by omega)]
    · have : a.tmod n = a % n - n := by
        rw [e, if_neg (by simp [ha, hd])]
        omega
      rw [this, if_pos (by omega), w64 (by omega) (by omega)]
      congr 1; omega
/-- What is told of an operation that Make makes. -/
structure Made (n : Nat) (r : List S34) : Prop where
  vl : Vl (cms r)
  ins : inC (cms r) = n
  outs : outC (cms r) ≤ 120
  len : r.length ≤ 14
theorem inC_append (a b : List Cm) : inC (a ++ b) = inC a + inC b := by simp [inC]
theorem outC_append (a b : List Cm) : outC (a ++ b) = outC a + outC b := by simp [outC]
theorem keep_cm {n : Nat} (h : 1 ≤ n) : Vl (cms [⟨1, (n : Int), ⟨#[]⟩⟩]) ∧ inC (cms [⟨1, (n : Int), ⟨#[]⟩⟩]) = n ∧ outC (cms [⟨1, (n : Int), ⟨#[]⟩⟩]) = n := by
  have e : cms [⟨1, (n : Int), ⟨#[]⟩⟩] = [⟨1, n, []⟩] := rfl
  rw [e]
  exact ⟨Vl.cons (keep_ok h) Vl.nil, by simp [inC, ins], by simp [outC, outs]⟩
theorem cut_cm {n : Nat} (h : 1 ≤ n) : Vl (cms [⟨3, (n : Int), ⟨#[]⟩⟩]) ∧ inC (cms [⟨3, (n : Int), ⟨#[]⟩⟩]) = n ∧ outC (cms [⟨3, (n : Int), ⟨#[]⟩⟩]) = 0 := by
  have e : cms [⟨3, (n : Int), ⟨#[]⟩⟩] = [⟨3, n, []⟩] := rfl
  rw [e]
  exact ⟨Vl.cons (cut_ok h) Vl.nil, by simp [inC, ins], by simp [outC, outs]⟩
theorem put_cm (s : ByteArray) (h : 0 < s.size) : Vl (cms [⟨2, 0, s⟩]) ∧ inC (cms [⟨2, 0, s⟩]) = 0 ∧ outC (cms [⟨2, 0, s⟩]) = s.size := by
  have e : cms [⟨2, 0, s⟩] = [⟨2, 0, s.data.toList⟩] := rfl
  have hs : s.size = s.data.toList.length := by simp
  rw [e]
  exact ⟨Vl.cons (put_ok (by intro h0; rw [h0] at hs; simp only [List.length_nil] at hs; omega)) Vl.nil, by simp [inC, ins], by simp [outC, outs]⟩
theorem abc_size (j : Int) (h0 : 0 ≤ j) (h1 : j ≤ 10) : ((⟨#[97, 98, 99, 100, 101, 102, 103, 104, 105, 106]⟩ : ByteArray).extract 0 j.toNat).size = j.toNat := by
  rw [ByteArray.size_extract]
  have : (⟨#[97, 98, 99, 100, 101, 102, 103, 104, 105, 106]⟩ : ByteArray).size = 10 := rfl
  omega

/-- The end of Make. -/
theorem make_end (ns : List Int) (n : Nat) (o : List S34) (out i : Int) (N : Nat) (k : Nat) (hv : Vl (cms o)) (hi : inC (cms o) + n = N) (ho : (outC (cms o) : Int) + n = out) (hout : out ≤ 120) (hl : o.length ≤ 12) (hne : o = [] → n = 0 → N = 0) :
    ∃ r, comitialaw4_Make.j1 (k + 1) n ns o out i false = some r ∧ Made N r ∧ (0 < N → r ≠ []) := by
  simp only [comitialaw4_Make.j1]
  rw [if_neg (by decide)]
  -- the keep behind
  obtain ⟨r, hr, hrv, hri, hro, hrl, hrn⟩ : ∃ r : List S34, (r = if (n : Int) > 0 then o ++ [⟨1, n, ⟨#[]⟩⟩] else o) ∧ Vl (cms r) ∧ inC (cms r) = N ∧ (outC (cms r) : Int) = out ∧ r.length ≤ 13 ∧ (0 < N → r ≠ []) := by
    by_cases hn : (n : Int) > 0
    · obtain ⟨q1, q2, q3⟩ := keep_cm (n := n) (by omega)
      refine ⟨o ++ [⟨1, n, ⟨#[]⟩⟩], by rw [if_pos hn], ?_, ?_, ?_, ?_, ?_⟩
      · rw [cms_append]; exact hv.append q1
      · rw [cms_append, inC_append, q2]; omega
      · rw [cms_append, outC_append, q3]; omega
      · simp; omega
      · intro _; simp
    · refine ⟨o, by rw [if_neg hn], hv, by omega, by omega, by omega, ?_⟩
      intro h0 e; have := hne e (by omega); omega
  have hz : ∀ r : List S34, Vl (cms r) → inC (cms r) = N → (outC (cms r) : Int) = out → r.length ≤ 13 → (0 < N → r ≠ []) → ∀ t : Int, ∃ r', (if t = 0 then (if out ≤ 115 then (if r.length < 4398046511104 then (some (r ++ [(⟨2, 0, (⟨#[122]⟩ : ByteArray)⟩ : S34)])) else (none)) else (some r)) else (some r)) = some r' ∧ Made N r' ∧ (0 < N → r' ≠ []) := by
    intro r hv hi ho hl hn t
    split
    · split
      · rw [if_pos (by omega)]
        obtain ⟨q1, q2, q3⟩ := put_cm ⟨#[122]⟩ (by decide)
        refine ⟨_, rfl, ⟨?_, ?_, ?_, ?_⟩, fun _ => by simp⟩
        · rw [cms_append]; exact hv.append q1
        · rw [cms_append, inC_append, q2]; omega
        · rw [cms_append, outC_append, q3]; have : (⟨#[122]⟩ : ByteArray).size = 1 := rfl; omega
        · simp; omega
      · exact ⟨r, rfl, ⟨hv, hi, by omega, by omega⟩, hn⟩
    · exact ⟨r, rfl, ⟨hv, hi, by omega, by omega⟩, hn⟩
  by_cases hn : (n : Int) > 0
  · rw [if_pos hn] at hr ⊢
    rw [if_pos (by omega)]
    simp only [Option.bind_some]
    rw [← hr]
    by_cases h0 : (ns.length : Int) > 0
    · rw [if_pos h0, if_pos h0, within_eq _ _ (by omega) (by omega)]
      simp only [Option.bind_some]
      exact hz r hrv hri hro hrl hrn _
    · rw [if_neg h0]
      exact ⟨r, rfl, ⟨hrv, hri, by omega, by omega⟩, hrn⟩
  · rw [if_neg hn] at hr ⊢
    rw [← hr]
    by_cases h0 : (ns.length : Int) > 0
    · rw [if_pos h0, if_pos h0, within_eq _ _ (by omega) (by omega)]
      simp only [Option.bind_some]
      exact hz r hrv hri hro hrl hrn _
    · rw [if_neg h0]
      exact ⟨r, rfl, ⟨hrv, hri, by omega, by omega⟩, hrn⟩

theorem w_succ (i : Nat) (h : i ≤ 1000000000000) : wrap64 ((i : Int) + 1) = ((i + 1 : Nat) : Int) := by rw [w64 (by omega) (by omega)]; simp
theorem w_sub (n m : Nat) (h : m ≤ n) (h2 : n ≤ 1000000000000) : wrap64 ((n : Int) - (m : Int)) = ((n - m : Nat) : Int) := by rw [w64 (by omega) (by omega)]; omega
theorem w_add_toNat (a u : Int) (h : 0 ≤ u) (h1 : u ≤ 1000000000) (h2 : -1000000000 ≤ a) (h3 : a ≤ 1000000000) : wrap64 (a + (u.toNat : Int)) = a + u := by rw [w64 (by omega) (by omega)]; omega
theorem mn_eq (a b : Int) : mn a b = min a b := by unfold mn; split <;> omega
set_option maxHeartbeats 1000000 in
theorem make_loop (ns : List Int) (N : Nat) (d : Nat) : ∀ (n : Nat) (o : List S34) (out : Int) (i : Nat) (k : Nat), i + d = 12 → Vl (cms o) → inC (cms o) + n = N → (outC (cms o) : Int) + n = out → out ≤ 120 → o.length ≤ i → n ≤ 120 → (o = [] → n = N) → 3 * d + 3 ≤ k →
    ∃ r, comitialaw4_Make.l0 k n ns o out i = some r ∧ Made N r ∧ (0 < N → r ≠ []) := by
  induction d with
  | zero =>
    intro n o out i k hd hv hi ho hout hl hn hne hk
    obtain ⟨k, rfl⟩ : ∃ m, k = m + 2 := ⟨k - 2, by omega⟩
    simp only [comitialaw4_Make.l0]
    split
    · rw [if_neg (by omega)]
      exact make_end ns n o out i N k hv hi ho hout (by omega) (fun e h => by have := hne e; omega)
    · exact make_end ns n o out i N k hv hi ho hout (by omega) (fun e h => by have := hne e; omega)
  | succ d ih =>
    intro n o out i k hd hv hi ho hout hl hn hne hk
    obtain ⟨k, rfl⟩ : ∃ m, k = m + 3 := ⟨k - 3, by omega⟩
    have hend := make_end ns n o out i N (k + 1) hv hi ho hout (by omega) (fun e h => by have := hne e; omega)
    simp only [comitialaw4_Make.l0]
    by_cases h1 : (i : Int) < (ns.length : Int)
    · rw [if_pos h1, if_pos (by omega)]
      by_cases h2 : (n : Int) > 0
      · rw [decide_eq_true h2]
        simp only [comitialaw4_Make.j1]
        rw [if_pos trivial, if_pos (by omega), if_pos h1, mn_eq, within_eq _ _ (by omega) (by omega), within_eq _ _ (by omega) (by omega)]
        simp only [Option.bind_some]
        have t0 := Int.emod_nonneg (wrap64 ((rd ns i).tdiv 7)) (by omega : min (n : Int) 9 ≠ 0)
        have t1 := Int.emod_lt_of_pos (wrap64 ((rd ns i).tdiv 7)) (by omega : 0 < min (n : Int) 9)
        generalize wrap64 ((rd ns i).tdiv 7) % min (n : Int) 9 = t at t0 t1 ⊢
        rw [w64 (x := 1 + t) (by omega) (by omega)]
        obtain ⟨m, hm⟩ : ∃ m : Nat, 1 + t = (m : Int) := ⟨(1 + t).toNat, by omega⟩
        rw [hm]
        have hm1 : 1 ≤ m := by omega
        have hmn : m ≤ n := by omega
        have s0 := Int.emod_nonneg (rd ns i) (by omega : (4 : Int) ≠ 0)
        have s1 := Int.emod_lt_of_pos (rd ns i) (by omega : (0 : Int) < 4)
        generalize rd ns i % 4 = t4 at s0 s1 ⊢
        have hkeep : ∃ r, comitialaw4_Make.l0 k ((n - m : Nat) : Int) ns (o ++ [(⟨1, (m : Int), (⟨#[]⟩ : ByteArray)⟩ : S34)]) out ((i + 1 : Nat) : Int) = some r ∧ Made N r ∧ (0 < N → r ≠ []) := by
          obtain ⟨q1, q2, q3⟩ := keep_cm hm1
          exact ih (n - m) _ out (i + 1) k (by omega) (by rw [cms_append]; exact hv.append q1) (by rw [cms_append, inC_append, q2]; omega) (by rw [cms_append, outC_append, q3]; omega) hout (by simp; omega) (by omega) (by simp) (by omega)
        by_cases c0 : t4 = 0
        · rw [if_pos c0]
          simp only [comitialaw4_Make.j2]
          rw [if_pos (by simp [c0]), if_pos (by omega), w_succ i (by omega), w_sub n m hmn (by omega)]
          exact hkeep
        · rw [if_neg c0]
          by_cases c1 : t4 = 1
          · simp only [comitialaw4_Make.j2]
            rw [if_pos (by simp [c1]), if_pos (by omega), w_succ i (by omega), w_sub n m hmn (by omega)]
            exact hkeep
          · simp only [comitialaw4_Make.j2]
            rw [if_neg (by simp [c1])]
            by_cases c2 : t4 = 2
            · rw [if_pos c2, if_pos (by omega), w_succ i (by omega), w_sub n m hmn (by omega)]
              rw [w64 (x := out - (m : Int)) (by omega) (by omega)]
              obtain ⟨q1, q2, q3⟩ := cut_cm hm1
              exact ih (n - m) _ (out - m) (i + 1) k (by omega) (by rw [cms_append]; exact hv.append q1) (by rw [cms_append, inC_append, q2]; omega) (by rw [cms_append, outC_append, q3]; omega) (by omega) (by simp; omega) (by omega) (by simp) (by omega)
            · rw [if_neg c2, if_pos (by omega), if_pos (by omega), if_pos h1, within_eq _ _ (by omega) (by omega)]
              simp only [Option.bind_some]
              have u0 := Int.emod_nonneg (wrap64 ((rd ns i).tdiv 7)) (by omega : (5 : Int) ≠ 0)
              have u1 := Int.emod_lt_of_pos (wrap64 ((rd ns i).tdiv 7)) (by omega : (0 : Int) < 5)
              generalize wrap64 ((rd ns i).tdiv 7) % 5 = u at u0 u1 ⊢
              rw [w64 (x := 1 + u) (by omega) (by omega), if_pos (by omega), if_pos (by omega), abc_size _ (by omega) (by omega), w_succ i (by omega), w_add_toNat _ _ (by omega) (by omega) (by omega) (by omega)]
              by_cases c3 : out + (1 + u) ≤ 120
              · rw [if_pos c3, if_pos (by omega)]
                have hsz := abc_size (1 + u) (by omega) (by omega)
                obtain ⟨q1, q2, q3⟩ := put_cm ((⟨#[97, 98, 99, 100, 101, 102, 103, 104, 105, 106]⟩ : ByteArray).extract 0 (1 + u).toNat) (by omega)
                exact ih n _ (out + (1 + u)) (i + 1) k (by omega) (by rw [cms_append]; exact hv.append q1) (by rw [cms_append, inC_append, q2]; omega) (by rw [cms_append, outC_append, q3]; omega) (by omega) (by simp; omega) (by omega) (by simp) (by omega)
              · rw [if_neg c3]
                exact ih n o out (i + 1) k (by omega) hv hi ho hout (by omega) hn hne (by omega)
      · rw [decide_eq_false h2]
        exact hend
    · rw [if_neg h1]
      exact hend
theorem make_eq (n : Nat) (hn : n ≤ 120) (ns : List Int) : ∃ r, (∀ k, 60 ≤ k → comitialaw4_Make.f k n ns = some r) ∧ Made n r ∧ (0 < n → r ≠ []) := by
  obtain ⟨r, h1, h2⟩ := make_loop ns n 12 n [] n 0 60 (by omega) Vl.nil (by simp [inC, cms, ins]) (by simp [outC, cms, outs]) (by omega) (by simp) hn (fun _ => rfl) (by omega)
  refine ⟨r, ?_, h2⟩
  intro k hk
  obtain ⟨m, rfl⟩ : ∃ m, k = 60 + m := ⟨k - 60, by omega⟩
  clear hk
  induction m with
  | zero => exact h1
  | succ m ih => exact comitialaw4_Make.mono _ _ _ _ ih
theorem Made.good {n : Nat} {r : List S34} (h : Made n r) (hn : n ≤ 1000) : good (cms r) = true := good_iff.2 ⟨h.vl, by have := h.ins; have := h.outs; omega⟩

/-! ### the same -/
theorem s_eq {a b : S34} : (!(a.f0 == b.f0) || (!(a.f1 == b.f1) || (!(a.f2.toList == b.f2.toList)))) = true ↔ ¬ a = b := by
  obtain ⟨a0, a1, a2⟩ := a
  obtain ⟨b0, b1, b2⟩ := b
  have : a2.toList = b2.toList ↔ a2 = b2 := by
    obtain ⟨la, rfl⟩ := str_of a2
    obtain ⟨lb, rfl⟩ := str_of b2
    rw [str_toList, str_toList]
    constructor
    · rintro rfl; rfl
    · intro h
      have := congrArg ByteArray.toList h
      rwa [str_toList, str_toList] at this
  simp only [S34.mk.injEq, ← this]
  by_cases h0 : a0 = b0 <;> by_cases h1 : a1 = b1 <;> by_cases h2 : a2.toList = b2.toList <;> simp [h0, h1, h2]

/-- What is wrong with a part. -/
def chk (K N : Int) (s : List UInt8) : Int :=
  if K = 1 ∨ K = 3 then (if N < 1 ∨ N > 120 ∨ s ≠ [] then 1 else 0) else if K = 2 then (if N ≠ 0 ∨ s = [] then 1 else if s.length > 120 then 5 else 0) else 3
theorem size_toList (S : ByteArray) : S.size = S.toList.length := by
  obtain ⟨l, rfl⟩ := str_of S
  rw [str_toList, str_size]
theorem check_val (k : Nat) (hk : 2 ≤ k) (K N : Int) (S : ByteArray) : op_check.f k K N S = some (chk K N S.toList) := by
  obtain ⟨k, rfl⟩ : ∃ m, k = m + 2 := ⟨k - 2, by omega⟩
  have hs : (S.toList == []) = decide (S.toList = []) := by rw [Bool.eq_iff_iff]; simp
  have hs2 : (S.toList != []) = decide (S.toList ≠ []) := by rw [Bool.eq_iff_iff]; simp
  unfold op_check.f chk
  by_cases h1 : K = 1
  · subst h1
    simp only [op_check.j0, op_check.j1, size_toList, hs2]
    by_cases a : N < 1
    · simp [a]
    · by_cases b : N > 120
      · simp [a, b]
      · by_cases c : S.toList = []
        · simp [a, b, c]
        · simp [a, b, c]
  · by_cases h3 : K = 3
    · subst h3
      simp only [op_check.j0, op_check.j1, size_toList, hs2]
      by_cases a : N < 1
      · simp [a]
      · by_cases b : N > 120
        · simp [a, b]
        · by_cases c : S.toList = []
          · simp [a, b, c]
          · simp [a, b, c]
    · by_cases h2 : K = 2
      · subst h2
        simp only [op_check.j0, op_check.j2, size_toList, hs]
        by_cases a : N = 0
        · by_cases c : S.toList = []
          · simp [a, c]
          · by_cases d : S.toList.length > 120
            · have : (S.toList.length : Int) > 120 := by omega
              simp [a, c, d, this]
            · have : ¬ (S.toList.length : Int) > 120 := by omega
              simp [a, c, d, this]
        · simp [a]
      · simp only [op_check.j0]
        simp [h1, h2, h3]
theorem check_loop (l s : List S34) : ∀ (p : List S34) (k : Nat), l = p ++ s → l.length ≤ 1000000000000 → s.length + 3 ≤ k →
    op_Check.l0 k l (l.length : Int) (p.length : Int) = some ((s.map fun c => chk c.f0 c.f1 c.f2.toList).find? (· ≠ 0) |>.getD 0) := by
  induction s with
  | nil =>
    intro p k hl h0 hk
    obtain ⟨k, rfl⟩ : ∃ m, k = m + 1 := ⟨k - 1, by omega⟩
    have hpl : p.length = l.length := by rw [hl]; simp
    simp only [op_Check.l0]
    rw [if_neg (by omega)]
    rfl
  | cons c s ih =>
    intro p k hl h0 hk
    obtain ⟨k, rfl⟩ : ∃ m, k = m + 1 := ⟨k - 1, by omega⟩
    have hpl : p.length < l.length := by rw [hl]; simp
    have hrd : rd_T34 l (p.length : Int) = c := by rw [hl]; exact rd_mid p c s
    simp only [List.length_cons] at hk
    simp only [op_Check.l0]
    rw [if_pos (by omega), if_pos (by omega), if_pos (by omega), hrd, check_val k (by omega), w_succ _ (by omega)]
    simp only [Option.bind_some]
    by_cases hc : chk c.f0 c.f1 c.f2.toList = 0
    · rw [if_pos hc]
      have := ih (p ++ [c]) k (by simp [hl]) h0 (by omega)
      have e : (p ++ [c]).length = p.length + 1 := by simp
      rw [e] at this
      rw [this]
      simp [hc]
    · rw [if_neg hc]
      simp [hc]
theorem check_eq (l : List S34) (k : Nat) (hk : l.length + 3 ≤ k) (h0 : l.length ≤ 1000000) : op_Check.f k l = some (if l.length > 40 then 4 else ((l.map fun c => chk c.f0 c.f1 c.f2.toList).find? (· ≠ 0)).getD 0) := by
  unfold op_Check.f
  by_cases h : l.length > 40
  · rw [if_pos (by omega), if_pos h]
  · rw [if_neg (by omega), if_neg h]
    exact check_loop l l [] k rfl (by omega) (by omega)
theorem check_ok (l : List S34) (k : Nat) (hk : 50 ≤ k) (h0 : l.length ≤ 40) (h : ∀ c ∈ l, chk c.f0 c.f1 c.f2.toList = 0) : op_Check.f k l = some 0 := by
  rw [check_eq l k (by omega) (by omega), if_neg (by omega)]
  have : (l.map fun c => chk c.f0 c.f1 c.f2.toList).find? (· ≠ 0) = none := by
    rw [List.find?_eq_none]
    intro x hx
    obtain ⟨c, hc, rfl⟩ := List.mem_map.1 hx
    simp [h c hc]
  rw [this]; rfl
theorem check_one (c : S34) (k : Nat) (hk : 50 ≤ k) : op_Check.f k [c] = some (chk c.f0 c.f1 c.f2.toList) := by
  rw [check_eq [c] k (by simp; omega) (by simp), if_neg (by simp)]
  by_cases h : chk c.f0 c.f1 c.f2.toList = 0
  · simp [h]
  · simp [h]

theorem rsame_loop (a b : List S34) (s : List S34) : ∀ (t p q : List S34) (k : Nat), a = p ++ s → b = q ++ t → p.length = q.length → s.length = t.length → a.length ≤ 1000000000000 → s.length < k →
    ∃ r, comitiaref4_Same.l0 k a b (p.length : Int) = some r ∧ (r = true ↔ s = t) := by
  induction s with
  | nil =>
    intro t p q k ha hb hp hs h0 hk
    obtain ⟨k, rfl⟩ : ∃ m, k = m + 1 := ⟨k - 1, by omega⟩
    have ht : t = [] := List.eq_nil_of_length_eq_zero (by simpa using hs.symm)
    have hl : p.length = a.length := by rw [ha]; simp
    refine ⟨true, ?_, by simp [ht]⟩
    simp only [comitiaref4_Same.l0]
    rw [if_neg (by omega)]
  | cons c s ih =>
    intro t p q k ha hb hp hs h0 hk
    obtain ⟨k, rfl⟩ : ∃ m, k = m + 1 := ⟨k - 1, by omega⟩
    obtain ⟨e, t, rfl⟩ : ∃ e t', t = e :: t' := List.exists_cons_of_ne_nil (by intro h; rw [h] at hs; simp at hs)
    have hl : p.length < a.length := by rw [ha]; simp
    have hl2 : q.length < b.length := by rw [hb]; simp
    have r1 : rd_T34 a (p.length : Int) = c := by rw [ha]; exact rd_mid p c s
    have r2 : rd_T34 b (p.length : Int) = e := by rw [hb, hp]; exact rd_mid q e t
    simp only [comitiaref4_Same.l0]
    rw [if_pos (by omega), if_pos (by omega), if_pos (by omega), r1, r2]
    by_cases hce : c = e
    · rw [if_neg (fun h => (s_eq.1 h) hce), w_succ _ (by omega)]
      simp only [List.length_cons] at hk hs
      obtain ⟨r, h1, h2⟩ := ih t (p ++ [c]) (q ++ [e]) k (by simp [ha]) (by simp [hb]) (by simp [hp]) (by omega) h0 (by omega)
      refine ⟨r, ?_, ?_⟩
      · have : (p ++ [c]).length = p.length + 1 := by simp
        rw [this] at h1
        exact h1
      · rw [h2]; simp [hce]
    · rw [if_pos (s_eq.2 hce)]
      exact ⟨false, rfl, by simp [hce]⟩
theorem rsame_ex (a b : List S34) (h0 : a.length ≤ 1000000000000) (k : Nat) (hk : a.length < k) : ∃ r, comitiaref4_Same.f k a b = some r ∧ (r = true ↔ a = b) := by
  unfold comitiaref4_Same.f
  by_cases hl : a.length = b.length
  · rw [if_pos (by omega)]
    obtain ⟨r, h1, h2⟩ := rsame_loop a b a b [] [] k rfl rfl rfl hl h0 hk
    have h1' : comitiaref4_Same.l0 k a b 0 = some r := h1
    rw [h1']
    exact ⟨r, rfl, h2⟩
  · rw [if_neg (by omega)]
    exact ⟨false, rfl, by simp; intro h; exact hl (by rw [h])⟩
theorem rsame_refl (a : List S34) (h0 : a.length ≤ 1000000000000) (k : Nat) (hk : a.length < k) : comitiaref4_Same.f k a a = some true := by
  obtain ⟨r, h1, h2⟩ := rsame_ex a a h0 k hk
  rw [h1, h2.2 rfl]
theorem rsame_ne {a b : List S34} (h : a ≠ b) (h0 : a.length ≤ 1000000000000) (k : Nat) (hk : a.length < k) : comitiaref4_Same.f k a b = some false := by
  obtain ⟨r, h1, h2⟩ := rsame_ex a b h0 k hk
  rw [h1]
  cases r with
  | false => rfl
  | true => exact absurd (h2.1 rfl) h

end Go.Proofs.Ytpcgamgjgfdpaaa.Q

/- Functions of operations in plain words (several texts as one). -/
import Derived.Test.YtjmnflgicolbdaaQN
import Derived.Test.YtjmnflgicolbdaaQxcomitialaw4Make
import Derived.Test.YtjmnflgicolbdaaQxcomitiaref4In
import Derived.Test.YtjmnflgicolbdaaQxcomitiaref4Out
import Derived.Test.YtjmnflgicolbdaaQxcomitiaref4Normal
namespace Go.Proofs.Ytjmnflgicolbdaa.Q
open Go.OpM Go.RowKit Go.Cx Go.Proofs.YtjmnflgicolbdaaW.PrintWords Go.Proofs.YtjmnflgicolbdaaW.PrintLast Go.Proofs.YtjmnflgicolbdaaW.PrintMore
set_option linter.unusedVariables false
set_option linter.unusedSimpArgs false

theorem within_eq (a n : Int) (h0 : 0 < n) (h1 : n ≤ 1000000000000) : comitialaw4_within.f a n = some (a % n) := by
  unfold comitialaw4_within.f
  rw [if_neg (by omega)]
  have e := Int.tmod_eq_emod (a := a) (b := n)
  have p1 := Int.emod_nonneg a (by omega : n ≠ 0)
  have p2 := Int.emod_lt_of_pos a h0
  by_cases hd : n ∣ a
  · have e0 : a % n = 0 := Int.emod_eq_zero_of_dvd hd
    have : a.tmod n = 0 := by rw [e]; simp [hd, e0]
    rw [this, if_neg (by omega), e0]
  · by_cases ha : 0 ≤ a
    · have : a.tmod n = a % n := by rw [e]; simp [ha]
      rw [this, if_neg (by omega)]
    · have : a.tmod n = a % n - n := by
        rw [e, if_neg (by simp [ha, hd])]
        omega
      rw [this, if_pos (by omega), w64 (by omega) (by omega)]
      congr 1; omega
/-- What is told of an operation that Make makes. -/
structure Made (n : Nat) (r : List S43) : Prop where
  vl : Vl (cms r)
  ins : inC (cms r) = n
  outs : outC (cms r) ≤ 120
  len : r.length ≤ 14
theorem inC_append (a b : List Cm) : inC (a ++ b) = inC a + inC b := by simp [inC]
theorem outC_append (a b : List Cm) : outC (a ++ b) = outC a + outC b := by simp [outC]
theorem keep_cm {n : Nat} (h : 1 ≤ n) : Vl (cms [⟨1, (n : Int), ⟨#[]⟩⟩]) ∧ inC (cms [⟨1, (n : Int), ⟨#[]⟩⟩]) = n ∧ outC (cms [⟨1, (n : Int), ⟨#[]⟩⟩]) = n := by
  have e : cms [⟨1, (n : Int), ⟨#[]⟩⟩] = [⟨1, n, []⟩] := rfl
  rw [e]
  exact ⟨Vl.cons (keep_ok h) Vl.nil, by simp [inC, ins], by simp [outC, outs]⟩
theorem cut_cm {n : Nat} (h : 1 ≤ n) : Vl (cms [⟨3, (n : Int), ⟨#[]⟩⟩]) ∧ inC (cms [⟨3, (n : Int), ⟨#[]⟩⟩]) = n ∧ outC (cms [⟨3, (n : Int), ⟨#[]⟩⟩]) = 0 := by
  have e : cms [⟨3, (n : Int), ⟨#[]⟩⟩] = [⟨3, n, []⟩] := rfl
  rw [e]
  exact ⟨Vl.cons (cut_ok h) Vl.nil, by simp [inC, ins], by simp [outC, outs]⟩
theorem put_cm (s : ByteArray) (h : 0 < s.size) : Vl (cms [⟨2, 0, s⟩]) ∧ inC (cms [⟨2, 0, s⟩]) = 0 ∧ outC (cms [⟨2, 0, s⟩]) = s.size := by
  have e : cms [⟨2, 0, s⟩] = [⟨2, 0, s.data.toList⟩] := rfl
  have hs : s.size = s.data.toList.length := by simp
  rw [e]
  exact ⟨Vl.cons (put_ok (by intro h0; rw [h0] at hs; simp only [List.length_nil] at hs; omega)) Vl.nil, by simp [inC, ins], by simp [outC, outs]⟩
theorem abc_size (j : Int) (h0 : 0 ≤ j) (h1 : j ≤ 10) : ((⟨#[97, 98, 99, 100, 101, 102, 103, 104, 105, 106]⟩ : ByteArray).extract 0 j.toNat).size = j.toNat := by
  rw [ByteArray.size_extract]
  have : (⟨#[97, 98, 99, 100, 101, 102, 103, 104, 105, 106]⟩ : ByteArray).size = 10 := rfl
  omega

/-- The end of Make. -/
theorem make_end (ns : List Int) (n : Nat) (o : List S43) (out i : Int) (N : Nat) (k : Nat) (hv : Vl (cms o)) (hi : inC (cms o) + n = N) (ho : (outC (cms o) : Int) + n = out) (hout : out ≤ 120) (hl : o.length ≤ 12) (hne : o = [] → n = 0 → N = 0) :
    ∃ r, comitialaw4_Make.j1 (k + 1) n ns o out i false = some r ∧ Made N r ∧ (0 < N → r ≠ []) := by
  simp only [comitialaw4_Make.j1]
  rw [if_neg (by decide)]
  -- the keep behind
  obtain ⟨r, hr, hrv, hri, hro, hrl, hrn⟩ : ∃ r : List S43, (r = if (n : Int) > 0 then o ++ [⟨1, n, ⟨#[]⟩⟩] else o) ∧ Vl (cms r) ∧ inC (cms r) = N ∧ (outC (cms r) : Int) = out ∧ r.length ≤ 13 ∧ (0 < N → r ≠ []) := by
    by_cases hn : (n : Int) > 0
    · obtain ⟨q1, q2, q3⟩ := keep_cm (n := n) (by omega)
      refine ⟨o ++ [⟨1, n, ⟨#[]⟩⟩], by rw [if_pos hn], ?_, ?_, ?_, ?_, ?_⟩
      · rw [cms_append]; exact hv.append q1
      · rw [cms_append, inC_append, q2]; omega
      · rw [cms_append, outC_append, q3]; omega
      · simp; omega
      · intro _; simp
    · refine ⟨o, by rw [if_neg hn], hv, by omega, by omega, by omega, ?_⟩
      intro h0 e; have := hne e (by omega); omega
  have hz : ∀ r : List S43, Vl (cms r) → inC (cms r) = N → (outC (cms r) : Int) = out → r.length ≤ 13 → (0 < N → r ≠ []) → ∀ t : Int, ∃ r', (if t = 0 then (if out ≤ 115 then (if r.length < 4398046511104 then (some (r ++ [(⟨2, 0, (⟨#[122]⟩ : ByteArray)⟩ : S43)])) else (none)) else (some r)) else (some r)) = some r' ∧ Made N r' ∧ (0 < N → r' ≠ []) := by
    intro r hv hi ho hl hn t
    split
    · split
      · rw [if_pos (by omega)]
        obtain ⟨q1, q2, q3⟩ := put_cm ⟨#[122]⟩ (by decide)
        refine ⟨_, rfl, ⟨?_, ?_, ?_, ?_⟩, fun _ => by simp⟩
        · rw [cms_append]; exact hv.append q1
        · rw [cms_append, inC_append, q2]; omega
        · rw [cms_append, outC_append, q3]; have : (⟨#[122]⟩ : ByteArray).size = 1 := rfl; omega
        · simp; omega
      · exact ⟨r, rfl, ⟨hv, hi, by omega, by omega⟩, hn⟩
    · exact ⟨r, rfl, ⟨hv, hi, by omega, by omega⟩, hn⟩
  by_cases hn : (n : Int) > 0
  · rw [if_pos hn] at hr ⊢
    rw [if_pos (by omega)]
    simp only [Option.bind_some]
    rw [← hr]
    by_cases h0 : (ns.length : Int) > 0
    · rw [if_pos h0, if_pos h0, within_eq _ _ (by omega) (by omega)]
      simp only [Option.bind_some]
      exact hz r hrv hri hro hrl hrn _
    · rw [if_neg h0]
      exact ⟨r, rfl, ⟨hrv, hri, by omega, by omega⟩, hrn⟩
  · rw [if_neg hn] at hr ⊢
    rw [← hr]
    by_cases h0 : (ns.length : Int) > 0
    · rw [if_pos h0, if_pos h0, within_eq _ _ (by omega) (by omega)]
      simp only [Option.bind_some]
      exact hz r hrv hri hro hrl hrn _
    · rw [if_neg h0]
      exact ⟨r, rfl, ⟨hrv, hri, by omega, by omega⟩, hrn⟩

theorem w_succ (i : Nat) (h : i ≤ 1000000000000) : wrap64 ((i : Int) + 1) = ((i + 1 : Nat) : Int) := by rw [w64 (by omega) (by omega)]; simp
theorem w_sub (n m : Nat) (h : m ≤ n) (h2 : n ≤ 1000000000000) : wrap64 ((n : Int) - (m : Int)) = ((n - m : Nat) : Int) := by rw [w64 (by omega) (by omega)]; omega
theorem w_add_toNat (a u : Int) (h : 0 ≤ u) (h1 : u ≤ 1000000000) (h2 : -1000000000 ≤ a) (h3 : a ≤ 1000000000) : wrap64 (a + (u.toNat : Int)) = a + u := by rw [w64 (by omega) (by omega)]; omega
theorem mn_eq (a b : Int) : mn a b = min a b := by unfold mn; split <;> omega
set_option maxHeartbeats 1000000 in
theorem make_loop (ns : List Int) (N : Nat) (d : Nat) : ∀ (n : Nat) (o : List S43) (out : Int) (i : Nat) (k : Nat), i + d = 12 → Vl (cms o) → inC (cms o) + n = N → (outC (cms o) : Int) + n = out → out ≤ 120 → o.length ≤ i → n ≤ 120 → (o = [] → n = N) → 3 * d + 3 ≤ k →
    ∃ r, comitialaw4_Make.l0 k n ns o out i = some r ∧ Made N r ∧ (0 < N → r ≠ []) := by
  induction d with
  | zero =>
    intro n o out i k hd hv hi ho hout hl hn hne hk
    obtain ⟨k, rfl⟩ : ∃ m, k = m + 2 := ⟨k - 2, by omega⟩
    simp only [comitialaw4_Make.l0]
    split
    · rw [if_neg (by omega)]
      exact make_end ns n o out i N k hv hi ho hout (by omega) (fun e h => by have := hne e; omega)
    · exact make_end ns n o out i N k hv hi ho hout (by omega) (fun e h => by have := hne e; omega)
  | succ d ih =>
    intro n o out i k hd hv hi ho hout hl hn hne hk
    obtain ⟨k, rfl⟩ : ∃ m, k = m + 3 := ⟨k - 3, by omega⟩
    have hend := make_end ns n o out i N (k + 1) hv hi ho hout (by omega) (fun e h => by have := hne e; omega)
    simp only [comitialaw4_Make.l0]
    by_cases h1 : (i : Int) < (ns.length : Int)
    · rw [if_pos h1, if_pos (by omega)]
      by_cases h2 : (n : Int) > 0
      · rw [decide_eq_true h2]
        simp only [comitialaw4_Make.j1]
        rw [if_pos trivial, if_pos (by omega), if_pos h1, mn_eq, within_eq _ _ (by omega) (by omega), within_eq _ _ (by omega) (by omega)]
        simp only [Option.bind_some]
        have t0 := Int.emod_nonneg (wrap64 ((rd ns i).tdiv 7)) (by omega : min (n : Int) 9 ≠ 0)
        have t1 := Int.emod_lt_of_pos (wrap64 ((rd ns i).tdiv 7)) (by omega : 0 < min (n : Int) 9)
        generalize wrap64 ((rd ns i).tdiv 7) % min (n : Int) 9 = t at t0 t1 ⊢
        rw [w64 (x := 1 + t) (by omega) (by omega)]
        obtain ⟨m, hm⟩ : ∃ m : Nat, 1 + t = (m : Int) := ⟨(1 + t).toNat, by omega⟩
        rw [hm]
        have hm1 : 1 ≤ m := by omega
        have hmn : m ≤ n := by omega
        have s0 := Int.emod_nonneg (rd ns i) (by omega : (4 : Int) ≠ 0)
        have s1 := Int.emod_lt_of_pos (rd ns i) (by omega : (0 : Int) < 4)
        generalize rd ns i % 4 = t4 at s0 s1 ⊢
        have hkeep : ∃ r, comitialaw4_Make.l0 k ((n - m : Nat) : Int) ns (o ++ [(⟨1, (m : Int), (⟨#[]⟩ : ByteArray)⟩ : S43)]) out ((i + 1 : Nat) : Int) = some r ∧ Made N r ∧ (0 < N → r ≠ []) := by
          obtain ⟨q1, q2, q3⟩ := keep_cm hm1
          exact ih (n - m) _ out (i + 1) k (by omega) (by rw [cms_append]; exact hv.append q1) (by rw [cms_append, inC_append, q2]; omega) (by rw [cms_append, outC_append, q3]; omega) hout (by simp; omega) (by omega) (by simp) (by omega)
        by_cases c0 : t4 = 0
        · rw [if_pos c0]
          simp only [comitialaw4_Make.j2]
          rw [if_pos (by simp [c0]), if_pos (by omega), w_succ i (by omega), w_sub n m hmn (by omega)]
          exact hkeep
        · rw [if_neg c0]
          by_cases c1 : t4 = 1
          · simp only [comitialaw4_Make.j2]
            rw [if_pos (by simp [c1]), if_pos (by omega), w_succ i (by omega), w_sub n m hmn (by omega)]
            exact hkeep
          · simp only [comitialaw4_Make.j2]
            rw [if_neg (by simp [c1])]
            by_cases c2 : t4 = 2
            · rw [if_pos c2, if_pos (by omega), w_succ i (by omega), w_sub n m hmn (by omega)]
              rw [w64 (x := out - (m : Int)) (by omega) (by omega)]
              obtain ⟨q1, q2, q3⟩ := cut_cm hm1
              exact ih (n - m) _ (out - m) (i + 1) k (by omega) (by rw [cms_append]; exact hv.append q1) (by rw [cms_append, inC_append, q2]; omega) (by rw [cms_append, outC_append, q3]; omega) (by omega) (by simp; omega) (by omega) (by simp) (by omega)
            · rw [if_neg c2, if_pos (by omega), if_pos (by omega), if_pos h1, within_eq _ _ (by omega) (by omega)]
              simp only [Option.bind_some]
              have u0 := Int.emod_nonneg (wrap64 ((rd ns i).tdiv 7)) (by omega : (5 : Int) ≠ 0)
              have u1 := Int.emod_lt_of_pos (wrap64 ((rd ns i).tdiv 7)) (by omega : (0 : Int) < 5)
              generalize wrap64 ((rd ns i).tdiv 7) % 5 = u at u0 u1 ⊢
              rw [w64 (x := 1 + u) (by omega) (by omega), if_pos (by omega), if_pos (by omega), abc_size _ (by omega) (by omega), w_succ i (by omega), w_add_toNat _ _ (by omega) (by omega) (by omega) (by omega)]
              by_cases c3 : out + (1 + u) ≤ 120
              · rw [if_pos c3, if_pos (by omega)]
                have hsz := abc_size (1 + u) (by omega) (by omega)
                obtain ⟨q1, q2, q3⟩ := put_cm ((⟨#[97, 98, 99, 100, 101, 102, 103, 104, 105, 106]⟩ : ByteArray).extract 0 (1 + u).toNat) (by omega)
                exact ih n _ (out + (1 + u)) (i + 1) k (by omega) (by rw [cms_append]; exact hv.append q1) (by rw [cms_append, inC_append, q2]; omega) (by rw [cms_append, outC_append, q3]; omega) (by omega) (by simp; omega) (by omega) (by simp) (by omega)
              · rw [if_neg c3]
                exact ih n o out (i + 1) k (by omega) hv hi ho hout (by omega) hn hne (by omega)
      · rw [decide_eq_false h2]
        exact hend
    · rw [if_neg h1]
      exact hend
theorem make_eq (n : Nat) (hn : n ≤ 120) (ns : List Int) : ∃ r, (∀ k, 60 ≤ k → comitialaw4_Make.f k n ns = some r) ∧ Made n r ∧ (0 < n → r ≠ []) := by
  obtain ⟨r, h1, h2⟩ := make_loop ns n 12 n [] n 0 60 (by omega) Vl.nil (by simp [inC, cms, ins]) (by simp [outC, cms, outs]) (by omega) (by simp) hn (fun _ => rfl) (by omega)
  refine ⟨r, ?_, h2⟩
  intro k hk
  obtain ⟨m, rfl⟩ : ∃ m, k = 60 + m := ⟨k - 60, by omega⟩
  clear hk
  induction m with
  | zero => exact h1
  | succ m ih => exact comitialaw4_Make.mono _ _ _ _ ih
theorem Made.good {n : Nat} {r : List S43} (h : Made n r) (hn : n ≤ 1000) : good (cms r) = true := good_iff.2 ⟨h.vl, by have := h.ins; have := h.outs; omega⟩

/-! ### the same -/
theorem s_eq {a b : S43} : (!(a.f0 == b.f0) || (!(a.f1 == b.f1) || (!(a.f2.toList == b.f2.toList)))) = true ↔ ¬ a = b := by
  obtain ⟨a0, a1, a2⟩ := a
  obtain ⟨b0, b1, b2⟩ := b
  have : a2.toList = b2.toList ↔ a2 = b2 := by
    obtain ⟨la, rfl⟩ := str_of a2
    obtain ⟨lb, rfl⟩ := str_of b2
    rw [str_toList, str_toList]
    constructor
    · rintro rfl; rfl
    · intro h
      have := congrArg ByteArray.toList h
      rwa [str_toList, str_toList] at this
  simp only [S43.mk.injEq, ← this]
  by_cases h0 : a0 = b0 <;> by_cases h1 : a1 = b1 <;> by_cases h2 : a2.toList = b2.toList <;> simp [h0, h1, h2]
end Go.Proofs.Ytjmnflgicolbdaa.Q

namespace Go.Proofs.Ytjmnflgicolbdaa.Q
open Go.OpM Go.RowKit Go.Cx Go.Proofs.YtjmnflgicolbdaaW.PrintWords Go.Proofs.YtjmnflgicolbdaaW.PrintLast Go.Proofs.YtjmnflgicolbdaaW.PrintMore
set_option linter.unusedVariables false
set_option linter.unusedSimpArgs false

theorem ins_one {c : Cm} (h : c.ok) : (ins c.at_ : Int) = if c.k = 2 then 0 else c.n := by
  rcases Cm.cases h with ⟨n, hn, rfl⟩ | ⟨s, hs, rfl⟩ | ⟨n, hn, rfl⟩ <;> simp
theorem outs_one {c : Cm} (h : c.ok) : (outs c.at_ : Int) = (if c.k = 1 then c.n else 0) + c.s.length := by
  rcases Cm.cases h with ⟨n, hn, rfl⟩ | ⟨s, hs, rfl⟩ | ⟨n, hn, rfl⟩ <;> simp
theorem in_loop (l s : List S43) : ∀ (p : List S43) (acc k : Nat), l = p ++ s → Vl (cms s) → l.length ≤ 1000000 → acc + inC (cms s) ≤ 1000000 → s.length < k →
    comitiaref4_In.l0 k l acc (p.length : Int) = some ((acc + inC (cms s) : Nat) : Int) := by
  induction s with
  | nil =>
    intro p acc k hl hv h0 h1 hk
    obtain ⟨k, rfl⟩ : ∃ m, k = m + 1 := ⟨k - 1, by omega⟩
    have hpl : p.length = l.length := by rw [hl]; simp
    simp only [comitiaref4_In.l0]
    rw [if_neg (by omega)]
    simp [cms, inC, ins]
  | cons c s ih =>
    intro p acc k hl hv h0 h1 hk
    obtain ⟨k, rfl⟩ : ∃ m, k = m + 1 := ⟨k - 1, by omega⟩
    have hpl : p.length < l.length := by rw [hl]; simp
    have hrd : rd_T43 l (p.length : Int) = c := by rw [hl]; exact rd_mid p c s
    have hc : (cm c).ok := hv.head (c := cm c) (l := cms s)
    have hi := ins_one hc
    have hin : inC (cms (c :: s)) = ins (cm c).at_ + inC (cms s) := by simp [cms, inC]
    have he : (p ++ [c]).length = p.length + 1 := by simp
    rw [hin] at h1 ⊢
    simp only [List.length_cons] at hk
    have := ih (p ++ [c]) (acc + ins (cm c).at_) k (by simp [hl]) (Vl.tail (c := cm c) hv) h0 (by omega) (by omega)
    rw [he] at this
    simp only [comitiaref4_In.l0]
    rw [if_pos (by omega), if_pos (by omega), hrd, w_succ _ (by omega)]
    by_cases h2 : c.f0 = 2
    · rw [if_pos h2]
      have e1 : (ins (cm c).at_ : Int) = 0 := by rw [hi]; exact if_pos h2
      have e0 : ins (cm c).at_ = 0 := by omega
      rw [e0, Nat.add_zero] at this
      rw [e0, Nat.zero_add]
      exact this
    · rw [if_neg h2]
      have hn : (ins (cm c).at_ : Int) = c.f1 := by rw [hi]; exact if_neg h2
      rw [← hn, w64 (by omega) (by omega)]
      rw [Nat.add_assoc] at this
      exact this
theorem ref_in (l : List S43) (h : good (cms l) = true) (k : Nat) (hk : l.length < k) : comitiaref4_In.f k l = some ((inC (cms l) : Nat) : Int) := by
  have h1 := (good_iff.1 h).2
  have := in_loop l l [] 0 k rfl (good_iff.1 h).1 (by have := good_len h; omega) (by omega) hk
  unfold comitiaref4_In.f
  simpa using this
theorem out_loop (l s : List S43) : ∀ (p : List S43) (acc k : Nat), l = p ++ s → Vl (cms s) → l.length ≤ 1000000 → acc + outC (cms s) ≤ 1000000 → s.length < k →
    comitiaref4_Out.l0 k l acc (p.length : Int) = some ((acc + outC (cms s) : Nat) : Int) := by
  induction s with
  | nil =>
    intro p acc k hl hv h0 h1 hk
    obtain ⟨k, rfl⟩ : ∃ m, k = m + 1 := ⟨k - 1, by omega⟩
    have hpl : p.length = l.length := by rw [hl]; simp
    simp only [comitiaref4_Out.l0]
    rw [if_neg (by omega)]
    simp [cms, outC, outs]
  | cons c s ih =>
    intro p acc k hl hv h0 h1 hk
    obtain ⟨k, rfl⟩ : ∃ m, k = m + 1 := ⟨k - 1, by omega⟩
    have hpl : p.length < l.length := by rw [hl]; simp
    have hrd : rd_T43 l (p.length : Int) = c := by rw [hl]; exact rd_mid p c s
    have hc : (cm c).ok := hv.head (c := cm c) (l := cms s)
    have ho := outs_one hc
    have hz : (c.f2.size : Int) = ((cm c).s.length : Int) := by simp [cm]
    have hin : outC (cms (c :: s)) = outs (cm c).at_ + outC (cms s) := by simp [cms, outC]
    have he : (p ++ [c]).length = p.length + 1 := by simp
    rw [hin] at h1 ⊢
    simp only [List.length_cons] at hk
    have := ih (p ++ [c]) (acc + outs (cm c).at_) k (by simp [hl]) (Vl.tail (c := cm c) hv) h0 (by omega) (by omega)
    rw [he, Nat.add_assoc] at this
    simp only [comitiaref4_Out.l0]
    rw [if_pos (by omega), if_pos (by omega), hrd, w_succ _ (by omega), hz]
    have f1 : (cm c).n = c.f1 := rfl
    have f0 : (cm c).k = c.f0 := rfl
    rw [f1, f0] at ho
    have hnn : 0 ≤ c.f1 := by rcases hc with ⟨_, h, _⟩ | ⟨_, h, _⟩ | ⟨_, h, _⟩ <;> (have h' : _ := h; rw [f1] at h'; omega)
    by_cases h2 : c.f0 = 1
    · rw [if_pos h2] at ho ⊢
      rw [w64 (x := (acc : Int) + c.f1) (by omega) (by omega), w64 (by omega) (by omega), Int.add_assoc, ← ho]
      exact this
    · rw [if_neg h2] at ho ⊢
      rw [Int.zero_add] at ho
      rw [w64 (by omega) (by omega), ← ho]
      exact this
theorem ref_out (l : List S43) (h : good (cms l) = true) (k : Nat) (hk : l.length < k) : comitiaref4_Out.f k l = some ((outC (cms l) : Nat) : Int) := by
  have h1 := (good_iff.1 h).2
  have := out_loop l l [] 0 k rfl (good_iff.1 h).1 (by have := good_len h; omega) (by omega) hk
  unfold comitiaref4_Out.f
  simpa using this
end Go.Proofs.Ytjmnflgicolbdaa.Q

namespace Go.Proofs.Ytjmnflgicolbdaa.Q
open Go.OpM Go.RowKit Go.Cx Go.Proofs.YtjmnflgicolbdaaW.PrintWords Go.Proofs.YtjmnflgicolbdaaW.PrintLast Go.Proofs.YtjmnflgicolbdaaW.PrintMore
set_option linter.unusedVariables false
set_option linter.unusedSimpArgs false

theorem kp_sc {n : Nat} (h : 0 < n) : scs (kp n) = [⟨1, (n : Int), ⟨#[]⟩⟩] := by unfold kp; rw [if_neg (by omega)]; simp [scs, sc]
theorem kp_z : scs (kp 0) = [] := rfl
theorem pp_sc {q : List UInt8} (h : q ≠ []) : scs (pp q) = [⟨2, 0, ⟨q.toArray⟩⟩] := by unfold pp; rw [if_neg h]; simp [scs, sc]
theorem cp_sc {n : Nat} (h : 0 < n) : scs (cp n) = [⟨3, (n : Int), ⟨#[]⟩⟩] := by unfold cp; rw [if_neg (by omega)]; simp [scs, sc]
/-- Where the reference's Normal stands: a keep on its way, or a gap behind it. -/
def RSt (base : List S43) (keep : Nat) (put : List UInt8) (cut : Nat) (x3 : List S43) (x6 : Nat) : Prop :=
  (x3 = base ∧ x6 = keep ∧ put = [] ∧ cut = 0) ∨ (x3 = base ++ scs (kp keep) ∧ x6 = 0 ∧ (keep = 0 ∨ ¬ (put = [] ∧ cut = 0)))
/-- The default arm: what the gap was is written, and keeps go on. -/
theorem rn_keep (l : List S43) (k : Nat) (base x3 : List S43) (keep : Nat) (put : List UInt8) (cut x6 : Nat) (n : Nat) (i : Int) (s2 : ByteArray) (h : RSt base keep put cut x3 x6) (hb : x3.length ≤ 1000000) (hs : x6 + n ≤ 1000000) (hi : 0 ≤ i) (hi2 : i ≤ 1000000) :
    comitiaref4_Normal.j1 (k + 1) l x3 ⟨put.toArray⟩ cut x6 i 1 n s2 = comitiaref4_Normal.l0 k l (x3 ++ scs (pp put ++ cp cut)) ⟨#[]⟩ 0 ((x6 + n : Nat) : Int) (i + 1) := by
  simp only [comitiaref4_Normal.j1]
  rw [if_neg (by decide), if_neg (by decide), w64 (x := (x6 : Int) + n) (by omega) (by omega), w64 (x := i + 1) (by omega) (by omega), ba_list]
  have hx : ((x6 : Int) + (n : Int)) = ((x6 + n : Nat) : Int) := by omega
  rw [hx]
  by_cases hp : put = []
  · rw [if_pos hp]
    have e1 : scs (pp put) = [] := by rw [hp]; rfl
    by_cases hc : cut = 0
    · rw [if_neg (by omega)]
      have e2 : scs (cp cut) = [] := by rw [hc]; rfl
      rw [scs_append, e1, e2]; simp
    · rw [if_pos (by omega), if_pos (by omega), scs_append, e1, cp_sc (by omega)]; simp
  · rw [if_neg hp, if_pos (by omega)]
    simp only [Option.bind_some]
    by_cases hc : cut = 0
    · rw [if_neg (by omega)]
      have e2 : scs (cp cut) = [] := by rw [hc]; rfl
      rw [scs_append, pp_sc hp, e2]; simp
    · rw [if_pos (by omega), if_pos (by simp; omega), scs_append, pp_sc hp, cp_sc (by omega)]; simp
set_option maxHeartbeats 1000000 in
theorem rn_loop (l s : List S43) : ∀ (p base x3 : List S43) (keep : Nat) (put : List UInt8) (cut x6 k : Nat), l = p ++ s → Vl (cms s) → l.length ≤ 100000 → keep + cut + put.length + (at_ (cms s)).length ≤ 900000 → base.length + 3 * (at_ (cms s)).length + 5 ≤ 900000 → RSt base keep put cut x3 x6 → 2 * s.length + 4 ≤ k →
    comitiaref4_Normal.l0 k l x3 ⟨put.toArray⟩ cut x6 (p.length : Int) = some (base ++ scs (nfGo (at_ (cms s)) keep put cut)) := by
  induction s with
  | nil =>
    intro p base x3 keep put cut x6 k hl hv h0 h1 h2 h3 hk
    obtain ⟨k, rfl⟩ : ∃ m, k = m + 3 := ⟨k - 3, by omega⟩
    have hpl : p.length = l.length := by rw [hl]; simp
    have e1 := pp_cp_len put cut
    have e2 := kp_len keep
    have hx3 : x3.length ≤ base.length + 1 ∧ x6 ≤ keep := by
      rcases h3 with ⟨a, b, _⟩ | ⟨a, b, _⟩
      · rw [a, b]; omega
      · rw [a, b, List.length_append, scs_length]; omega
    simp only [cms, List.map_nil, at_nil, List.length_nil] at h1 h2 ⊢
    simp only [comitiaref4_Normal.l0]
    rw [if_pos (by omega), if_neg (by omega)]
    have hh := rn_keep l (k + 1) base x3 keep put cut x6 0 (p.length : Int) ⟨#[]⟩ h3 (by omega) (by omega) (by omega) (by omega)
    have hz : (((0 : Nat)) : Int) = 0 := rfl
    rw [hz] at hh
    rw [hh]
    simp only [comitiaref4_Normal.l0]
    rw [if_neg (by omega), Nat.add_zero]
    simp only [nfGo]
    rcases h3 with ⟨a, b, hp, hc⟩ | ⟨a, b, hg⟩
    · subst a b hp hc
      by_cases hz : x6 = 0
      · subst hz
        rw [if_neg (by omega)]; simp [scs, pp, cp, kp]
      · rw [if_pos (by omega), if_pos (by simp [pp, cp, scs]; omega), scs_append, scs_append, scs_append, kp_sc (by omega)]
        simp [pp, cp, scs]
    · subst a b
      rw [if_neg (by omega), scs_append, scs_append, scs_append]
      simp
  | cons c s ih =>
    intro p base x3 keep put cut x6 k hl hv h0 h1 h2 h3 hk
    obtain ⟨k, rfl⟩ : ∃ m, k = m + 2 := ⟨k - 2, by omega⟩
    have hpl : p.length < l.length := by rw [hl]; simp
    have hrd : rd_T43 l (p.length : Int) = c := by rw [hl]; exact rd_mid p c s
    have hl' : l = (p ++ [c]) ++ s := by simp [hl]
    have hvs : Vl (cms s) := Vl.tail (c := cm c) hv
    have he : (((p ++ [c]).length : Nat) : Int) = (p.length : Int) + 1 := by simp
    have e1 := pp_cp_len put cut
    have e2 := kp_len keep
    have hx3 : x3.length ≤ base.length + 1 ∧ x6 ≤ keep := by
      rcases h3 with ⟨a, b, _⟩ | ⟨a, b, _⟩
      · rw [a, b]; omega
      · rw [a, b, List.length_append, scs_length]; omega
    simp only [List.length_cons] at hk
    have hcm : cms (c :: s) = cm c :: cms s := rfl
    rw [hcm, at_cons] at h1 h2 ⊢
    simp only [List.length_append] at h1 h2
    simp only [comitiaref4_Normal.l0]
    rw [if_pos (by omega), if_pos (by omega), if_pos (by omega), hrd]
    rcases Cm.cases (hv.head (c := cm c) (l := cms s)) with ⟨n, hn, hc⟩ | ⟨q, hq, hc⟩ | ⟨n, hn, hc⟩
    · have hc' : c = ⟨1, n, ⟨#[]⟩⟩ := by rw [← sc_cm c, hc]; rfl
      rw [hc, at_keep] at h1 h2 ⊢
      have hkl : (keeps n).length = n := by simp [keeps]
      rw [hkl] at h1 h2
      have f0 : c.f0 = 1 := by rw [hc']
      have f1 : c.f1 = (n : Int) := by rw [hc']
      rw [f0, f1, rn_keep l k base x3 keep put cut x6 n (p.length : Int) c.f2 h3 (by omega) (by omega) (by omega) (by omega), ← he]
      rcases h3 with ⟨a, b, hp, hcu⟩ | ⟨a, b, hg⟩
      · subst a b hp hcu
        rw [nfGo_keeps0]
        have := ih (p ++ [c]) x3 x3 (x6 + n) [] 0 (x6 + n) k hl' hvs h0 (by simp only [List.length_nil] at *; omega) (by omega) (.inl ⟨rfl, rfl, rfl, rfl⟩) (by omega)
        simpa [pp, cp, scs] using this
      · subst a b
        by_cases hgap : put = [] ∧ cut = 0
        · obtain ⟨rfl, rfl⟩ := hgap
          have hk0 : keep = 0 := by rcases hg with h | h; exact h; exact absurd ⟨rfl, rfl⟩ h
          subst hk0
          rw [nfGo_keeps0]
          have := ih (p ++ [c]) base base n [] 0 n k hl' hvs h0 (by simp only [List.length_nil] at *; omega) (by omega) (.inl ⟨rfl, rfl, rfl, rfl⟩) (by omega)
          simpa [pp, cp, kp, scs] using this
        · rw [nfGo_keeps _ _ _ _ _ hn hgap]
          have := ih (p ++ [c]) (base ++ scs (kp keep) ++ scs (pp put ++ cp cut)) _ n [] 0 n k hl' hvs h0 (by simp only [List.length_nil] at *; omega) (by simp only [List.length_append, scs_length] at *; omega) (.inl ⟨rfl, rfl, rfl, rfl⟩) (by omega)
          rw [Nat.zero_add]
          simpa [scs_append] using this
    · have hc' : c = ⟨2, 0, ⟨q.toArray⟩⟩ := by rw [← sc_cm c, hc]; rfl
      rw [hc, at_put] at h1 h2 ⊢
      have hql : (puts q).length = q.length := by simp [puts]
      rw [hql] at h1 h2
      have f0 : c.f0 = 2 := by rw [hc']
      have f2 : c.f2 = ⟨q.toArray⟩ := by rw [hc']
      simp only [comitiaref4_Normal.j1]
      rw [f0, f2, if_pos rfl, ba_size, ba_size, ba_app, w_succ _ (by omega), show ((p.length + 1 : Nat) : Int) = (p.length : Int) + 1 from by omega, ← he, nfGo_puts]
      rcases h3 with ⟨a, b, hp, hcu⟩ | ⟨a, b, hg⟩
      · subst a b hp hcu
        by_cases hz : x6 = 0
        · subst hz
          rw [if_neg (by omega), if_pos (by simp only [List.length_nil] at *; omega)]
          exact ih (p ++ [c]) x3 x3 0 ([] ++ q) 0 0 k hl' hvs h0 (by simp only [List.nil_append, List.length_nil] at *; omega) (by omega) (.inr ⟨by simp [kp, scs], rfl, .inl rfl⟩) (by omega)
        · rw [if_pos (by omega), if_pos (by omega), if_pos (by simp only [List.length_nil] at *; omega)]
          exact ih (p ++ [c]) x3 _ x6 ([] ++ q) 0 0 k hl' hvs h0 (by simp only [List.nil_append, List.length_nil] at *; omega) (by omega) (.inr ⟨by rw [kp_sc (by omega)], rfl, .inr (by simp [hq])⟩) (by omega)
      · subst a b
        rw [if_neg (by omega), if_pos (by omega)]
        exact ih (p ++ [c]) base _ keep (put ++ q) cut 0 k hl' hvs h0 (by simp only [List.length_append] at *; omega) (by omega) (.inr ⟨rfl, rfl, .inr (by simp [hq])⟩) (by omega)
    · have hc' : c = ⟨3, n, ⟨#[]⟩⟩ := by rw [← sc_cm c, hc]; rfl
      rw [hc, at_cut] at h1 h2 ⊢
      have hql : (cuts n).length = n := by simp [cuts]
      rw [hql] at h1 h2
      have f0 : c.f0 = 3 := by rw [hc']
      have f1 : c.f1 = (n : Int) := by rw [hc']
      simp only [comitiaref4_Normal.j1]
      rw [f0, f1, if_neg (by decide), if_pos rfl, w64 (x := (cut : Int) + n) (by omega) (by omega), w_succ _ (by omega), show ((p.length + 1 : Nat) : Int) = (p.length : Int) + 1 from by omega, ← he, nfGo_cuts, show ((cut : Int) + (n : Int)) = ((cut + n : Nat) : Int) from by omega]
      rcases h3 with ⟨a, b, hp, hcu⟩ | ⟨a, b, hg⟩
      · subst a b hp hcu
        by_cases hz : x6 = 0
        · subst hz
          rw [if_neg (by omega)]
          exact ih (p ++ [c]) x3 x3 0 [] (0 + n) 0 k hl' hvs h0 (by simp only [List.length_nil] at *; omega) (by omega) (.inr ⟨by simp [kp, scs], rfl, .inl rfl⟩) (by omega)
        · rw [if_pos (by omega), if_pos (by omega)]
          exact ih (p ++ [c]) x3 _ x6 [] (0 + n) 0 k hl' hvs h0 (by simp only [List.length_nil] at *; omega) (by omega) (.inr ⟨by rw [kp_sc (by omega)], rfl, .inr (by intro h; omega)⟩) (by omega)
      · subst a b
        rw [if_neg (by omega)]
        exact ih (p ++ [c]) base _ keep put (cut + n) 0 k hl' hvs h0 (by omega) (by omega) (.inr ⟨rfl, rfl, .inr (by intro h; omega)⟩) (by omega)
theorem ref_normal (l : List S43) (h : good (cms l) = true) (k : Nat) (hk : 2 * l.length + 4 ≤ k) : comitiaref4_Normal.f k l = some (scs (nf (at_ (cms l)))) := by
  obtain ⟨h1, h2⟩ := good_iff.1 h
  have h3 := good_len h
  have h4 := at_len (at_ (cms l))
  unfold inC outC at h2
  have := rn_loop l l [] [] [] 0 [] 0 0 k (by simp) h1 (by omega) (by simp; omega) (by simp; omega) (.inl ⟨rfl, rfl, rfl, rfl⟩) hk
  unfold comitiaref4_Normal.f nf
  simpa using this
end Go.Proofs.Ytjmnflgicolbdaa.Q

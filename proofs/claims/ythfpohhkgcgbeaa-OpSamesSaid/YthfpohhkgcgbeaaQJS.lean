/- Functions of operations in plain words (several texts as one). -/
import Derived.Test.YthfpohhkgcgbeaaQxopNormal
import Derived.Test.YthfpohhkgcgbeaaQxcomitialaw4known
import Derived.Test.YthfpohhkgcgbeaaQxcomitialaw4Make
import Derived.Test.YthfpohhkgcgbeaaQxopSame
namespace Go.Proofs.Ythfpohhkgcgbeaa.Q
open Go.OpM Go.RowKit Go.Cx
set_option linter.unusedVariables false
set_option linter.unusedSimpArgs false

theorem w64 {x : Int} (h0 : -9223372036854775808 ≤ x) (h1 : x ≤ 9223372036854775807) : wrap64 x = x := by unfold wrap64; omega
theorem rd_mid (p : List S30) (c : S30) (s : List S30) : rd_T30 (p ++ c :: s) (p.length : Int) = c := by
  simp [rd_T30, List.getD_eq_getElem?_getD]
theorem ba_app (a b : List UInt8) : (⟨a.toArray⟩ : ByteArray) ++ ⟨b.toArray⟩ = ⟨(a ++ b).toArray⟩ := by
  apply ByteArray.ext
  simp [ByteArray.data_append]
theorem ba_size (a : List UInt8) : (⟨a.toArray⟩ : ByteArray).size = a.length := by simp [ByteArray.size]
theorem ba_list (a : List UInt8) : (⟨a.toArray⟩ : ByteArray).toList = a := ByteArray.toList_mk a
theorem scs_append (a b : List Cm) : scs (a ++ b) = scs a ++ scs b := by simp [scs]
theorem scs_length (a : List Cm) : (scs a).length = a.length := by simp [scs]
theorem cms_append (a b : List S30) : cms (a ++ b) = cms a ++ cms b := by simp [cms]
theorem cms_length (a : List S30) : (cms a).length = a.length := by simp [cms]
theorem scs_inj {a b : List Cm} (h : scs a = scs b) : a = b := by rw [← cms_scs a, ← cms_scs b, h]
theorem cms_inj {a b : List S30} (h : cms a = cms b) : a = b := by rw [← scs_cms a, ← scs_cms b, h]

theorem parts_eq (p : List UInt8) (c : Nat) : op_gap_parts.f ⟨p.toArray⟩ c = some (scs (pp p ++ cp c)) := by
  unfold op_gap_parts.f pp cp
  rw [ba_list]
  by_cases hp : p = []
  · subst hp
    by_cases hc : c = 0
    · subst hc; simp [scs]
    · rw [if_pos rfl, if_pos (by omega)]; simp [hc, scs, sc]
  · by_cases hc : c = 0
    · subst hc; simp [hp, scs, sc]
    · rw [if_neg hp]; simp [hp, hc, scs, sc]
theorem pp_cp_len (p : List UInt8) (c : Nat) : (pp p ++ cp c).length ≤ 2 := by unfold pp cp; split <;> split <;> simp
theorem kp_len (k : Nat) : (kp k).length ≤ 1 := by unfold kp; split <;> simp
/-- Weights. -/
theorem ok_len {c : Cm} (h : c.ok) : 1 ≤ c.at_.length := by
  rcases Cm.cases h with ⟨n, hn, rfl⟩ | ⟨s, hs, rfl⟩ | ⟨n, hn, rfl⟩
  · simp [keeps]; omega
  · simp only [at_put, puts, List.length_map]; exact List.length_pos_iff.2 hs
  · simp [cuts]; omega
theorem at_len (x : List A) : x.length ≤ ins x + outs x := by
  induction x with
  | nil => simp
  | cons a x ih => cases a <;> simp [ins, outs] <;> omega
theorem ins_le (x : List A) : ins x ≤ x.length := by
  induction x with
  | nil => simp [ins]
  | cons a x ih => cases a <;> simp [ins] <;> omega
theorem outs_le (x : List A) : outs x ≤ x.length := by
  induction x with
  | nil => simp [outs]
  | cons a x ih => cases a <;> simp [outs] <;> omega
theorem vl_len {l : List Cm} (h : Vl l) : l.length ≤ (at_ l).length := by
  induction l with
  | nil => simp
  | cons c l ih => have := ih h.tail; have := ok_len h.head; simp; omega
theorem good_len {l : List S30} (h : good (cms l) = true) : l.length ≤ 100000 := by
  obtain ⟨h1, h2⟩ := good_iff.1 h
  have := vl_len h1
  have := at_len (at_ (cms l))
  unfold inC outC at h2
  rw [cms_length] at *
  omega

theorem kp_last (b : List S30) (k : Nat) (hk : k ≠ 0) (n : Int) :
    (b ++ scs (kp k)).set (b.length) (⟨1, n, ⟨#[]⟩⟩ : S30) = b ++ [⟨1, n, ⟨#[]⟩⟩] := by
  simp [kp, hk, scs]

set_option maxHeartbeats 1000000 in
theorem normal_loop (l : List S30) (s : List S30) : ∀ (p : List S30) (base : List S30) (keep : Nat) (put : List UInt8) (cut k : Nat),
    l = p ++ s → Vl (cms s) → l.length ≤ 1000000 → keep + cut + put.length + (at_ (cms s)).length ≤ 1000000 → base.length + 3 * (at_ (cms s)).length + 5 ≤ 900000 → (keep = 0 → base = []) → s.length < k →
    op_Normal.l0 k (base ++ scs (kp keep)) l (l.length : Int) (p.length : Int) ⟨put.toArray⟩ cut = some (base ++ scs (nfGo (at_ (cms s)) keep put cut)) := by
  induction s with
  | nil =>
    intro p base keep put cut k hl hv h0 h1 h2 h3 hk
    obtain ⟨k, rfl⟩ : ∃ m, k = m + 1 := ⟨k - 1, by omega⟩
    have hpl : p.length = l.length := by rw [hl]; simp
    have e1 := pp_cp_len put cut
    have e2 := kp_len keep
    simp only [op_Normal.l0]
    rw [if_neg (by omega), parts_eq]
    simp only [Option.bind_some]
    rw [if_pos (by simp only [List.length_append, scs_length] at *; omega)]
    unfold slices_Clone_Comp.f
    rw [if_pos (by simp only [List.length_append, scs_length] at *; omega)]
    simp [cms, nfGo, scs_append]
  | cons c s ih =>
    intro p base keep put cut k hl hv h0 h1 h2 h3 hk
    obtain ⟨k, rfl⟩ : ∃ m, k = m + 1 := ⟨k - 1, by omega⟩
    have hpl : p.length < l.length := by rw [hl]; simp
    have hrd : rd_T30 l (p.length : Int) = c := by rw [hl]; exact rd_mid p c s
    have hw : wrap64 ((p.length : Int) + 1) = ((p ++ [c]).length : Nat) := by rw [w64 (by omega) (by omega)]; simp
    have hl' : l = (p ++ [c]) ++ s := by simp [hl]
    have hvs : Vl (cms s) := Vl.tail (c := cm c) hv
    simp only [List.length_cons] at hk
    have hcm : cms (c :: s) = cm c :: cms s := rfl
    rw [hcm, at_cons] at h1 h2 ⊢
    simp only [List.length_append] at h1 h2
    simp only [op_Normal.l0]
    rw [if_pos (by omega), if_pos (by omega), if_pos (by omega), hrd, hw]
    have e1 := pp_cp_len put cut
    have e2 := kp_len keep
    rcases Cm.cases (hv.head (c := cm c) (l := cms s)) with ⟨n, hn, hc⟩ | ⟨q, hq, hc⟩ | ⟨n, hn, hc⟩
    · have hc' : c = ⟨1, n, ⟨#[]⟩⟩ := by rw [← sc_cm c, hc]; rfl
      rw [hc, at_keep] at h1 h2 ⊢
      rw [hc'] at hw ⊢
      have hkl : (keeps n).length = n := by simp [keeps]
      simp only
      rw [if_neg (by decide), if_neg (by decide), if_pos trivial, parts_eq]
      simp only [Option.bind_some]
      rw [if_pos (by simp only [List.length_append, scs_length] at *; omega)]
      by_cases hg : put = [] ∧ cut = 0
      · obtain ⟨rfl, rfl⟩ := hg
        have ee : pp ([] : List UInt8) ++ cp 0 = [] := rfl
        rw [ee]
        have ee2 : scs ([] : List Cm) = [] := rfl
        rw [ee2, List.append_nil]
        rw [nfGo_keeps0]
        by_cases hk0 : keep = 0
        · have hb := h3 hk0
          subst hk0 hb
          have ee3 : ([] : List S30) ++ scs (kp 0) = [] := rfl
          rw [ee3]
          rw [if_neg (by simp), if_pos (by simp)]
          have := ih (p ++ [⟨1, n, ⟨#[]⟩⟩]) [] n [] 0 k (by rw [hl', hc']) hvs h0 (by rw [hkl] at h1; simp only [List.length_nil] at h1 ⊢; omega) (by rw [hkl] at h2; simp only [List.length_nil] at h2 ⊢; omega) (by intro h; rfl) (by omega)
          have ee4 : ([] : List S30) ++ scs (kp n) = ([] ++ [⟨1, (n : Int), ⟨#[]⟩⟩]) := by unfold kp; rw [if_neg (by omega)]; simp [scs, sc]
          rw [ee4] at this
          rw [Nat.zero_add]
          simpa using this
        · have hlen : (base ++ scs (kp keep)).length = base.length + 1 := by simp [kp, hk0, scs]
          rw [if_pos (by omega), if_pos (by simp [ba_list])]
          have hw2 : wrap64 (((base ++ scs (kp keep)).length : Int) - 1) = (base.length : Int) := by rw [w64 (by omega) (by omega)]; omega
          rw [hw2, if_pos (by omega), if_pos (by omega)]
          have hrd2 : rd_T30 (base ++ scs (kp keep)) (base.length : Int) = ⟨1, keep, ⟨#[]⟩⟩ := by
            have : scs (kp keep) = ⟨1, (keep : Int), ⟨#[]⟩⟩ :: ([] : List S30) := by simp [kp, hk0, scs, sc]
            rw [this]; exact rd_mid _ _ _
          rw [hrd2]
          simp only [Int.toNat_natCast]
          rw [w64 (by omega) (by omega), kp_last _ _ hk0]
          have := ih (p ++ [⟨1, n, ⟨#[]⟩⟩]) base (keep + n) [] 0 k (by rw [hl', hc']) hvs h0 (by simp at *; omega) (by omega) (by omega) (by omega)
          have ee4 : scs (kp (keep + n)) = [⟨1, (keep : Int) + n, ⟨#[]⟩⟩] := by
            unfold kp; rw [if_neg (by omega)]; simp [scs, sc]
          rw [ee4] at this
          simpa using this
      · rw [nfGo_keeps _ _ _ _ _ hn hg]
        have hnz : (pp put ++ cp cut) ≠ [] := by
          unfold pp cp; split <;> split <;> simp_all
        have hlp : 0 < (pp put ++ cp cut).length := List.length_pos_iff.2 hnz
        have hgb : ((⟨put.toArray⟩ : ByteArray).toList == ([] : List UInt8) && ((cut : Int) == 0)) = false := by
          rw [ba_list]
          rcases Classical.em (put = []) with h | h
          · have : cut ≠ 0 := fun h' => hg ⟨h, h'⟩
            simp; intro _; omega
          · simp [h]
        rw [if_pos (by simp only [List.length_append, scs_length] at *; omega), hgb, if_neg (by decide), if_pos (by simp only [List.length_append, scs_length] at *; omega)]
        have := ih (p ++ [⟨1, n, ⟨#[]⟩⟩]) (base ++ scs (kp keep) ++ scs (pp put ++ cp cut)) n [] 0 k (by rw [hl', hc']) hvs h0 (by simp at *; omega) (by simp only [List.length_append, scs_length] at *; omega) (by omega) (by omega)
        have ee4 : scs (kp n) = [⟨1, (n : Int), ⟨#[]⟩⟩] := by
          unfold kp; rw [if_neg (by omega)]; simp [scs, sc]
        rw [ee4] at this
        simpa [scs_append] using this
    · have hc' : c = ⟨2, 0, ⟨q.toArray⟩⟩ := by rw [← sc_cm c, hc]; rfl
      rw [hc, at_put] at h1 h2 ⊢
      rw [hc'] at hw ⊢
      have hql : (puts q).length = q.length := by simp [puts]
      simp only
      rw [if_pos trivial, if_pos (by rw [ba_size, ba_size]; omega), nfGo_puts, ba_app]
      exact ih _ base keep (put ++ q) cut k (by rw [hl', hc']) hvs h0 (by simp at *; omega) (by omega) h3 (by omega)
    · have hc' : c = ⟨3, n, ⟨#[]⟩⟩ := by rw [← sc_cm c, hc]; rfl
      rw [hc, at_cut] at h1 h2 ⊢
      rw [hc'] at hw ⊢
      have hql : (cuts n).length = n := by simp [cuts]
      simp only
      rw [if_neg (by decide), if_pos trivial, nfGo_cuts, w64 (by omega) (by omega)]
      have := ih (p ++ [⟨3, n, ⟨#[]⟩⟩]) base keep put (cut + n) k (by rw [hl', hc']) hvs h0 (by omega) (by omega) h3 (by omega)
      simpa using this

theorem normal_eq (l : List S30) (h : good (cms l) = true) (k : Nat) (hk : l.length < k) : op_Normal.f k l = some (scs (nf (at_ (cms l)))) := by
  obtain ⟨h1, h2⟩ := good_iff.1 h
  have h3 := good_len h
  have h4 := at_len (at_ (cms l))
  unfold inC outC at h2
  have := normal_loop l l [] [] 0 [] 0 k (by simp) h1 (by omega) (by simp; omega) (by simp; omega) (by intro _; rfl) hk
  unfold op_Normal.f nf
  simpa [kp, scs] using this
end Go.Proofs.Ythfpohhkgcgbeaa.Q

namespace Go.Proofs.Ythfpohhkgcgbeaa.Q
open Go.OpM Go.RowKit Go.Cx Go.Proofs.YthfpohhkgcgbeaaW.PrintWords Go.Proofs.YthfpohhkgcgbeaaW.PrintLast Go.Proofs.YthfpohhkgcgbeaaW.PrintMore
set_option linter.unusedVariables false
set_option linter.unusedSimpArgs false
theorem known_true (k : Nat) (hk : 10 ≤ k) : comitialaw4_known.f k = some true := by
  unfold comitialaw4_known.f
  rw [normal_eq _ (by decide) k (by simp; omega)]
  have e : scs (nf (at_ (cms [⟨3, 1, (⟨#[]⟩ : ByteArray)⟩, ⟨2, 0, (⟨#[120]⟩ : ByteArray)⟩, ⟨2, 0, (⟨#[121]⟩ : ByteArray)⟩]))) = [⟨2, 0, ⟨#[120, 121]⟩⟩, ⟨3, 1, ⟨#[]⟩⟩] := rfl
  rw [e]
  have e2 : (⟨#[120, 121]⟩ : ByteArray).toList = [120, 121] := ByteArray.toList_mk _
  simp [rd_T30, e2]
end Go.Proofs.Ythfpohhkgcgbeaa.Q

namespace Go.Proofs.Ythfpohhkgcgbeaa.Q
open Go.OpM Go.RowKit Go.Cx Go.Proofs.YthfpohhkgcgbeaaW.PrintWords Go.Proofs.YthfpohhkgcgbeaaW.PrintLast Go.Proofs.YthfpohhkgcgbeaaW.PrintMore
set_option linter.unusedVariables false
set_option linter.unusedSimpArgs false

theorem within_eq (a n : Int) (h0 : 0 < n) (h1 : n ≤ 1000000000000) : comitialaw4_within.f a n = some (a % n) := by
  unfold comitialaw4_within.f
  rw [if_neg (by omega)]
  have e := Int.tmod_eq_emod (a := a) (b := n)
  have p1 := Int.emod_nonneg a (by omega : n ≠ 0)
  have p2 := Int.emod_lt_of_pos a h0
  by_cases hd : n ∣ a
  · have e0 : a % n = 0 := Int.emod_eq_zero_of_dvd hd
    have : a.tmod n = 0 := by rw [e]; simp [hd, e0]
    rw [this, if_neg (by omega), e0]
  · by_cases ha : 0 ≤ a
    · have : a.tmod n = a % n := by rw [e]; simp [ha]
      rw [this, if_neg (by omega)]
    · have : a.tmod n = a % n - n := by
        rw [e, if_neg (by simp [ha, hd])]
        omega
      rw [this, if_pos (by omega), w64 (by omega) (by omega)]
      congr 1; omega
/-- What is told of an operation that Make makes. -/
structure Made (n : Nat) (r : List S30) : Prop where
  vl : Vl (cms r)
  ins : inC (cms r) = n
  outs : outC (cms r) ≤ 120
  len : r.length ≤ 14
theorem inC_append (a b : List Cm) : inC (a ++ b) = inC a + inC b := by simp [inC]
theorem outC_append (a b : List Cm) : outC (a ++ b) = outC a + outC b := by simp [outC]
theorem keep_cm {n : Nat} (h : 1 ≤ n) : Vl (cms [⟨1, (n : Int), ⟨#[]⟩⟩]) ∧ inC (cms [⟨1, (n : Int), ⟨#[]⟩⟩]) = n ∧ outC (cms [⟨1, (n : Int), ⟨#[]⟩⟩]) = n := by
  have e : cms [⟨1, (n : Int), ⟨#[]⟩⟩] = [⟨1, n, []⟩] := rfl
  rw [e]
  exact ⟨Vl.cons (keep_ok h) Vl.nil, by simp [inC, ins], by simp [outC, outs]⟩
theorem cut_cm {n : Nat} (h : 1 ≤ n) : Vl (cms [⟨3, (n : Int), ⟨#[]⟩⟩]) ∧ inC (cms [⟨3, (n : Int), ⟨#[]⟩⟩]) = n ∧ outC (cms [⟨3, (n : Int), ⟨#[]⟩⟩]) = 0 := by
  have e : cms [⟨3, (n : Int), ⟨#[]⟩⟩] = [⟨3, n, []⟩] := rfl
  rw [e]
  exact ⟨Vl.cons (cut_ok h) Vl.nil, by simp [inC, ins], by simp [outC, outs]⟩
theorem put_cm (s : ByteArray) (h : 0 < s.size) : Vl (cms [⟨2, 0, s⟩]) ∧ inC (cms [⟨2, 0, s⟩]) = 0 ∧ outC (cms [⟨2, 0, s⟩]) = s.size := by
  have e : cms [⟨2, 0, s⟩] = [⟨2, 0, s.data.toList⟩] := rfl
  have hs : s.size = s.data.toList.length := by simp
  rw [e]
  exact ⟨Vl.cons (put_ok (by intro h0; rw [h0] at hs; simp only [List.length_nil] at hs; omega)) Vl.nil, by simp [inC, ins], by simp [outC, outs]⟩
theorem abc_size (j : Int) (h0 : 0 ≤ j) (h1 : j ≤ 10) : ((⟨#[97, 98, 99, 100, 101, 102, 103, 104, 105, 106]⟩ : ByteArray).extract 0 j.toNat).size = j.toNat := by
  rw [ByteArray.size_extract]
  have : (⟨#[97, 98, 99, 100, 101, 102, 103, 104, 105, 106]⟩ : ByteArray).size = 10 := rfl
  omega

/-- The end of Make. -/
theorem make_end (ns : List Int) (n : Nat) (o : List S30) (out i : Int) (N : Nat) (k : Nat) (hv : Vl (cms o)) (hi : inC (cms o) + n = N) (ho : (outC (cms o) : Int) + n = out) (hout : out ≤ 120) (hl : o.length ≤ 12) (hne : o = [] → n = 0 → N = 0) :
    ∃ r, comitialaw4_Make.j1 (k + 1) n ns o out i false = some r ∧ Made N r ∧ (0 < N → r ≠ []) := by
  simp only [comitialaw4_Make.j1]
  rw [if_neg (by decide)]
  -- the keep behind
  obtain ⟨r, hr, hrv, hri, hro, hrl, hrn⟩ : ∃ r : List S30, (r = if (n : Int) > 0 then o ++ [⟨1, n, ⟨#[]⟩⟩] else o) ∧ Vl (cms r) ∧ inC (cms r) = N ∧ (outC (cms r) : Int) = out ∧ r.length ≤ 13 ∧ (0 < N → r ≠ []) := by
    by_cases hn : (n : Int) > 0
    · obtain ⟨q1, q2, q3⟩ := keep_cm (n := n) (by omega)
      refine ⟨o ++ [⟨1, n, ⟨#[]⟩⟩], by rw [if_pos hn], ?_, ?_, ?_, ?_, ?_⟩
      · rw [cms_append]; exact hv.append q1
      · rw [cms_append, inC_append, q2]; omega
      · rw [cms_append, outC_append, q3]; omega
      · simp; omega
      · intro _; simp
    · refine ⟨o, by rw [if_neg hn], hv, by omega, by omega, by omega, ?_⟩
      intro h0 e; have := hne e (by omega); omega
  have hz : ∀ r : List S30, Vl (cms r) → inC (cms r) = N → (outC (cms r) : Int) = out → r.length ≤ 13 → (0 < N → r ≠ []) → ∀ t : Int, ∃ r', (if t = 0 then (if out ≤ 115 then (if r.length < 4398046511104 then (some (r ++ [(⟨2, 0, (⟨#[122]⟩ : ByteArray)⟩ : S30)])) else (none)) else (some r)) else (some r)) = some r' ∧ Made N r' ∧ (0 < N → r' ≠ []) := by
    intro r hv hi ho hl hn t
    split
    · split
      · rw [if_pos (by omega)]
        obtain ⟨q1, q2, q3⟩ := put_cm ⟨#[122]⟩ (by decide)
        refine ⟨_, rfl, ⟨?_, ?_, ?_, ?_⟩, fun _ => by simp⟩
        · rw [cms_append]; exact hv.append q1
        · rw [cms_append, inC_append, q2]; omega
        · rw [cms_append, outC_append, q3]; have : (⟨#[122]⟩ : ByteArray).size = 1 := rfl; omega
        · simp; omega
      · exact ⟨r, rfl, ⟨hv, hi, by omega, by omega⟩, hn⟩
    · exact ⟨r, rfl, ⟨hv, hi, by omega, by omega⟩, hn⟩
  by_cases hn : (n : Int) > 0
  · rw [if_pos hn] at hr ⊢
    rw [if_pos (by omega)]
    simp only [Option.bind_some]
    rw [← hr]
    by_cases h0 : (ns.length : Int) > 0
    · rw [if_pos h0, if_pos h0, within_eq _ _ (by omega) (by omega)]
      simp only [Option.bind_some]
      exact hz r hrv hri hro hrl hrn _
    · rw [if_neg h0]
      exact ⟨r, rfl, ⟨hrv, hri, by omega, by omega⟩, hrn⟩
  · rw [if_neg hn] at hr ⊢
    rw [← hr]
    by_cases h0 : (ns.length : Int) > 0
    · rw [if_pos h0, if_pos h0, within_eq _ _ (by omega) (by omega)]
      simp only [Option.bind_some]
      exact hz r hrv hri hro hrl hrn _
    · rw [if_neg h0]
      exact ⟨r, rfl, ⟨hrv, hri, by omega, by omega⟩, hrn⟩

theorem w_succ (i : Nat) (h : i ≤ 1000000000000) : wrap64 ((i : Int) + 1) = ((i + 1 : Nat) : Int) := by rw [w64 (by omega) (by omega)]; simp
theorem w_sub (n m : Nat) (h : m ≤ n) (h2 : n ≤ 1000000000000) : wrap64 ((n : Int) - (m : Int)) = ((n - m : Nat) : Int) := by rw [w64 (by omega) (by omega)]; omega
theorem w_add_toNat (a u : Int) (h : 0 ≤ u) (h1 : u ≤ 1000000000) (h2 : -1000000000 ≤ a) (h3 : a ≤ 1000000000) : wrap64 (a + (u.toNat : Int)) = a + u := by rw [w64 (by omega) (by omega)]; omega
theorem mn_eq (a b : Int) : mn a b = min a b := by unfold mn; split <;> omega
set_option maxHeartbeats 1000000 in
theorem make_loop (ns : List Int) (N : Nat) (d : Nat) : ∀ (n : Nat) (o : List S30) (out : Int) (i : Nat) (k : Nat), i + d = 12 → Vl (cms o) → inC (cms o) + n = N → (outC (cms o) : Int) + n = out → out ≤ 120 → o.length ≤ i → n ≤ 120 → (o = [] → n = N) → 3 * d + 3 ≤ k →
    ∃ r, comitialaw4_Make.l0 k n ns o out i = some r ∧ Made N r ∧ (0 < N → r ≠ []) := by
  induction d with
  | zero =>
    intro n o out i k hd hv hi ho hout hl hn hne hk
    obtain ⟨k, rfl⟩ : ∃ m, k = m + 2 := ⟨k - 2, by omega⟩
    simp only [comitialaw4_Make.l0]
    split
    · rw [if_neg (by omega)]
      exact make_end ns n o out i N k hv hi ho hout (by omega) (fun e h => by have := hne e; omega)
    · exact make_end ns n o out i N k hv hi ho hout (by omega) (fun e h => by have := hne e; omega)
  | succ d ih =>
    intro n o out i k hd hv hi ho hout hl hn hne hk
    obtain ⟨k, rfl⟩ : ∃ m, k = m + 3 := ⟨k - 3, by omega⟩
    have hend := make_end ns n o out i N (k + 1) hv hi ho hout (by omega) (fun e h => by have := hne e; omega)
    simp only [comitialaw4_Make.l0]
    by_cases h1 : (i : Int) < (ns.length : Int)
    · rw [if_pos h1, if_pos (by omega)]
      by_cases h2 : (n : Int) > 0
      · rw [decide_eq_true h2]
        simp only [comitialaw4_Make.j1]
        rw [if_pos trivial, if_pos (by omega), if_pos h1, mn_eq, within_eq _ _ (by omega) (by omega), within_eq _ _ (by omega) (by omega)]
        simp only [Option.bind_some]
        have t0 := Int.emod_nonneg (wrap64 ((rd ns i).tdiv 7)) (by omega : min (n : Int) 9 ≠ 0)
        have t1 := Int.emod_lt_of_pos (wrap64 ((rd ns i).tdiv 7)) (by omega : 0 < min (n : Int) 9)
        generalize wrap64 ((rd ns i).tdiv 7) % min (n : Int) 9 = t at t0 t1 ⊢
        rw [w64 (x := 1 + t) (by omega) (by omega)]
        obtain ⟨m, hm⟩ : ∃ m : Nat, 1 + t = (m : Int) := ⟨(1 + t).toNat, by omega⟩
        rw [hm]
        have hm1 : 1 ≤ m := by omega
        have hmn : m ≤ n := by omega
        have s0 := Int.emod_nonneg (rd ns i) (by omega : (4 : Int) ≠ 0)
        have s1 := Int.emod_lt_of_pos (rd ns i) (by omega : (0 : Int) < 4)
        generalize rd ns i % 4 = t4 at s0 s1 ⊢
        have hkeep : ∃ r, comitialaw4_Make.l0 k ((n - m : Nat) : Int) ns (o ++ [(⟨1, (m : Int), (⟨#[]⟩ : ByteArray)⟩ : S30)]) out ((i + 1 : Nat) : Int) = some r ∧ Made N r ∧ (0 < N → r ≠ []) := by
          obtain ⟨q1, q2, q3⟩ := keep_cm hm1
          exact ih (n - m) _ out (i + 1) k (by omega) (by rw [cms_append]; exact hv.append q1) (by rw [cms_append, inC_append, q2]; omega) (by rw [cms_append, outC_append, q3]; omega) hout (by simp; omega) (by omega) (by simp) (by omega)
        by_cases c0 : t4 = 0
        · rw [if_pos c0]
          simp only [comitialaw4_Make.j2]
          rw [if_pos (by simp [c0]), if_pos (by omega), w_succ i (by omega), w_sub n m hmn (by omega)]
          exact hkeep
        · rw [if_neg c0]
          by_cases c1 : t4 = 1
          · simp only [comitialaw4_Make.j2]
            rw [if_pos (by simp [c1]), if_pos (by omega), w_succ i (by omega), w_sub n m hmn (by omega)]
            exact hkeep
          · simp only [comitialaw4_Make.j2]
            rw [if_neg (by simp [c1])]
            by_cases c2 : t4 = 2
            · rw [if_pos c2, if_pos (by omega), w_succ i (by omega), w_sub n m hmn (by omega)]
              rw [w64 (x := out - (m : Int)) (by omega) (by omega)]
              obtain ⟨q1, q2, q3⟩ := cut_cm hm1
              exact ih (n - m) _ (out - m) (i + 1) k (by omega) (by rw [cms_append]; exact hv.append q1) (by rw [cms_append, inC_append, q2]; omega) (by rw [cms_append, outC_append, q3]; omega) (by omega) (by simp; omega) (by omega) (by simp) (by omega)
            · rw [if_neg c2, if_pos (by omega), if_pos (by omega), if_pos h1, within_eq _ _ (by omega) (by omega)]
              simp only [Option.bind_some]
              have u0 := Int.emod_nonneg (wrap64 ((rd ns i).tdiv 7)) (by omega : (5 : Int) ≠ 0)
              have u1 := Int.emod_lt_of_pos (wrap64 ((rd ns i).tdiv 7)) (by omega : (0 : Int) < 5)
              generalize wrap64 ((rd ns i).tdiv 7) % 5 = u at u0 u1 ⊢
              rw [w64 (x := 1 + u) (by omega) (by omega), if_pos (by omega), if_pos (by omega), abc_size _ (by omega) (by omega), w_succ i (by omega), w_add_toNat _ _ (by omega) (by omega) (by omega) (by omega)]
              by_cases c3 : out + (1 + u) ≤ 120
              · rw [if_pos c3, if_pos (by omega)]
                have hsz := abc_size (1 + u) (by omega) (by omega)
                obtain ⟨q1, q2, q3⟩ := put_cm ((⟨#[97, 98, 99, 100, 101, 102, 103, 104, 105, 106]⟩ : ByteArray).extract 0 (1 + u).toNat) (by omega)
                exact ih n _ (out + (1 + u)) (i + 1) k (by omega) (by rw [cms_append]; exact hv.append q1) (by rw [cms_append, inC_append, q2]; omega) (by rw [cms_append, outC_append, q3]; omega) (by omega) (by simp; omega) (by omega) (by simp) (by omega)
              · rw [if_neg c3]
                exact ih n o out (i + 1) k (by omega) hv hi ho hout (by omega) hn hne (by omega)
      · rw [decide_eq_false h2]
        exact hend
    · rw [if_neg h1]
      exact hend
theorem make_eq (n : Nat) (hn : n ≤ 120) (ns : List Int) : ∃ r, (∀ k, 60 ≤ k → comitialaw4_Make.f k n ns = some r) ∧ Made n r ∧ (0 < n → r ≠ []) := by
  obtain ⟨r, h1, h2⟩ := make_loop ns n 12 n [] n 0 60 (by omega) Vl.nil (by simp [inC, cms, ins]) (by simp [outC, cms, outs]) (by omega) (by simp) hn (fun _ => rfl) (by omega)
  refine ⟨r, ?_, h2⟩
  intro k hk
  obtain ⟨m, rfl⟩ : ∃ m, k = 60 + m := ⟨k - 60, by omega⟩
  clear hk
  induction m with
  | zero => exact h1
  | succ m ih => exact comitialaw4_Make.mono _ _ _ _ ih
theorem Made.good {n : Nat} {r : List S30} (h : Made n r) (hn : n ≤ 1000) : good (cms r) = true := good_iff.2 ⟨h.vl, by have := h.ins; have := h.outs; omega⟩

/-! ### the same -/
theorem s_eq {a b : S30} : (!(a.f0 == b.f0) || (!(a.f1 == b.f1) || (!(a.f2.toList == b.f2.toList)))) = true ↔ ¬ a = b := by
  obtain ⟨a0, a1, a2⟩ := a
  obtain ⟨b0, b1, b2⟩ := b
  have : a2.toList = b2.toList ↔ a2 = b2 := by
    obtain ⟨la, rfl⟩ := str_of a2
    obtain ⟨lb, rfl⟩ := str_of b2
    rw [str_toList, str_toList]
    constructor
    · rintro rfl; rfl
    · intro h
      have := congrArg ByteArray.toList h
      rwa [str_toList, str_toList] at this
  simp only [S30.mk.injEq, ← this]
  by_cases h0 : a0 = b0 <;> by_cases h1 : a1 = b1 <;> by_cases h2 : a2.toList = b2.toList <;> simp [h0, h1, h2]
end Go.Proofs.Ythfpohhkgcgbeaa.Q

namespace Go.Proofs.Ythfpohhkgcgbeaa.Q
open Go.OpM Go.RowKit Go.Cx Go.Proofs.YthfpohhkgcgbeaaW.PrintWords Go.Proofs.YthfpohhkgcgbeaaW.PrintLast Go.Proofs.YthfpohhkgcgbeaaW.PrintMore
set_option linter.unusedVariables false
set_option linter.unusedSimpArgs false

theorem equal_loop (a b : List S30) (s : List S30) : ∀ (t p q : List S30) (k : Nat), a = p ++ s → b = q ++ t → p.length = q.length → s.length = t.length → a.length ≤ 1000000000000 → s.length < k →
    ∃ r, slices_Equal_Comp.l0 k a b (a.length : Int) (p.length : Int) = some r ∧ (r = true ↔ s = t) := by
  induction s with
  | nil =>
    intro t p q k ha hb hp hs h0 hk
    obtain ⟨k, rfl⟩ : ∃ m, k = m + 1 := ⟨k - 1, by omega⟩
    have ht : t = [] := List.eq_nil_of_length_eq_zero (by simpa using hs.symm)
    have hl : p.length = a.length := by rw [ha]; simp
    refine ⟨true, ?_, by simp [ht]⟩
    simp only [slices_Equal_Comp.l0]
    rw [if_neg (by omega)]
  | cons c s ih =>
    intro t p q k ha hb hp hs h0 hk
    obtain ⟨k, rfl⟩ : ∃ m, k = m + 1 := ⟨k - 1, by omega⟩
    obtain ⟨e, t, rfl⟩ : ∃ e t', t = e :: t' := List.exists_cons_of_ne_nil (by intro h; rw [h] at hs; simp at hs)
    have hl : p.length < a.length := by rw [ha]; simp
    have hl2 : q.length < b.length := by rw [hb]; simp
    have r1 : rd_T30 a (p.length : Int) = c := by rw [ha]; exact rd_mid p c s
    have r2 : rd_T30 b (p.length : Int) = e := by rw [hb, hp]; exact rd_mid q e t
    simp only [slices_Equal_Comp.l0]
    rw [if_pos (by omega), if_pos (by omega), if_pos (by omega), if_pos (by omega), r1, r2]
    by_cases hce : c = e
    · rw [if_neg (fun h => (s_eq.1 h) hce), w_succ _ (by omega)]
      simp only [List.length_cons] at hk hs
      obtain ⟨r, h1, h2⟩ := ih t (p ++ [c]) (q ++ [e]) k (by simp [ha]) (by simp [hb]) (by simp [hp]) (by omega) h0 (by omega)
      refine ⟨r, ?_, ?_⟩
      · have : (p ++ [c]).length = p.length + 1 := by simp
        rw [this] at h1
        exact h1
      · rw [h2]; simp [hce]
    · rw [if_pos (s_eq.2 hce)]
      exact ⟨false, rfl, by simp [hce]⟩
theorem same_ex (a b : List S30) (h0 : a.length ≤ 1000000000000) (k : Nat) (hk : a.length < k) : ∃ r, op_Same.f k a b = some r ∧ (r = true ↔ a = b) := by
  unfold op_Same.f slices_Equal_Comp.f
  by_cases hl : a.length = b.length
  · rw [if_pos (by omega)]
    obtain ⟨r, h1, h2⟩ := equal_loop a b a b [] [] k rfl rfl rfl hl h0 hk
    have h1' : slices_Equal_Comp.l0 k a b (a.length : Int) 0 = some r := h1
    rw [h1']
    exact ⟨r, rfl, h2⟩
  · rw [if_neg (by omega)]
    exact ⟨false, rfl, by simp; intro h; exact hl (by rw [h])⟩
theorem same_refl (a : List S30) (h0 : a.length ≤ 1000000000000) (k : Nat) (hk : a.length < k) : op_Same.f k a a = some true := by
  obtain ⟨r, h1, h2⟩ := same_ex a a h0 k hk
  rw [h1, h2.2 rfl]
theorem same_ne {a b : List S30} (h : a ≠ b) (h0 : a.length ≤ 1000000000000) (k : Nat) (hk : a.length < k) : op_Same.f k a b = some false := by
  obtain ⟨r, h1, h2⟩ := same_ex a b h0 k hk
  rw [h1]
  cases r with
  | false => rfl
  | true => exact absurd (h2.1 rfl) h

end Go.Proofs.Ythfpohhkgcgbeaa.Q

/- op.Normal in plain words: what its Lean function answers at a valid operation. -/
import Derived.Test.YtjmnflgicolbdaaQxopNormal
namespace Go.Proofs.Ytjmnflgicolbdaa.Q
open Go.OpM Go.RowKit Go.Cx
set_option linter.unusedVariables false
set_option linter.unusedSimpArgs false

theorem w64 {x : Int} (h0 : -9223372036854775808 ≤ x) (h1 : x ≤ 9223372036854775807) : wrap64 x = x := by unfold wrap64; omega
theorem rd_mid (p : List S43) (c : S43) (s : List S43) : rd_T43 (p ++ c :: s) (p.length : Int) = c := by
  simp [rd_T43, List.getD_eq_getElem?_getD]
theorem ba_app (a b : List UInt8) : (⟨a.toArray⟩ : ByteArray) ++ ⟨b.toArray⟩ = ⟨(a ++ b).toArray⟩ := by
  apply ByteArray.ext
  simp [ByteArray.data_append]
theorem ba_size (a : List UInt8) : (⟨a.toArray⟩ : ByteArray).size = a.length := by simp [ByteArray.size]
theorem ba_list (a : List UInt8) : (⟨a.toArray⟩ : ByteArray).toList = a := ByteArray.toList_mk a
theorem scs_append (a b : List Cm) : scs (a ++ b) = scs a ++ scs b := by simp [scs]
theorem scs_length (a : List Cm) : (scs a).length = a.length := by simp [scs]
theorem cms_append (a b : List S43) : cms (a ++ b) = cms a ++ cms b := by simp [cms]
theorem cms_length (a : List S43) : (cms a).length = a.length := by simp [cms]
theorem scs_inj {a b : List Cm} (h : scs a = scs b) : a = b := by rw [← cms_scs a, ← cms_scs b, h]
theorem cms_inj {a b : List S43} (h : cms a = cms b) : a = b := by rw [← scs_cms a, ← scs_cms b, h]

theorem parts_eq (p : List UInt8) (c : Nat) : op_gap_parts.f ⟨p.toArray⟩ c = some (scs (pp p ++ cp c)) := by
  unfold op_gap_parts.f pp cp
  rw [ba_list]
  by_cases hp : p = []
  · subst hp
    by_cases hc : c = 0
    · subst hc; simp [scs]
    · rw [if_pos rfl, if_pos (by omega)]; simp [hc, scs, sc]
  · by_cases hc : c = 0
    · subst hc; simp [hp, scs, sc]
    · rw [if_neg hp]; simp [hp, hc, scs, sc]
theorem pp_cp_len (p : List UInt8) (c : Nat) : (pp p ++ cp c).length ≤ 2 := by unfold pp cp; split <;> split <;> simp
theorem kp_len (k : Nat) : (kp k).length ≤ 1 := by unfold kp; split <;> simp
/-- Weights. -/
theorem ok_len {c : Cm} (h : c.ok) : 1 ≤ c.at_.length := by
  rcases Cm.cases h with ⟨n, hn, rfl⟩ | ⟨s, hs, rfl⟩ | ⟨n, hn, rfl⟩
  · simp [keeps]; omega
  · simp only [at_put, puts, List.length_map]; exact List.length_pos_iff.2 hs
  · simp [cuts]; omega
theorem at_len (x : List A) : x.length ≤ ins x + outs x := by
  induction x with
  | nil => simp
  | cons a x ih => cases a <;> simp [ins, outs] <;> omega
theorem ins_le (x : List A) : ins x ≤ x.length := by
  induction x with
  | nil => simp [ins]
  | cons a x ih => cases a <;> simp [ins] <;> omega
theorem outs_le (x : List A) : outs x ≤ x.length := by
  induction x with
  | nil => simp [outs]
  | cons a x ih => cases a <;> simp [outs] <;> omega
theorem vl_len {l : List Cm} (h : Vl l) : l.length ≤ (at_ l).length := by
  induction l with
  | nil => simp
  | cons c l ih => have := ih h.tail; have := ok_len h.head; simp; omega
theorem good_len {l : List S43} (h : good (cms l) = true) : l.length ≤ 100000 := by
  obtain ⟨h1, h2⟩ := good_iff.1 h
  have := vl_len h1
  have := at_len (at_ (cms l))
  unfold inC outC at h2
  rw [cms_length] at *
  omega

theorem kp_last (b : List S43) (k : Nat) (hk : k ≠ 0) (n : Int) :
    (b ++ scs (kp k)).set (b.length) (⟨1, n, ⟨#[]⟩⟩ : S43) = b ++ [⟨1, n, ⟨#[]⟩⟩] := by
  simp [kp, hk, scs]

set_option maxHeartbeats 1000000 in
theorem normal_loop (l : List S43) (s : List S43) : ∀ (p : List S43) (base : List S43) (keep : Nat) (put : List UInt8) (cut k : Nat),
    l = p ++ s → Vl (cms s) → l.length ≤ 1000000 → keep + cut + put.length + (at_ (cms s)).length ≤ 1000000 → base.length + 3 * (at_ (cms s)).length + 5 ≤ 900000 → (keep = 0 → base = []) → s.length < k →
    op_Normal.l0 k (base ++ scs (kp keep)) l (l.length : Int) (p.length : Int) ⟨put.toArray⟩ cut = some (base ++ scs (nfGo (at_ (cms s)) keep put cut)) := by
  induction s with
  | nil =>
    intro p base keep put cut k hl hv h0 h1 h2 h3 hk
    obtain ⟨k, rfl⟩ : ∃ m, k = m + 1 := ⟨k - 1, by omega⟩
    have hpl : p.length = l.length := by rw [hl]; simp
    have e1 := pp_cp_len put cut
    have e2 := kp_len keep
    simp only [op_Normal.l0]
    rw [if_neg (by omega), parts_eq]
    simp only [Option.bind_some]
    rw [if_pos (by simp only [List.length_append, scs_length] at *; omega)]
    unfold slices_Clone_Comp.f
    rw [if_pos (by simp only [List.length_append, scs_length] at *; omega)]
    simp [cms, nfGo, scs_append]
  | cons c s ih =>
    intro p base keep put cut k hl hv h0 h1 h2 h3 hk
    obtain ⟨k, rfl⟩ : ∃ m, k = m + 1 := ⟨k - 1, by omega⟩
    have hpl : p.length < l.length := by rw [hl]; simp
    have hrd : rd_T43 l (p.length : Int) = c := by rw [hl]; exact rd_mid p c s
    have hw : wrap64 ((p.length : Int) + 1) = ((p ++ [c]).length : Nat) := by rw [w64 (by omega) (by omega)]; simp
    have hl' : l = (p ++ [c]) ++ s := by simp [hl]
    have hvs : Vl (cms s) := Vl.tail (c := cm c) hv
    simp only [List.length_cons] at hk
    have hcm : cms (c :: s) = cm c :: cms s := rfl
    rw [hcm, at_cons] at h1 h2 ⊢
    simp only [List.length_append] at h1 h2
    simp only [op_Normal.l0]
    rw [if_pos (by omega), if_pos (by omega), if_pos (by omega), hrd, hw]
    have e1 := pp_cp_len put cut
    have e2 := kp_len keep
    rcases Cm.cases (hv.head (c := cm c) (l := cms s)) with ⟨n, hn, hc⟩ | ⟨q, hq, hc⟩ | ⟨n, hn, hc⟩
    · have hc' : c = ⟨1, n, ⟨#[]⟩⟩ := by rw [← sc_cm c, hc]; rfl
      rw [hc, at_keep] at h1 h2 ⊢
      rw [hc'] at hw ⊢
      have hkl : (keeps n).length = n := by simp [keeps]
      simp only
      rw [if_neg (by decide), if_neg (by decide), if_pos trivial, parts_eq]
      simp only [Option.bind_some]
      rw [if_pos (by simp only [List.length_append, scs_length] at *; omega)]
      by_cases hg : put = [] ∧ cut = 0
      · obtain ⟨rfl, rfl⟩ := hg
        have ee : pp ([] : List UInt8) ++ cp 0 = [] := rfl
        rw [ee]
        have ee2 : scs ([] : List Cm) = [] := rfl
        rw [ee2, List.append_nil]
        rw [nfGo_keeps0]
        by_cases hk0 : keep = 0
        · have hb := h3 hk0
          subst hk0 hb
          have ee3 : ([] : List S43) ++ scs (kp 0) = [] := rfl
          rw [ee3]
          rw [if_neg (by simp), if_pos (by simp)]
          have := ih (p ++ [⟨1, n, ⟨#[]⟩⟩]) [] n [] 0 k (by rw [hl', hc']) hvs h0 (by rw [hkl] at h1; simp only [List.length_nil] at h1 ⊢; omega) (by rw [hkl] at h2; simp only [List.length_nil] at h2 ⊢; omega) (by intro h; rfl) (by omega)
          have ee4 : ([] : List S43) ++ scs (kp n) = ([] ++ [⟨1, (n : Int), ⟨#[]⟩⟩]) := by unfold kp; rw [if_neg (by omega)]; simp [scs, sc]
          rw [ee4] at this
          rw [Nat.zero_add]
          simpa using this
        · have hlen : (base ++ scs (kp keep)).length = base.length + 1 := by simp [kp, hk0, scs]
          rw [if_pos (by omega), if_pos (by simp [ba_list])]
          have hw2 : wrap64 (((base ++ scs (kp keep)).length : Int) - 1) = (base.length : Int) := by rw [w64 (by omega) (by omega)]; omega
          rw [hw2, if_pos (by omega), if_pos (by omega)]
          have hrd2 : rd_T43 (base ++ scs (kp keep)) (base.length : Int) = ⟨1, keep, ⟨#[]⟩⟩ := by
            have : scs (kp keep) = ⟨1, (keep : Int), ⟨#[]⟩⟩ :: ([] : List S43) := by simp [kp, hk0, scs, sc]
            rw [this]; exact rd_mid _ _ _
          rw [hrd2]
          simp only [Int.toNat_natCast]
          rw [w64 (by omega) (by omega), kp_last _ _ hk0]
          have := ih (p ++ [⟨1, n, ⟨#[]⟩⟩]) base (keep + n) [] 0 k (by rw [hl', hc']) hvs h0 (by simp at *; omega) (by omega) (by omega) (by omega)
          have ee4 : scs (kp (keep + n)) = [⟨1, (keep : Int) + n, ⟨#[]⟩⟩] := by
            unfold kp; rw [if_neg (by omega)]; simp [scs, sc]
          rw [ee4] at this
          simpa using this
      · rw [nfGo_keeps _ _ _ _ _ hn hg]
        have hnz : (pp put ++ cp cut) ≠ [] := by
          unfold pp cp; split <;> split <;> simp_all
        have hlp : 0 < (pp put ++ cp cut).length := List.length_pos_iff.2 hnz
        have hgb : ((⟨put.toArray⟩ : ByteArray).toList == ([] : List UInt8) && ((cut : Int) == 0)) = false := by
          rw [ba_list]
          rcases Classical.em (put = []) with h | h
          · have : cut ≠ 0 := fun h' => hg ⟨h, h'⟩
            simp; intro _; omega
          · simp [h]
        rw [if_pos (by simp only [List.length_append, scs_length] at *; omega), hgb, if_neg (by decide), if_pos (by simp only [List.length_append, scs_length] at *; omega)]
        have := ih (p ++ [⟨1, n, ⟨#[]⟩⟩]) (base ++ scs (kp keep) ++ scs (pp put ++ cp cut)) n [] 0 k (by rw [hl', hc']) hvs h0 (by simp at *; omega) (by simp only [List.length_append, scs_length] at *; omega) (by omega) (by omega)
        have ee4 : scs (kp n) = [⟨1, (n : Int), ⟨#[]⟩⟩] := by
          unfold kp; rw [if_neg (by omega)]; simp [scs, sc]
        rw [ee4] at this
        simpa [scs_append] using this
    · have hc' : c = ⟨2, 0, ⟨q.toArray⟩⟩ := by rw [← sc_cm c, hc]; rfl
      rw [hc, at_put] at h1 h2 ⊢
      rw [hc'] at hw ⊢
      have hql : (puts q).length = q.length := by simp [puts]
      simp only
      rw [if_pos trivial, if_pos (by rw [ba_size, ba_size]; omega), nfGo_puts, ba_app]
      exact ih _ base keep (put ++ q) cut k (by rw [hl', hc']) hvs h0 (by simp at *; omega) (by omega) h3 (by omega)
    · have hc' : c = ⟨3, n, ⟨#[]⟩⟩ := by rw [← sc_cm c, hc]; rfl
      rw [hc, at_cut] at h1 h2 ⊢
      rw [hc'] at hw ⊢
      have hql : (cuts n).length = n := by simp [cuts]
      simp only
      rw [if_neg (by decide), if_pos trivial, nfGo_cuts, w64 (by omega) (by omega)]
      have := ih (p ++ [⟨3, n, ⟨#[]⟩⟩]) base keep put (cut + n) k (by rw [hl', hc']) hvs h0 (by omega) (by omega) h3 (by omega)
      simpa using this

theorem normal_eq (l : List S43) (h : good (cms l) = true) (k : Nat) (hk : l.length < k) : op_Normal.f k l = some (scs (nf (at_ (cms l)))) := by
  obtain ⟨h1, h2⟩ := good_iff.1 h
  have h3 := good_len h
  have h4 := at_len (at_ (cms l))
  unfold inC outC at h2
  have := normal_loop l l [] [] 0 [] 0 k (by simp) h1 (by omega) (by simp; omega) (by simp; omega) (by intro _; rfl) hk
  unfold op_Normal.f nf
  simpa [kp, scs] using this
end Go.Proofs.Ytjmnflgicolbdaa.Q

/- Functions of operations in plain words (several texts as one). -/
import Derived.Test.YtmkblbkijjabdaaQN
import Derived.Test.YtmkblbkijjabdaaQX
import Derived.Test.YtmkblbkijjabdaaQxcomitialaw4Doc
import Derived.Test.YtmkblbkijjabdaaQxcomitiaref4Apply
import Derived.Test.YtmkblbkijjabdaaQxcomitiaref4Same
import Derived.Test.YtmkblbkijjabdaaQxcomitialaw6known
import Derived.Test.YtmkblbkijjabdaaQxcomitiaref5Two
namespace Go.Proofs.Ytmkblbkijjabdaa.Q
open Go.OpM Go.RowKit Go.Cx Go.Proofs.YtmkblbkijjabdaaW.PrintWords Go.Proofs.YtmkblbkijjabdaaW.PrintLast Go.Proofs.YtmkblbkijjabdaaW.PrintMore
set_option linter.unusedVariables false
set_option linter.unusedSimpArgs false

theorem nf_len (x : List A) : ∀ k p c, (nfGo x k p c).length ≤ 3 * x.length + 3 := by
  induction x with
  | nil => intro k p c; have := kp_len k; have := pp_cp_len p c; simp only [nfGo, List.length_append] at *; simp; omega
  | cons a x ih =>
    intro k p c
    have e1 := kp_len k
    have e2 := pp_cp_len p c
    cases a <;> simp only [nfGo]
    · split
      · have := ih (k + 1) [] 0; simp only [List.length_cons]; omega
      · have := ih 1 [] 0; simp only [List.length_append, List.length_cons] at *; omega
    · have := ih k p (c + 1); simp only [List.length_cons]; omega
    · rename_i b; have := ih k (p ++ [b]) c; simp only [List.length_cons]; omega
theorem nf_good (x : List A) (h : ins x + outs x ≤ 100000) : good (nf x) = true := good_iff.2 ⟨nf_ok x 0 [] 0, by unfold inC outC; rw [at_nf, ins_norm, outs_norm]; exact h⟩
theorem good_sum {l : List Cm} (h : good l = true) : ins (at_ l) + outs (at_ l) ≤ 100000 := (good_iff.1 h).2
theorem good_vl {l : List Cm} (h : good l = true) : Vl l := (good_iff.1 h).1
/-- Normal's own. -/
theorem normal_scs (x : List A) (h : ins x + outs x ≤ 100000) (k : Nat) (hk : 3 * x.length + 3 < k) : op_Normal.f k (scs (nf x)) = some (scs (nf x)) := by
  have := nf_len x 0 [] 0
  rw [normal_eq _ (by rw [cms_scs]; exact nf_good x h) k (by rw [scs_length]; unfold nf; omega), cms_scs, at_nf, nf_norm]
theorem normal_len {x : List A} (h : ins x + outs x ≤ 100000) : (scs (nf x)).length ≤ 300003 := by
  have h1 := nf_len x 0 [] 0
  have h2 := at_len x
  rw [scs_length]; unfold nf; omega
end Go.Proofs.Ytmkblbkijjabdaa.Q

namespace Go.Proofs.Ytmkblbkijjabdaa.Q
open Go.OpM Go.RowKit Go.Cx Go.Proofs.YtmkblbkijjabdaaW.PrintWords Go.Proofs.YtmkblbkijjabdaaW.PrintLast Go.Proofs.YtmkblbkijjabdaaW.PrintMore
set_option linter.unusedVariables false
set_option linter.unusedSimpArgs false

theorem nums_str (l : List Int) : ∃ s : List UInt8, strOfNums l = ⟨s.toArray⟩ ∧ s.length = l.length := ⟨l.map fun n => UInt8.ofNat n.toNat, rfl, by simp⟩
theorem doc_eq (l : List Int) : ∃ s : List UInt8, comitialaw4_Doc.f l = some ⟨s.toArray⟩ ∧ s.length ≤ 100 := by
  unfold comitialaw4_Doc.f
  rw [mn_eq, if_pos (by omega), if_pos (by omega)]
  obtain ⟨s, h1, h2⟩ := nums_str (l.take (min (l.length : Int) 100).toNat)
  exact ⟨s, by rw [h1], by rw [h2, List.length_take]; omega⟩
end Go.Proofs.Ytmkblbkijjabdaa.Q

namespace Go.Proofs.Ytmkblbkijjabdaa.Q
open Go.OpM Go.RowKit Go.Cx Go.Proofs.YtmkblbkijjabdaaW.PrintWords Go.Proofs.YtmkblbkijjabdaaW.PrintLast Go.Proofs.YtmkblbkijjabdaaW.PrintMore
set_option linter.unusedVariables false
set_option linter.unusedSimpArgs false

theorem ext_str (d : List UInt8) (a b : Nat) : (⟨d.toArray⟩ : ByteArray).extract a b = ⟨((d.drop a).take (b - a)).toArray⟩ := by
  apply ByteArray.ext
  simp [ByteArray.data_extract, List.extract_toArray, List.extract_eq_take_drop]
theorem apply_loop (d : List UInt8) (l s : List S42) : ∀ (p : List S42) (out : List UInt8) (at' k : Nat), l = p ++ s → Vl (cms s) → l.length ≤ 1000000 → d.length ≤ 1000000 → at' + inC (cms s) = d.length → out.length + outC (cms s) ≤ 1000000 → s.length < k →
    comitiaref4_Apply.l0 k ⟨d.toArray⟩ l ⟨out.toArray⟩ at' (p.length : Int) = some (⟨(out ++ app id (at_ (cms s)) (d.drop at')).toArray⟩, 0) := by
  induction s with
  | nil =>
    intro p out at' k hl hv h0 hd h1 h2 hk
    obtain ⟨k, rfl⟩ : ∃ m, k = m + 1 := ⟨k - 1, by omega⟩
    have hpl : p.length = l.length := by rw [hl]; simp
    simp only [comitiaref4_Apply.l0]
    rw [if_neg (by omega)]
    simp [cms, app]
  | cons c s ih =>
    intro p out at' k hl hv h0 hd h1 h2 hk
    obtain ⟨k, rfl⟩ : ∃ m, k = m + 1 := ⟨k - 1, by omega⟩
    have hpl : p.length < l.length := by rw [hl]; simp
    have hrd : rd_T42 l (p.length : Int) = c := by rw [hl]; exact rd_mid p c s
    have hin : inC (cms (c :: s)) = ins (cm c).at_ + inC (cms s) := by simp [cms, inC]
    have hout : outC (cms (c :: s)) = outs (cm c).at_ + outC (cms s) := by simp [cms, outC]
    have hat : at_ (cms (c :: s)) = (cm c).at_ ++ at_ (cms s) := rfl
    have he : (p ++ [c]).length = p.length + 1 := by simp
    have hvs : Vl (cms s) := Vl.tail (c := cm c) hv
    have hle : ins (cm c).at_ ≤ (d.drop at').length := by rw [List.length_drop]; omega
    rw [hin] at h1
    rw [hout] at h2
    rw [hat, app_append _ _ _ _ hle, List.drop_drop]
    simp only [List.length_cons] at hk
    simp only [comitiaref4_Apply.l0]
    rw [if_pos (by omega), if_pos (by omega), hrd, w_succ _ (by omega)]
    rcases Cm.cases (hv.head (c := cm c) (l := cms s)) with ⟨n, hn, hc⟩ | ⟨q, hq, hc⟩ | ⟨n, hn, hc⟩
    · have hc' : c = ⟨1, n, ⟨#[]⟩⟩ := by rw [← sc_cm c, hc]; rfl
      rw [hc] at h1 h2 hle ⊢
      simp only [at_keep, ins_keeps, outs_keeps] at h1 h2 hle ⊢
      have ih' := ih (p ++ [c]) (out ++ (d.drop at').take n) (at' + n) k (by simp [hl]) hvs h0 hd (by omega) (by simp only [List.length_append, List.length_take]; omega) (by omega)
      rw [he] at ih'
      rw [hc'] 
      simp only
      rw [w64 (by omega) (by omega), if_pos trivial, if_pos (by omega), if_pos (by omega), if_pos (by rw [ba_size]; omega)]
      have e1 : ((at' : Int)).toNat = at' := by omega
      have e2 : ((at' : Int) + (n : Int)).toNat = at' + n := by omega
      have e3 : at' + n - at' = n := by omega
      rw [e1, e2, ext_str, e3, if_pos (by rw [ba_size, ba_size, List.length_take, List.length_drop]; omega), ba_app, show ((at' : Int) + (n : Int)) = ((at' + n : Nat) : Int) from by omega, ih', app_keeps _ _ _ hle]
      simp
    · have hc' : c = ⟨2, 0, ⟨q.toArray⟩⟩ := by rw [← sc_cm c, hc]; rfl
      rw [hc] at h1 h2 hle ⊢
      simp only [at_put, ins_puts, outs_puts] at h1 h2 hle ⊢
      have ih' := ih (p ++ [c]) (out ++ q) at' k (by simp [hl]) hvs h0 hd (by omega) (by simp only [List.length_append]; omega) (by omega)
      rw [he] at ih'
      rw [hc']
      simp only
      rw [if_neg (by decide), if_pos trivial, if_pos (by rw [ba_size, ba_size]; omega), ba_app, ih', app_puts]
      simp
    · have hc' : c = ⟨3, n, ⟨#[]⟩⟩ := by rw [← sc_cm c, hc]; rfl
      rw [hc] at h1 h2 hle ⊢
      simp only [at_cut, ins_cuts, outs_cuts] at h1 h2 hle ⊢
      have ih' := ih (p ++ [c]) out (at' + n) k (by simp [hl]) hvs h0 hd (by omega) (by omega) (by omega)
      rw [he] at ih'
      rw [hc']
      simp only
      rw [w64 (by omega) (by omega), if_neg (by decide), if_neg (by decide), show ((at' : Int) + (n : Int)) = ((at' + n : Nat) : Int) from by omega, ih', app_cuts]
      simp
/-- What Apply answers. -/
theorem ref_apply (d : List UInt8) (l : List S42) (h : good (cms l) = true) (hd : d.length ≤ 100000) (k : Nat) (hk : l.length < k) : comitiaref4_Apply.f k ⟨d.toArray⟩ l =
    some (if inC (cms l) = d.length then (if outC (cms l) ≤ 120 then (⟨(app id (at_ (cms l)) d).toArray⟩, 0) else (⟨#[]⟩, 5)) else (⟨#[]⟩, 7)) := by
  have h1 := (good_iff.1 h).2
  unfold comitiaref4_Apply.f
  rw [ref_in l h k hk, ref_out l h k hk]
  simp only [Option.bind_some, ba_size]
  by_cases hi : inC (cms l) = d.length
  · rw [if_pos (by omega), if_pos hi]
    by_cases ho : outC (cms l) ≤ 120
    · rw [if_neg (by omega), if_pos ho]
      have := apply_loop d l l [] [] 0 k rfl (good_iff.1 h).1 (by have := good_len h; omega) (by omega) (by omega) (by simp; omega) hk
      simpa using this
    · rw [if_pos (by omega), if_neg ho]
  · rw [if_neg (by omega), if_neg hi]
end Go.Proofs.Ytmkblbkijjabdaa.Q

namespace Go.Proofs.Ytmkblbkijjabdaa.Q
open Go.OpM Go.RowKit Go.Cx Go.Proofs.YtmkblbkijjabdaaW.PrintWords Go.Proofs.YtmkblbkijjabdaaW.PrintLast Go.Proofs.YtmkblbkijjabdaaW.PrintMore
set_option linter.unusedVariables false
set_option linter.unusedSimpArgs false

theorem rsame_loop (a b : List S42) (s : List S42) : ∀ (t p q : List S42) (k : Nat), a = p ++ s → b = q ++ t → p.length = q.length → s.length = t.length → a.length ≤ 1000000000000 → s.length < k →
    ∃ r, comitiaref4_Same.l0 k a b (p.length : Int) = some r ∧ (r = true ↔ s = t) := by
  induction s with
  | nil =>
    intro t p q k ha hb hp hs h0 hk
    obtain ⟨k, rfl⟩ : ∃ m, k = m + 1 := ⟨k - 1, by omega⟩
    have ht : t = [] := List.eq_nil_of_length_eq_zero (by simpa using hs.symm)
    have hl : p.length = a.length := by rw [ha]; simp
    refine ⟨true, ?_, by simp [ht]⟩
    simp only [comitiaref4_Same.l0]
    rw [if_neg (by omega)]
  | cons c s ih =>
    intro t p q k ha hb hp hs h0 hk
    obtain ⟨k, rfl⟩ : ∃ m, k = m + 1 := ⟨k - 1, by omega⟩
    obtain ⟨e, t, rfl⟩ : ∃ e t', t = e :: t' := List.exists_cons_of_ne_nil (by intro h; rw [h] at hs; simp at hs)
    have hl : p.length < a.length := by rw [ha]; simp
    have hl2 : q.length < b.length := by rw [hb]; simp
    have r1 : rd_T42 a (p.length : Int) = c := by rw [ha]; exact rd_mid p c s
    have r2 : rd_T42 b (p.length : Int) = e := by rw [hb, hp]; exact rd_mid q e t
    simp only [comitiaref4_Same.l0]
    rw [if_pos (by omega), if_pos (by omega), if_pos (by omega), r1, r2]
    by_cases hce : c = e
    · rw [if_neg (fun h => (s_eq.1 h) hce), w_succ _ (by omega)]
      simp only [List.length_cons] at hk hs
      obtain ⟨r, h1, h2⟩ := ih t (p ++ [c]) (q ++ [e]) k (by simp [ha]) (by simp [hb]) (by simp [hp]) (by omega) h0 (by omega)
      refine ⟨r, ?_, ?_⟩
      · have : (p ++ [c]).length = p.length + 1 := by simp
        rw [this] at h1
        exact h1
      · rw [h2]; simp [hce]
    · rw [if_pos (s_eq.2 hce)]
      exact ⟨false, rfl, by simp [hce]⟩
theorem rsame_ex (a b : List S42) (h0 : a.length ≤ 1000000000000) (k : Nat) (hk : a.length < k) : ∃ r, comitiaref4_Same.f k a b = some r ∧ (r = true ↔ a = b) := by
  unfold comitiaref4_Same.f
  by_cases hl : a.length = b.length
  · rw [if_pos (by omega)]
    obtain ⟨r, h1, h2⟩ := rsame_loop a b a b [] [] k rfl rfl rfl hl h0 hk
    have h1' : comitiaref4_Same.l0 k a b 0 = some r := h1
    rw [h1']
    exact ⟨r, rfl, h2⟩
  · rw [if_neg (by omega)]
    exact ⟨false, rfl, by simp; intro h; exact hl (by rw [h])⟩
theorem rsame_refl (a : List S42) (h0 : a.length ≤ 1000000000000) (k : Nat) (hk : a.length < k) : comitiaref4_Same.f k a a = some true := by
  obtain ⟨r, h1, h2⟩ := rsame_ex a a h0 k hk
  rw [h1, h2.2 rfl]
theorem rsame_ne {a b : List S42} (h : a ≠ b) (h0 : a.length ≤ 1000000000000) (k : Nat) (hk : a.length < k) : comitiaref4_Same.f k a b = some false := by
  obtain ⟨r, h1, h2⟩ := rsame_ex a b h0 k hk
  rw [h1]
  cases r with
  | false => rfl
  | true => exact absurd (h2.1 rfl) h

end Go.Proofs.Ytmkblbkijjabdaa.Q

namespace Go.Proofs.Ytmkblbkijjabdaa.Q
open Go.OpM Go.RowKit Go.Cx Go.Proofs.YtmkblbkijjabdaaW.PrintWords Go.Proofs.YtmkblbkijjabdaaW.PrintLast Go.Proofs.YtmkblbkijjabdaaW.PrintMore
set_option linter.unusedVariables false
set_option linter.unusedSimpArgs false
/-- What the program's Op answers. -/
theorem invert_eq (d : List UInt8) (l : List S42) (h : good (cms l) = true) (hd : d.length ≤ 100000) : invert_Op.f ⟨d.toArray⟩ l = some (if inC (cms l) = d.length then (scs (nf (inv (at_ (cms l)) d)), 0) else ([], 7)) := by
  unfold invert_Op.f
  rw [if_pos ⟨h, by rw [ba_size]; exact hd⟩, ba_size]
  by_cases hi : inC (cms l) = d.length
  · rw [if_pos hi, if_pos hi]
  · rw [if_neg hi, if_neg hi]
theorem known6_true : comitialaw6_known.f = some true := by
  unfold comitialaw6_known.f
  have h : invert_Op.f (⟨#[120]⟩ : ByteArray) (([(⟨3, 1, (⟨#[]⟩ : ByteArray)⟩ : S42)] : List (S42))) = some ([⟨2, 0, ⟨#[120]⟩⟩], 0) := by
    have := invert_eq [120] [(⟨3, 1, (⟨#[]⟩ : ByteArray)⟩ : S42)] (by decide) (by decide)
    rw [if_pos (by decide)] at this
    exact this
  have e2 : (⟨#[120]⟩ : ByteArray).toList = [120] := ByteArray.toList_mk _
  rw [h]
  simp [rd_T42, e2]
theorem inv_good {d : List UInt8} {l : List S42} (h : good (cms l) = true) (hi : inC (cms l) = d.length) : ins (inv (at_ (cms l)) d) = outC (cms l) ∧ outs (inv (at_ (cms l)) d) = d.length ∧ ins (inv (at_ (cms l)) d) + outs (inv (at_ (cms l)) d) ≤ 100000 := by
  have h1 := (good_iff.1 h).2
  have h2 := inv_ins (at_ (cms l)) d
  have h3 := inv_outs (at_ (cms l)) d (by unfold inC at hi; omega)
  unfold inC outC at *
  omega
end Go.Proofs.Ytmkblbkijjabdaa.Q

namespace Go.Proofs.Ytmkblbkijjabdaa.Q
open Go.OpM Go.RowKit Go.Cx Go.Proofs.YtmkblbkijjabdaaW.PrintWords Go.Proofs.YtmkblbkijjabdaaW.PrintLast Go.Proofs.YtmkblbkijjabdaaW.PrintMore
set_option linter.unusedVariables false
set_option linter.unusedSimpArgs false
theorem rtwo_eq {a b : List S42} (h : good2 (cms a) (cms b) = true) : comitiaref5_Two.f a b = some (if inC (cms b) = outC (cms a) then (scs (nf (comp (at_ (cms a)) (at_ (cms b)))), 0) else ([], 7)) := by
  unfold comitiaref5_Two.f
  rw [if_pos h]
  by_cases hi : inC (cms b) = outC (cms a)
  · rw [if_pos hi, if_pos hi]
  · rw [if_neg hi, if_neg hi]
end Go.Proofs.Ytmkblbkijjabdaa.Q

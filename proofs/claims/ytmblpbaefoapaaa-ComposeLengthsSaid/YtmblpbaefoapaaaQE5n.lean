/- Functions of operations in plain words (several texts as one). -/
import Derived.Test.YtmblpbaefoapaaaQN
import Derived.Test.YtmblpbaefoapaaaQX
import Derived.Test.YtmblpbaefoapaaaQxcomitiaref4Same
import Derived.Test.YtmblpbaefoapaaaQxcomposeTwo
import Derived.Test.YtmblpbaefoapaaaQxcomitialaw5known
namespace Go.Proofs.Ytmblpbaefoapaaa.Q
open Go.OpM Go.RowKit Go.Cx Go.Proofs.YtmblpbaefoapaaaW.PrintWords Go.Proofs.YtmblpbaefoapaaaW.PrintLast Go.Proofs.YtmblpbaefoapaaaW.PrintMore
set_option linter.unusedVariables false
set_option linter.unusedSimpArgs false

theorem nf_len (x : List A) : ∀ k p c, (nfGo x k p c).length ≤ 3 * x.length + 3 := by
  induction x with
  | nil => intro k p c; have := kp_len k; have := pp_cp_len p c; simp only [nfGo, List.length_append] at *; simp; omega
  | cons a x ih =>
    intro k p c
    have e1 := kp_len k
    have e2 := pp_cp_len p c
    cases a <;> simp only [nfGo]
    · split
      · have := ih (k + 1) [] 0; simp only [List.length_cons]; omega
      · have := ih 1 [] 0; simp only [List.length_append, List.length_cons] at *; omega
    · have := ih k p (c + 1); simp only [List.length_cons]; omega
    · rename_i b; have := ih k (p ++ [b]) c; simp only [List.length_cons]; omega
theorem nf_good (x : List A) (h : ins x + outs x ≤ 100000) : good (nf x) = true := good_iff.2 ⟨nf_ok x 0 [] 0, by unfold inC outC; rw [at_nf, ins_norm, outs_norm]; exact h⟩
theorem good_sum {l : List Cm} (h : good l = true) : ins (at_ l) + outs (at_ l) ≤ 100000 := (good_iff.1 h).2
theorem good_vl {l : List Cm} (h : good l = true) : Vl l := (good_iff.1 h).1
/-- Normal's own. -/
theorem normal_scs (x : List A) (h : ins x + outs x ≤ 100000) (k : Nat) (hk : 3 * x.length + 3 < k) : op_Normal.f k (scs (nf x)) = some (scs (nf x)) := by
  have := nf_len x 0 [] 0
  rw [normal_eq _ (by rw [cms_scs]; exact nf_good x h) k (by rw [scs_length]; unfold nf; omega), cms_scs, at_nf, nf_norm]
theorem normal_len {x : List A} (h : ins x + outs x ≤ 100000) : (scs (nf x)).length ≤ 300003 := by
  have h1 := nf_len x 0 [] 0
  have h2 := at_len x
  rw [scs_length]; unfold nf; omega
end Go.Proofs.Ytmblpbaefoapaaa.Q

namespace Go.Proofs.Ytmblpbaefoapaaa.Q
open Go.OpM Go.RowKit Go.Cx Go.Proofs.YtmblpbaefoapaaaW.PrintWords Go.Proofs.YtmblpbaefoapaaaW.PrintLast Go.Proofs.YtmblpbaefoapaaaW.PrintMore
set_option linter.unusedVariables false
set_option linter.unusedSimpArgs false

theorem rsame_loop (a b : List S49) (s : List S49) : ∀ (t p q : List S49) (k : Nat), a = p ++ s → b = q ++ t → p.length = q.length → s.length = t.length → a.length ≤ 1000000000000 → s.length < k →
    ∃ r, comitiaref4_Same.l0 k a b (p.length : Int) = some r ∧ (r = true ↔ s = t) := by
  induction s with
  | nil =>
    intro t p q k ha hb hp hs h0 hk
    obtain ⟨k, rfl⟩ : ∃ m, k = m + 1 := ⟨k - 1, by omega⟩
    have ht : t = [] := List.eq_nil_of_length_eq_zero (by simpa using hs.symm)
    have hl : p.length = a.length := by rw [ha]; simp
    refine ⟨true, ?_, by simp [ht]⟩
    simp only [comitiaref4_Same.l0]
    rw [if_neg (by omega)]
  | cons c s ih =>
    intro t p q k ha hb hp hs h0 hk
    obtain ⟨k, rfl⟩ : ∃ m, k = m + 1 := ⟨k - 1, by omega⟩
    obtain ⟨e, t, rfl⟩ : ∃ e t', t = e :: t' := List.exists_cons_of_ne_nil (by intro h; rw [h] at hs; simp at hs)
    have hl : p.length < a.length := by rw [ha]; simp
    have hl2 : q.length < b.length := by rw [hb]; simp
    have r1 : rd_T49 a (p.length : Int) = c := by rw [ha]; exact rd_mid p c s
    have r2 : rd_T49 b (p.length : Int) = e := by rw [hb, hp]; exact rd_mid q e t
    simp only [comitiaref4_Same.l0]
    rw [if_pos (by omega), if_pos (by omega), if_pos (by omega), r1, r2]
    by_cases hce : c = e
    · rw [if_neg (fun h => (s_eq.1 h) hce), w_succ _ (by omega)]
      simp only [List.length_cons] at hk hs
      obtain ⟨r, h1, h2⟩ := ih t (p ++ [c]) (q ++ [e]) k (by simp [ha]) (by simp [hb]) (by simp [hp]) (by omega) h0 (by omega)
      refine ⟨r, ?_, ?_⟩
      · have : (p ++ [c]).length = p.length + 1 := by simp
        rw [this] at h1
        exact h1
      · rw [h2]; simp [hce]
    · rw [if_pos (s_eq.2 hce)]
      exact ⟨false, rfl, by simp [hce]⟩
theorem rsame_ex (a b : List S49) (h0 : a.length ≤ 1000000000000) (k : Nat) (hk : a.length < k) : ∃ r, comitiaref4_Same.f k a b = some r ∧ (r = true ↔ a = b) := by
  unfold comitiaref4_Same.f
  by_cases hl : a.length = b.length
  · rw [if_pos (by omega)]
    obtain ⟨r, h1, h2⟩ := rsame_loop a b a b [] [] k rfl rfl rfl hl h0 hk
    have h1' : comitiaref4_Same.l0 k a b 0 = some r := h1
    rw [h1']
    exact ⟨r, rfl, h2⟩
  · rw [if_neg (by omega)]
    exact ⟨false, rfl, by simp; intro h; exact hl (by rw [h])⟩
theorem rsame_refl (a : List S49) (h0 : a.length ≤ 1000000000000) (k : Nat) (hk : a.length < k) : comitiaref4_Same.f k a a = some true := by
  obtain ⟨r, h1, h2⟩ := rsame_ex a a h0 k hk
  rw [h1, h2.2 rfl]
theorem rsame_ne {a b : List S49} (h : a ≠ b) (h0 : a.length ≤ 1000000000000) (k : Nat) (hk : a.length < k) : comitiaref4_Same.f k a b = some false := by
  obtain ⟨r, h1, h2⟩ := rsame_ex a b h0 k hk
  rw [h1]
  cases r with
  | false => rfl
  | true => exact absurd (h2.1 rfl) h

end Go.Proofs.Ytmblpbaefoapaaa.Q

namespace Go.Proofs.Ytmblpbaefoapaaa.Q
open Go.OpM Go.RowKit Go.Cx Go.Proofs.YtmblpbaefoapaaaW.PrintWords Go.Proofs.YtmblpbaefoapaaaW.PrintLast Go.Proofs.YtmblpbaefoapaaaW.PrintMore
set_option linter.unusedVariables false
set_option linter.unusedSimpArgs false
theorem two_eq {a b : List S49} (h : good2 (cms a) (cms b) = true) : compose_Two.f a b = some (if inC (cms b) = outC (cms a) then (scs (nf (comp (at_ (cms a)) (at_ (cms b)))), 0) else ([], 7)) := by
  unfold compose_Two.f
  rw [if_pos h]
  by_cases hi : inC (cms b) = outC (cms a)
  · rw [if_pos hi, if_pos hi]
  · rw [if_neg hi, if_neg hi]
theorem good2_mk {a b : List Cm} (ha : Vl a) (hb : Vl b) (h : inC a + outC a + inC b + outC b ≤ 50000) : good2 a b = true := good2_iff.2 ⟨ha, hb, h⟩
theorem good2_g {a b : List Cm} (ha : good a = true) (hb : good b = true) (h : inC a + outC a + inC b + outC b ≤ 50000) : good2 a b = true := good2_iff.2 ⟨good_vl ha, good_vl hb, h⟩
theorem known5_true : comitialaw5_known.f = some true := by
  unfold comitialaw5_known.f
  have h1 : compose_Two.f (([(⟨2, 0, (⟨#[120]⟩ : ByteArray)⟩ : S49)] : List (S49))) (([(⟨3, 1, (⟨#[]⟩ : ByteArray)⟩ : S49)] : List (S49))) = some ([], 0) := by
    rw [two_eq (by decide), if_pos (by decide)]
    have : comp (at_ (cms [(⟨2, 0, (⟨#[120]⟩ : ByteArray)⟩ : S49)])) (at_ (cms [(⟨3, 1, (⟨#[]⟩ : ByteArray)⟩ : S49)])) = [] := by
      show comp [A.P 120] [A.C] = []
      simp [comp]
    rw [this]; rfl
  have h2 : compose_Two.f (([(⟨2, 0, (⟨#[120]⟩ : ByteArray)⟩ : S49)] : List (S49))) (([(⟨3, 2, (⟨#[]⟩ : ByteArray)⟩ : S49)] : List (S49))) = some ([], 7) := by
    rw [two_eq (by decide), if_neg (by decide)]
  rw [h1, h2]
  rfl
theorem mx_eq (a b : Int) : mx a b = max a b := by unfold mx; split <;> omega
/-- How two are written does not count. -/
theorem comp_norms {a b : List A} (h : outs a = ins b) : nf (comp (norm a) (norm b)) = nf (comp a b) := by
  have h2 : outs (norm a) = ins (norm b) := by rw [outs_norm, ins_norm, h]
  refine nf_eq (norm_eq (by rw [ins_comp _ _ h2, ins_comp _ _ h, ins_norm]) ?_)
  intro α f d hd
  rw [ins_comp _ _ h2, ins_norm] at hd
  rw [app_comp f _ _ h2 d (by rw [ins_norm]; exact hd), app_comp f _ _ h d hd, app_norm f a d (by omega), app_norm f b _ (by rw [app_length f a d (by omega)]; omega)]
theorem comp_keepsL (x : List A) : comp (keeps (ins x)) x = x := by
  induction x with
  | nil => simp [ins, keeps, comp]
  | cons a x ih =>
    cases a
    · simp only [keeps] at ih; simp [ins, keeps, List.replicate_succ, comp, ih]
    · simp only [keeps] at ih; simp [ins, keeps, List.replicate_succ, comp, ih]
    · simp only [ins]; rw [comp_PR, ih]
      intro a' e; cases h : ins x <;> rw [h] at e <;> simp [keeps, List.replicate_succ] at e
theorem comp_keepsR (x : List A) : comp x (keeps (outs x)) = x := by
  induction x with
  | nil => simp [outs, keeps, comp]
  | cons a x ih =>
    cases a
    · simp only [keeps] at ih; simp [outs, keeps, List.replicate_succ, comp, ih]
    · simp only [outs]; rw [comp_CL, ih]
    · simp only [keeps] at ih; simp [outs, keeps, List.replicate_succ, comp, ih]
theorem nf_nf (x : List A) : nf (at_ (nf x)) = nf x := by rw [at_nf, nf_norm]
end Go.Proofs.Ytmblpbaefoapaaa.Q

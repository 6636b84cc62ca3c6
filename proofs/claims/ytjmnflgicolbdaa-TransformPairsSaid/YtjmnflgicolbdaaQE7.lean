/- Functions of operations in plain words (several texts as one). -/
import Derived.Test.YtjmnflgicolbdaaQN
import Derived.Test.YtjmnflgicolbdaaQX
import Derived.Test.YtjmnflgicolbdaaQxcomitiaref4Apply
import Derived.Test.YtjmnflgicolbdaaQxcomitiaref4Same
import Derived.Test.YtjmnflgicolbdaaQxtransformPair
import Derived.Test.YtjmnflgicolbdaaQxcomitialaw7known
import Derived.Test.YtjmnflgicolbdaaQxcomitialaw7few
namespace Go.Proofs.Ytjmnflgicolbdaa.Q
open Go.OpM Go.RowKit Go.Cx Go.Proofs.YtjmnflgicolbdaaW.PrintWords Go.Proofs.YtjmnflgicolbdaaW.PrintLast Go.Proofs.YtjmnflgicolbdaaW.PrintMore
set_option linter.unusedVariables false
set_option linter.unusedSimpArgs false

theorem nf_len (x : List A) : ∀ k p c, (nfGo x k p c).length ≤ 3 * x.length + 3 := by
  induction x with
  | nil => intro k p c; have := kp_len k; have := pp_cp_len p c; simp only [nfGo, List.length_append] at *; simp; omega
  | cons a x ih =>
    intro k p c
    have e1 := kp_len k
    have e2 := pp_cp_len p c
    cases a <;> simp only [nfGo]
    · split
      · have := ih (k + 1) [] 0; simp only [List.length_cons]; omega
      · have := ih 1 [] 0; simp only [List.length_append, List.length_cons] at *; omega
    · have := ih k p (c + 1); simp only [List.length_cons]; omega
    · rename_i b; have := ih k (p ++ [b]) c; simp only [List.length_cons]; omega
theorem nf_good (x : List A) (h : ins x + outs x ≤ 100000) : good (nf x) = true := good_iff.2 ⟨nf_ok x 0 [] 0, by unfold inC outC; rw [at_nf, ins_norm, outs_norm]; exact h⟩
theorem good_sum {l : List Cm} (h : good l = true) : ins (at_ l) + outs (at_ l) ≤ 100000 := (good_iff.1 h).2
theorem good_vl {l : List Cm} (h : good l = true) : Vl l := (good_iff.1 h).1
/-- Normal's own. -/
theorem normal_scs (x : List A) (h : ins x + outs x ≤ 100000) (k : Nat) (hk : 3 * x.length + 3 < k) : op_Normal.f k (scs (nf x)) = some (scs (nf x)) := by
  have := nf_len x 0 [] 0
  rw [normal_eq _ (by rw [cms_scs]; exact nf_good x h) k (by rw [scs_length]; unfold nf; omega), cms_scs, at_nf, nf_norm]
theorem normal_len {x : List A} (h : ins x + outs x ≤ 100000) : (scs (nf x)).length ≤ 300003 := by
  have h1 := nf_len x 0 [] 0
  have h2 := at_len x
  rw [scs_length]; unfold nf; omega
end Go.Proofs.Ytjmnflgicolbdaa.Q

namespace Go.Proofs.Ytjmnflgicolbdaa.Q
open Go.OpM Go.RowKit Go.Cx Go.Proofs.YtjmnflgicolbdaaW.PrintWords Go.Proofs.YtjmnflgicolbdaaW.PrintLast Go.Proofs.YtjmnflgicolbdaaW.PrintMore
set_option linter.unusedVariables false
set_option linter.unusedSimpArgs false

theorem ext_str (d : List UInt8) (a b : Nat) : (⟨d.toArray⟩ : ByteArray).extract a b = ⟨((d.drop a).take (b - a)).toArray⟩ := by
  apply ByteArray.ext
  simp [ByteArray.data_extract, List.extract_toArray, List.extract_eq_take_drop]
theorem apply_loop (d : List UInt8) (l s : List S43) : ∀ (p : List S43) (out : List UInt8) (at' k : Nat), l = p ++ s → Vl (cms s) → l.length ≤ 1000000 → d.length ≤ 1000000 → at' + inC (cms s) = d.length → out.length + outC (cms s) ≤ 1000000 → s.length < k →
    comitiaref4_Apply.l0 k ⟨d.toArray⟩ l ⟨out.toArray⟩ at' (p.length : Int) = some (⟨(out ++ app id (at_ (cms s)) (d.drop at')).toArray⟩, 0) := by
  induction s with
  | nil =>
    intro p out at' k hl hv h0 hd h1 h2 hk
    obtain ⟨k, rfl⟩ : ∃ m, k = m + 1 := ⟨k - 1, by omega⟩
    have hpl : p.length = l.length := by rw [hl]; simp
    simp only [comitiaref4_Apply.l0]
    rw [if_neg (by omega)]
    simp [cms, app]
  | cons c s ih =>
    intro p out at' k hl hv h0 hd h1 h2 hk
    obtain ⟨k, rfl⟩ : ∃ m, k = m + 1 := ⟨k - 1, by omega⟩
    have hpl : p.length < l.length := by rw [hl]; simp
    have hrd : rd_T43 l (p.length : Int) = c := by rw [hl]; exact rd_mid p c s
    have hin : inC (cms (c :: s)) = ins (cm c).at_ + inC (cms s) := by simp [cms, inC]
    have hout : outC (cms (c :: s)) = outs (cm c).at_ + outC (cms s) := by simp [cms, outC]
    have hat : at_ (cms (c :: s)) = (cm c).at_ ++ at_ (cms s) := rfl
    have he : (p ++ [c]).length = p.length + 1 := by simp
    have hvs : Vl (cms s) := Vl.tail (c := cm c) hv
    have hle : ins (cm c).at_ ≤ (d.drop at').length := by rw [List.length_drop]; omega
    rw [hin] at h1
    rw [hout] at h2
    rw [hat, app_append _ _ _ _ hle, List.drop_drop]
    simp only [List.length_cons] at hk
    simp only [comitiaref4_Apply.l0]
    rw [if_pos (by omega), if_pos (by omega), hrd, w_succ _ (by omega)]
    rcases Cm.cases (hv.head (c := cm c) (l := cms s)) with ⟨n, hn, hc⟩ | ⟨q, hq, hc⟩ | ⟨n, hn, hc⟩
    · have hc' : c = ⟨1, n, ⟨#[]⟩⟩ := by rw [← sc_cm c, hc]; rfl
      rw [hc] at h1 h2 hle ⊢
      simp only [at_keep, ins_keeps, outs_keeps] at h1 h2 hle ⊢
      have ih' := ih (p ++ [c]) (out ++ (d.drop at').take n) (at' + n) k (by simp [hl]) hvs h0 hd (by omega) (by simp only [List.length_append, List.length_take]; omega) (by omega)
      rw [he] at ih'
      rw [hc'] 
      simp only
      rw [w64 (by omega) (by omega), if_pos trivial, if_pos (by omega), if_pos (by omega), if_pos (by rw [ba_size]; omega)]
      have e1 : ((at' : Int)).toNat = at' := by omega
      have e2 : ((at' : Int) + (n : Int)).toNat = at' + n := by omega
      have e3 : at' + n - at' = n := by omega
      rw [e1, e2, ext_str, e3, if_pos (by rw [ba_size, ba_size, List.length_take, List.length_drop]; omega), ba_app, show ((at' : Int) + (n : Int)) = ((at' + n : Nat) : Int) from by omega, ih', app_keeps _ _ _ hle]
      simp
    · have hc' : c = ⟨2, 0, ⟨q.toArray⟩⟩ := by rw [← sc_cm c, hc]; rfl
      rw [hc] at h1 h2 hle ⊢
      simp only [at_put, ins_puts, outs_puts] at h1 h2 hle ⊢
      have ih' := ih (p ++ [c]) (out ++ q) at' k (by simp [hl]) hvs h0 hd (by omega) (by simp only [List.length_append]; omega) (by omega)
      rw [he] at ih'
      rw [hc']
      simp only
      rw [if_neg (by decide), if_pos trivial, if_pos (by rw [ba_size, ba_size]; omega), ba_app, ih', app_puts]
      simp
    · have hc' : c = ⟨3, n, ⟨#[]⟩⟩ := by rw [← sc_cm c, hc]; rfl
      rw [hc] at h1 h2 hle ⊢
      simp only [at_cut, ins_cuts, outs_cuts] at h1 h2 hle ⊢
      have ih' := ih (p ++ [c]) out (at' + n) k (by simp [hl]) hvs h0 hd (by omega) (by omega) (by omega)
      rw [he] at ih'
      rw [hc']
      simp only
      rw [w64 (by omega) (by omega), if_neg (by decide), if_neg (by decide), show ((at' : Int) + (n : Int)) = ((at' + n : Nat) : Int) from by omega, ih', app_cuts]
      simp
/-- What Apply answers. -/
theorem ref_apply (d : List UInt8) (l : List S43) (h : good (cms l) = true) (hd : d.length ≤ 100000) (k : Nat) (hk : l.length < k) : comitiaref4_Apply.f k ⟨d.toArray⟩ l =
    some (if inC (cms l) = d.length then (if outC (cms l) ≤ 120 then (⟨(app id (at_ (cms l)) d).toArray⟩, 0) else (⟨#[]⟩, 5)) else (⟨#[]⟩, 7)) := by
  have h1 := (good_iff.1 h).2
  unfold comitiaref4_Apply.f
  rw [ref_in l h k hk, ref_out l h k hk]
  simp only [Option.bind_some, ba_size]
  by_cases hi : inC (cms l) = d.length
  · rw [if_pos (by omega), if_pos hi]
    by_cases ho : outC (cms l) ≤ 120
    · rw [if_neg (by omega), if_pos ho]
      have := apply_loop d l l [] [] 0 k rfl (good_iff.1 h).1 (by have := good_len h; omega) (by omega) (by omega) (by simp; omega) hk
      simpa using this
    · rw [if_pos (by omega), if_neg ho]
  · rw [if_neg (by omega), if_neg hi]
end Go.Proofs.Ytjmnflgicolbdaa.Q

namespace Go.Proofs.Ytjmnflgicolbdaa.Q
open Go.OpM Go.RowKit Go.Cx Go.Proofs.YtjmnflgicolbdaaW.PrintWords Go.Proofs.YtjmnflgicolbdaaW.PrintLast Go.Proofs.YtjmnflgicolbdaaW.PrintMore
set_option linter.unusedVariables false
set_option linter.unusedSimpArgs false

theorem rsame_loop (a b : List S43) (s : List S43) : ∀ (t p q : List S43) (k : Nat), a = p ++ s → b = q ++ t → p.length = q.length → s.length = t.length → a.length ≤ 1000000000000 → s.length < k →
    ∃ r, comitiaref4_Same.l0 k a b (p.length : Int) = some r ∧ (r = true ↔ s = t) := by
  induction s with
  | nil =>
    intro t p q k ha hb hp hs h0 hk
    obtain ⟨k, rfl⟩ : ∃ m, k = m + 1 := ⟨k - 1, by omega⟩
    have ht : t = [] := List.eq_nil_of_length_eq_zero (by simpa using hs.symm)
    have hl : p.length = a.length := by rw [ha]; simp
    refine ⟨true, ?_, by simp [ht]⟩
    simp only [comitiaref4_Same.l0]
    rw [if_neg (by omega)]
  | cons c s ih =>
    intro t p q k ha hb hp hs h0 hk
    obtain ⟨k, rfl⟩ : ∃ m, k = m + 1 := ⟨k - 1, by omega⟩
    obtain ⟨e, t, rfl⟩ : ∃ e t', t = e :: t' := List.exists_cons_of_ne_nil (by intro h; rw [h] at hs; simp at hs)
    have hl : p.length < a.length := by rw [ha]; simp
    have hl2 : q.length < b.length := by rw [hb]; simp
    have r1 : rd_T43 a (p.length : Int) = c := by rw [ha]; exact rd_mid p c s
    have r2 : rd_T43 b (p.length : Int) = e := by rw [hb, hp]; exact rd_mid q e t
    simp only [comitiaref4_Same.l0]
    rw [if_pos (by omega), if_pos (by omega), if_pos (by omega), r1, r2]
    by_cases hce : c = e
    · rw [if_neg (fun h => (s_eq.1 h) hce), w_succ _ (by omega)]
      simp only [List.length_cons] at hk hs
      obtain ⟨r, h1, h2⟩ := ih t (p ++ [c]) (q ++ [e]) k (by simp [ha]) (by simp [hb]) (by simp [hp]) (by omega) h0 (by omega)
      refine ⟨r, ?_, ?_⟩
      · have : (p ++ [c]).length = p.length + 1 := by simp
        rw [this] at h1
        exact h1
      · rw [h2]; simp [hce]
    · rw [if_pos (s_eq.2 hce)]
      exact ⟨false, rfl, by simp [hce]⟩
theorem rsame_ex (a b : List S43) (h0 : a.length ≤ 1000000000000) (k : Nat) (hk : a.length < k) : ∃ r, comitiaref4_Same.f k a b = some r ∧ (r = true ↔ a = b) := by
  unfold comitiaref4_Same.f
  by_cases hl : a.length = b.length
  · rw [if_pos (by omega)]
    obtain ⟨r, h1, h2⟩ := rsame_loop a b a b [] [] k rfl rfl rfl hl h0 hk
    have h1' : comitiaref4_Same.l0 k a b 0 = some r := h1
    rw [h1']
    exact ⟨r, rfl, h2⟩
  · rw [if_neg (by omega)]
    exact ⟨false, rfl, by simp; intro h; exact hl (by rw [h])⟩
theorem rsame_refl (a : List S43) (h0 : a.length ≤ 1000000000000) (k : Nat) (hk : a.length < k) : comitiaref4_Same.f k a a = some true := by
  obtain ⟨r, h1, h2⟩ := rsame_ex a a h0 k hk
  rw [h1, h2.2 rfl]
theorem rsame_ne {a b : List S43} (h : a ≠ b) (h0 : a.length ≤ 1000000000000) (k : Nat) (hk : a.length < k) : comitiaref4_Same.f k a b = some false := by
  obtain ⟨r, h1, h2⟩ := rsame_ex a b h0 k hk
  rw [h1]
  cases r with
  | false => rfl
  | true => exact absurd (h2.1 rfl) h

end Go.Proofs.Ytjmnflgicolbdaa.Q

namespace Go.Proofs.Ytjmnflgicolbdaa.Q
open Go.OpM Go.RowKit Go.Cx Go.Proofs.YtjmnflgicolbdaaW.PrintWords Go.Proofs.YtjmnflgicolbdaaW.PrintLast Go.Proofs.YtjmnflgicolbdaaW.PrintMore
set_option linter.unusedVariables false
set_option linter.unusedSimpArgs false
theorem tpair_eq {a b : List S43} (h : good2 (cms a) (cms b) = true) : transform_Pair.f a b = some (if inC (cms a) = inC (cms b) then (scs (nf (pairA (norm (at_ (cms a))) (norm (at_ (cms b)))).1), scs (nf (pairA (norm (at_ (cms a))) (norm (at_ (cms b)))).2), 0) else ([], [], 7)) := by
  unfold transform_Pair.f
  rw [if_pos h]
  by_cases hi : inC (cms a) = inC (cms b)
  · rw [if_pos hi, if_pos hi]
  · rw [if_neg hi, if_neg hi]
theorem good2_mk {a b : List Cm} (ha : Vl a) (hb : Vl b) (h : inC a + outC a + inC b + outC b ≤ 50000) : good2 a b = true := good2_iff.2 ⟨ha, hb, h⟩
theorem good2_g {a b : List Cm} (ha : good a = true) (hb : good b = true) (h : inC a + outC a + inC b + outC b ≤ 50000) : good2 a b = true := good2_iff.2 ⟨good_vl ha, good_vl hb, h⟩
theorem mx_eq (a b : Int) : mx a b = max a b := by unfold mx; split <;> omega
theorem nf_nf (x : List A) : nf (at_ (nf x)) = nf x := by rw [at_nf, nf_norm]
/-- What is known of two that are led over one another. -/
structure PF (a b X Y : List A) : Prop where
  ix : ins X = outs b
  iy : ins Y = outs a
  xy : outs X = outs Y
  px : nput X = nput a
  py : nput Y = nput b
  le : outs X ≤ outs a + outs b
  meets : ∀ d : List UInt8, d.length = ins a → app id Y (app id a d) = app id X (app id b d)
theorem pf {a b : List A} (h : ins a = ins b) : PF a b (pairA (norm a) (norm b)).1 (pairA (norm a) (norm b)).2 := by
  have h2 : ins (norm a) = ins (norm b) := by rw [ins_norm, ins_norm, h]
  have q := pair_ins _ _ h2
  have r := pair_outs _ _ h2
  have s := pair_nput _ _ h2
  rw [outs_norm, outs_norm] at q
  rw [nput_norm, nput_norm] at s
  have e := outs_ins (pairA (norm a) (norm b)).1
  have n := nput_le a
  refine ⟨q.1, q.2, r, s.1, s.2, by rw [q.1, s.1] at e; omega, fun d hd => ?_⟩
  have m := pair_meets id _ _ h2 d (by rw [ins_norm]; exact hd)
  rwa [app_norm id a d (by omega), app_norm id b d (by omega)] at m
theorem few_eq (l : List Int) : ∃ d : List UInt8, comitialaw7_few.f l = some ⟨d.toArray⟩ ∧ d.length ≤ 60 := by
  unfold comitialaw7_few.f
  rw [mn_eq, if_pos (by omega), if_pos (by omega)]
  refine ⟨(l.take (min (l.length : Int) 60).toNat).map fun n => UInt8.ofNat n.toNat, rfl, ?_⟩
  rw [List.length_map, List.length_take]; omega
theorem known7_true (k : Nat) (hk : 10 ≤ k) : comitialaw7_known.f k = some true := by
  unfold comitialaw7_known.f
  have g : good2 (cms [(⟨2, 0, (⟨#[97]⟩ : ByteArray)⟩ : S43)]) (cms [(⟨2, 0, (⟨#[98]⟩ : ByteArray)⟩ : S43)]) = true := by decide
  have h1 : transform_Pair.f (([(⟨2, 0, (⟨#[97]⟩ : ByteArray)⟩ : S43)] : List (S43))) (([(⟨2, 0, (⟨#[98]⟩ : ByteArray)⟩ : S43)] : List (S43))) = some ([⟨2, 0, ⟨#[97]⟩⟩, ⟨1, 1, ⟨#[]⟩⟩], [⟨1, 1, ⟨#[]⟩⟩, ⟨2, 0, ⟨#[98]⟩⟩], 0) := by
    rw [tpair_eq g, if_pos (by decide)]
    have e1 : norm (at_ (cms [(⟨2, 0, (⟨#[97]⟩ : ByteArray)⟩ : S43)])) = [A.P 97] := rfl
    have e2 : norm (at_ (cms [(⟨2, 0, (⟨#[98]⟩ : ByteArray)⟩ : S43)])) = [A.P 98] := rfl
    have e3 : pairA [A.P 97] [A.P 98] = ([A.P 97, A.K], [A.K, A.P 98]) := by simp [pairA]
    rw [e1, e2, e3]; rfl
  rw [h1]
  have a1 := ref_apply [98] [(⟨2, 0, (⟨#[97]⟩ : ByteArray)⟩ : S43), ⟨1, 1, ⟨#[]⟩⟩] (by decide) (by decide) k (by simp; omega)
  have a2 := ref_apply [97] [(⟨1, 1, (⟨#[]⟩ : ByteArray)⟩ : S43), ⟨2, 0, ⟨#[98]⟩⟩] (by decide) (by decide) k (by simp; omega)
  rw [if_pos (by decide), if_pos (by decide)] at a1 a2
  have d1 : app id (at_ (cms [(⟨2, 0, (⟨#[97]⟩ : ByteArray)⟩ : S43), ⟨1, 1, ⟨#[]⟩⟩])) [98] = [97, 98] := by decide
  have d2 : app id (at_ (cms [(⟨1, 1, (⟨#[]⟩ : ByteArray)⟩ : S43), ⟨2, 0, ⟨#[98]⟩⟩])) [97] = [97, 98] := by decide
  rw [d1] at a1
  rw [d2] at a2
  show (comitiaref4_Apply.f k ⟨[98].toArray⟩ _).bind _ = _
  simp only [Option.bind_some]
  rw [a1]
  simp only [Option.bind_some]
  show (comitiaref4_Apply.f k ⟨[97].toArray⟩ _).bind _ = _
  rw [a2]
  simp
end Go.Proofs.Ytjmnflgicolbdaa.Q

/- Functions of operations in plain words (several texts as one). -/
import Derived.Test.YtjmnflgicolbdaaQN
import Derived.Test.YtjmnflgicolbdaaQX
import Derived.Test.YtjmnflgicolbdaaQxcomitiaref4Apply
import Derived.Test.YtjmnflgicolbdaaQxtransformPair
import Derived.Test.YtjmnflgicolbdaaQxcomitialaw7known
import Derived.Test.YtjmnflgicolbdaaQxcomitialaw7few
import Derived.Test.YtjmnflgicolbdaaQxcomitiaref6Op
namespace Go.Proofs.Ytjmnflgicolbdaa.Q
open Go.OpM Go.RowKit Go.Cx Go.Proofs.YtjmnflgicolbdaaW.PrintWords Go.Proofs.YtjmnflgicolbdaaW.PrintLast Go.Proofs.YtjmnflgicolbdaaW.PrintMore
set_option linter.unusedVariables false
set_option linter.unusedSimpArgs false

theorem nf_len (x : List A) : ∀ k p c, (nfGo x k p c).length ≤ 3 * x.length + 3 := by
  induction x with
  | nil => intro k p c; have := kp_len k; have := pp_cp_len p c; simp only [nfGo, List.length_append] at *; simp; omega
  | cons a x ih =>
    intro k p c
    have e1 := kp_len k
    have e2 := pp_cp_len p c
    cases a <;> simp only [nfGo]
    · split
      · have := ih (k + 1) [] 0; simp only [List.length_cons]; omega
      · have := ih 1 [] 0; simp only [List.length_append, List.length_cons] at *; omega
    · have := ih k p (c + 1); simp only [List.length_cons]; omega
    · rename_i b; have := ih k (p ++ [b]) c; simp only [List.length_cons]; omega
theorem nf_good (x : List A) (h : ins x + outs x ≤ 100000) : good (nf x) = true := good_iff.2 ⟨nf_ok x 0 [] 0, by unfold inC outC; rw [at_nf, ins_norm, outs_norm]; exact h⟩
theorem good_sum {l : List Cm} (h : good l = true) : ins (at_ l) + outs (at_ l) ≤ 100000 := (good_iff.1 h).2
theorem good_vl {l : List Cm} (h : good l = true) : Vl l := (good_iff.1 h).1
/-- Normal's own. -/
theorem normal_scs (x : List A) (h : ins x + outs x ≤ 100000) (k : Nat) (hk : 3 * x.length + 3 < k) : op_Normal.f k (scs (nf x)) = some (scs (nf x)) := by
  have := nf_len x 0 [] 0
  rw [normal_eq _ (by rw [cms_scs]; exact nf_good x h) k (by rw [scs_length]; unfold nf; omega), cms_scs, at_nf, nf_norm]
theorem normal_len {x : List A} (h : ins x + outs x ≤ 100000) : (scs (nf x)).length ≤ 300003 := by
  have h1 := nf_len x 0 [] 0
  have h2 := at_len x
  rw [scs_length]; unfold nf; omega
end Go.Proofs.Ytjmnflgicolbdaa.Q

namespace Go.Proofs.Ytjmnflgicolbdaa.Q
open Go.OpM Go.RowKit Go.Cx Go.Proofs.YtjmnflgicolbdaaW.PrintWords Go.Proofs.YtjmnflgicolbdaaW.PrintLast Go.Proofs.YtjmnflgicolbdaaW.PrintMore
set_option linter.unusedVariables false
set_option linter.unusedSimpArgs false

theorem ext_str (d : List UInt8) (a b : Nat) : (⟨d.toArray⟩ : ByteArray).extract a b = ⟨((d.drop a).take (b - a)).toArray⟩ := by
  apply ByteArray.ext
  simp [ByteArray.data_extract, List.extract_toArray, List.extract_eq_take_drop]
theorem apply_loop (d : List UInt8) (l s : List S43) : ∀ (p : List S43) (out : List UInt8) (at' k : Nat), l = p ++ s → Vl (cms s) → l.length ≤ 1000000 → d.length ≤ 1000000 → at' + inC (cms s) = d.length → out.length + outC (cms s) ≤ 1000000 → s.length < k →
    comitiaref4_Apply.l0 k ⟨d.toArray⟩ l ⟨out.toArray⟩ at' (p.length : Int) = some (⟨(out ++ app id (at_ (cms s)) (d.drop at')).toArray⟩, 0) := by
  induction s with
  | nil =>
    intro p out at' k hl hv h0 hd h1 h2 hk
    obtain ⟨k, rfl⟩ : ∃ m, k = m + 1 := ⟨k - 1, by omega⟩
    have hpl : p.length = l.length := by rw [hl]; simp
    simp only [comitiaref4_Apply.l0]
    rw [if_neg (by omega)]
    simp [cms, app]
  | cons c s ih =>
    intro p out at' k hl hv h0 hd h1 h2 hk
    obtain ⟨k, rfl⟩ : ∃ m, k = m + 1 := ⟨k - 1, by omega⟩
    have hpl : p.length < l.length := by rw [hl]; simp
    have hrd : rd_T43 l (p.length : Int) = c := by rw [hl]; exact rd_mid p c s
    have hin : inC (cms (c :: s)) = ins (cm c).at_ + inC (cms s) := by simp [cms, inC]
    have hout : outC (cms (c :: s)) = outs (cm c).at_ + outC (cms s) := by simp [cms, outC]
    have hat : at_ (cms (c :: s)) = (cm c).at_ ++ at_ (cms s) := rfl
    have he : (p ++ [c]).length = p.length + 1 := by simp
    have hvs : Vl (cms s) := Vl.tail (c := cm c) hv
    have hle : ins (cm c).at_ ≤ (d.drop at').length := by rw [List.length_drop]; omega
    rw [hin] at h1
    rw [hout] at h2
    rw [hat, app_append _ _ _ _ hle, List.drop_drop]
    simp only [List.length_cons] at hk
    simp only [comitiaref4_Apply.l0]
    rw [if_pos (by omega), if_pos (by omega), hrd, w_succ _ (by omega)]
    rcases Cm.cases (hv.head (c := cm c) (l := cms s)) with ⟨n, hn, hc⟩ | ⟨q, hq, hc⟩ | ⟨n, hn, hc⟩
    · have hc' : c = ⟨1, n, ⟨#[]⟩⟩ := by rw [← sc_cm c, hc]; rfl
      rw [hc] at h1 h2 hle ⊢
      simp only [at_keep, ins_keeps, outs_keeps] at h1 h2 hle ⊢
      have ih' := ih (p ++ [c]) (out ++ (d.drop at').take n) (at' + n) k (by simp [hl]) hvs h0 hd (by omega) (by simp only [List.length_append, List.length_take]; omega) (by omega)
      rw [he] at ih'
      rw [hc'] 
      simp only
      rw [w64 (by omega) (by omega), if_pos trivial, if_pos (by omega), if_pos (by omega), if_pos (by rw [ba_size]; omega)]
      have e1 : ((at' : Int)).toNat = at' := by omega
      have e2 : ((at' : Int) + (n : Int)).toNat = at' + n := by omega
      have e3 : at' + n - at' = n := by omega
      rw [e1, e2, ext_str, e3, if_pos (by rw [ba_size, ba_size, List.length_take, List.length_drop]; omega), ba_app, show ((at' : Int) + (n : Int)) = ((at' + n : Nat) : Int) from by omega, ih', app_keeps _ _ _ hle]
      simp
    · have hc' : c = ⟨2, 0, ⟨q.toArray⟩⟩ := by rw [← sc_cm c, hc]; rfl
      rw [hc] at h1 h2 hle ⊢
      simp only [at_put, ins_puts, outs_puts] at h1 h2 hle ⊢
      have ih' := ih (p ++ [c]) (out ++ q) at' k (by simp [hl]) hvs h0 hd (by omega) (by simp only [List.length_append]; omega) (by omega)
      rw [he] at ih'
      rw [hc']
      simp only
      rw [if_neg (by decide), if_pos trivial, if_pos (by rw [ba_size, ba_size]; omega), ba_app, ih', app_puts]
      simp
    · have hc' : c = ⟨3, n, ⟨#[]⟩⟩ := by rw [← sc_cm c, hc]; rfl
      rw [hc] at h1 h2 hle ⊢
      simp only [at_cut, ins_cuts, outs_cuts] at h1 h2 hle ⊢
      have ih' := ih (p ++ [c]) out (at' + n) k (by simp [hl]) hvs h0 hd (by omega) (by omega) (by omega)
      rw [he] at ih'
      rw [hc']
      simp only
      rw [w64 (by omega) (by omega), if_neg (by decide), if_neg (by decide), show ((at' : Int) + (n : Int)) = ((at' + n : Nat) : Int) from by omega, ih', app_cuts]
      simp
/-- What Apply answers. -/
theorem ref_apply (d : List UInt8) (l : List S43) (h : good (cms l) = true) (hd : d.length ≤ 100000) (k : Nat) (hk : l.length < k) : comitiaref4_Apply.f k ⟨d.toArray⟩ l =
    some (if inC (cms l) = d.length then (if outC (cms l) ≤ 120 then (⟨(app id (at_ (cms l)) d).toArray⟩, 0) else (⟨#[]⟩, 5)) else (⟨#[]⟩, 7)) := by
  have h1 := (good_iff.1 h).2
  unfold comitiaref4_Apply.f
  rw [ref_in l h k hk, ref_out l h k hk]
  simp only [Option.bind_some, ba_size]
  by_cases hi : inC (cms l) = d.length
  · rw [if_pos (by omega), if_pos hi]
    by_cases ho : outC (cms l) ≤ 120
    · rw [if_neg (by omega), if_pos ho]
      have := apply_loop d l l [] [] 0 k rfl (good_iff.1 h).1 (by have := good_len h; omega) (by omega) (by omega) (by simp; omega) hk
      simpa using this
    · rw [if_pos (by omega), if_neg ho]
  · rw [if_neg (by omega), if_neg hi]
end Go.Proofs.Ytjmnflgicolbdaa.Q

namespace Go.Proofs.Ytjmnflgicolbdaa.Q
open Go.OpM Go.RowKit Go.Cx Go.Proofs.YtjmnflgicolbdaaW.PrintWords Go.Proofs.YtjmnflgicolbdaaW.PrintLast Go.Proofs.YtjmnflgicolbdaaW.PrintMore
set_option linter.unusedVariables false
set_option linter.unusedSimpArgs false
theorem tpair_eq {a b : List S43} (h : good2 (cms a) (cms b) = true) : transform_Pair.f a b = some (if inC (cms a) = inC (cms b) then (scs (nf (pairA (norm (at_ (cms a))) (norm (at_ (cms b)))).1), scs (nf (pairA (norm (at_ (cms a))) (norm (at_ (cms b)))).2), 0) else ([], [], 7)) := by
  unfold transform_Pair.f
  rw [if_pos h]
  by_cases hi : inC (cms a) = inC (cms b)
  · rw [if_pos hi, if_pos hi]
  · rw [if_neg hi, if_neg hi]
theorem good2_mk {a b : List Cm} (ha : Vl a) (hb : Vl b) (h : inC a + outC a + inC b + outC b ≤ 50000) : good2 a b = true := good2_iff.2 ⟨ha, hb, h⟩
theorem good2_g {a b : List Cm} (ha : good a = true) (hb : good b = true) (h : inC a + outC a + inC b + outC b ≤ 50000) : good2 a b = true := good2_iff.2 ⟨good_vl ha, good_vl hb, h⟩
theorem mx_eq (a b : Int) : mx a b = max a b := by unfold mx; split <;> omega
theorem nf_nf (x : List A) : nf (at_ (nf x)) = nf x := by rw [at_nf, nf_norm]
/-- What is known of two that are led over one another. -/
structure PF (a b X Y : List A) : Prop where
  ix : ins X = outs b
  iy : ins Y = outs a
  xy : outs X = outs Y
  px : nput X = nput a
  py : nput Y = nput b
  le : outs X ≤ outs a + outs b
  meets : ∀ d : List UInt8, d.length = ins a → app id Y (app id a d) = app id X (app id b d)
theorem pf {a b : List A} (h : ins a = ins b) : PF a b (pairA (norm a) (norm b)).1 (pairA (norm a) (norm b)).2 := by
  have h2 : ins (norm a) = ins (norm b) := by rw [ins_norm, ins_norm, h]
  have q := pair_ins _ _ h2
  have r := pair_outs _ _ h2
  have s := pair_nput _ _ h2
  rw [outs_norm, outs_norm] at q
  rw [nput_norm, nput_norm] at s
  have e := outs_ins (pairA (norm a) (norm b)).1
  have n := nput_le a
  refine ⟨q.1, q.2, r, s.1, s.2, by rw [q.1, s.1] at e; omega, fun d hd => ?_⟩
  have m := pair_meets id _ _ h2 d (by rw [ins_norm]; exact hd)
  rwa [app_norm id a d (by omega), app_norm id b d (by omega)] at m
theorem few_eq (l : List Int) : ∃ d : List UInt8, comitialaw7_few.f l = some ⟨d.toArray⟩ ∧ d.length ≤ 60 := by
  unfold comitialaw7_few.f
  rw [mn_eq, if_pos (by omega), if_pos (by omega)]
  refine ⟨(l.take (min (l.length : Int) 60).toNat).map fun n => UInt8.ofNat n.toNat, rfl, ?_⟩
  rw [List.length_map, List.length_take]; omega
theorem known7_true (k : Nat) (hk : 10 ≤ k) : comitialaw7_known.f k = some true := by
  unfold comitialaw7_known.f
  have g : good2 (cms [(⟨2, 0, (⟨#[97]⟩ : ByteArray)⟩ : S43)]) (cms [(⟨2, 0, (⟨#[98]⟩ : ByteArray)⟩ : S43)]) = true := by decide
  have h1 : transform_Pair.f (([(⟨2, 0, (⟨#[97]⟩ : ByteArray)⟩ : S43)] : List (S43))) (([(⟨2, 0, (⟨#[98]⟩ : ByteArray)⟩ : S43)] : List (S43))) = some ([⟨2, 0, ⟨#[97]⟩⟩, ⟨1, 1, ⟨#[]⟩⟩], [⟨1, 1, ⟨#[]⟩⟩, ⟨2, 0, ⟨#[98]⟩⟩], 0) := by
    rw [tpair_eq g, if_pos (by decide)]
    have e1 : norm (at_ (cms [(⟨2, 0, (⟨#[97]⟩ : ByteArray)⟩ : S43)])) = [A.P 97] := rfl
    have e2 : norm (at_ (cms [(⟨2, 0, (⟨#[98]⟩ : ByteArray)⟩ : S43)])) = [A.P 98] := rfl
    have e3 : pairA [A.P 97] [A.P 98] = ([A.P 97, A.K], [A.K, A.P 98]) := by simp [pairA]
    rw [e1, e2, e3]; rfl
  rw [h1]
  have a1 := ref_apply [98] [(⟨2, 0, (⟨#[97]⟩ : ByteArray)⟩ : S43), ⟨1, 1, ⟨#[]⟩⟩] (by decide) (by decide) k (by simp; omega)
  have a2 := ref_apply [97] [(⟨1, 1, (⟨#[]⟩ : ByteArray)⟩ : S43), ⟨2, 0, ⟨#[98]⟩⟩] (by decide) (by decide) k (by simp; omega)
  rw [if_pos (by decide), if_pos (by decide)] at a1 a2
  have d1 : app id (at_ (cms [(⟨2, 0, (⟨#[97]⟩ : ByteArray)⟩ : S43), ⟨1, 1, ⟨#[]⟩⟩])) [98] = [97, 98] := by decide
  have d2 : app id (at_ (cms [(⟨1, 1, (⟨#[]⟩ : ByteArray)⟩ : S43), ⟨2, 0, ⟨#[98]⟩⟩])) [97] = [97, 98] := by decide
  rw [d1] at a1
  rw [d2] at a2
  show (comitiaref4_Apply.f k ⟨[98].toArray⟩ _).bind _ = _
  simp only [Option.bind_some]
  rw [a1]
  simp only [Option.bind_some]
  show (comitiaref4_Apply.f k ⟨[97].toArray⟩ _).bind _ = _
  rw [a2]
  simp
end Go.Proofs.Ytjmnflgicolbdaa.Q

namespace Go.Proofs.Ytjmnflgicolbdaa.Q
open Go.OpM Go.RowKit Go.Cx Go.Proofs.YtjmnflgicolbdaaW.PrintWords Go.Proofs.YtjmnflgicolbdaaW.PrintLast Go.Proofs.YtjmnflgicolbdaaW.PrintMore
set_option linter.unusedVariables false
set_option linter.unusedSimpArgs false

theorem inv_good {d : List UInt8} {l : List S43} (h : good (cms l) = true) (hi : inC (cms l) = d.length) : ins (inv (at_ (cms l)) d) = outC (cms l) ∧ outs (inv (at_ (cms l)) d) = d.length ∧ ins (inv (at_ (cms l)) d) + outs (inv (at_ (cms l)) d) ≤ 100000 := by
  have h1 := (good_iff.1 h).2
  have h2 := inv_ins (at_ (cms l)) d
  have h3 := inv_outs (at_ (cms l)) d (by unfold inC at hi; omega)
  unfold inC outC at *
  omega
theorem rop_loop (d : List UInt8) (l s : List S43) (hg : good (cms l) = true) (hi : inC (cms l) = d.length) : ∀ (p : List S43) (k : Nat), l = p ++ s → s.length + 300000 ≤ k →
    comitiaref6_Op.l0 k ⟨d.toArray⟩ l (scs (invC (cms p) d)) (inC (cms p) : Nat) (p.length : Int) = some (scs (nf (inv (at_ (cms l)) d)), 0) := by
  have hll := good_len hg
  have hvl := good_vl hg
  have hsum := good_sum hg
  have hd : d.length ≤ 100000 := by unfold inC at hi; omega
  induction s with
  | nil =>
    intro p k hl hk
    obtain ⟨k, rfl⟩ : ∃ m, k = m + 1 := ⟨k - 1, by omega⟩
    rw [List.append_nil] at hl
    subst hl
    obtain ⟨h1, h2⟩ := invC_at (cms l) hvl d (by omega)
    obtain ⟨g1, g2, g3⟩ := inv_good hg hi
    simp only [comitiaref6_Op.l0]
    rw [if_neg (by omega), ref_normal _ (by rw [cms_scs]; refine good_iff.2 ⟨h2, ?_⟩; unfold inC outC at *; rw [h1]; exact g3) k (by rw [scs_length, invC_len, cms_length]; omega), cms_scs, h1]
    rfl
  | cons c s ih =>
    intro p k hl hk
    obtain ⟨k, rfl⟩ : ∃ m, k = m + 1 := ⟨k - 1, by omega⟩
    have hpl : p.length < l.length := by rw [hl]; simp
    have hrd : rd_T43 l (p.length : Int) = c := by rw [hl]; exact rd_mid p c s
    have hc : (cm c).ok := hvl _ (List.mem_map.2 ⟨c, by rw [hl]; simp, rfl⟩)
    have he : (p ++ [c]).length = p.length + 1 := by simp
    have hlen : (scs (invC (cms p) d)).length < 4398046511104 := by rw [scs_length, invC_len, cms_length]; omega
    have hin : inC (cms (p ++ [c])) = inC (cms p) + ins (cm c).at_ := by rw [cms_append, inC_append]; simp [cms, inC]
    have hile : inC (cms p) + ins (cm c).at_ ≤ d.length := by
      have : inC (cms l) = inC (cms (p ++ [c])) + inC (cms s) := by rw [hl, show p ++ c :: s = (p ++ [c]) ++ s by simp, cms_append, inC_append]
      omega
    have hsn : scs (invC (cms (p ++ [c])) d) = scs (invC (cms p) d) ++ [sc (invOne (cm c) (d.drop (inC (cms p))))] := by
      rw [cms_append]
      have := invC_snoc (cms p) (cm c) d
      show scs (invC (cms p ++ [cm c]) d) = _
      rw [this, scs_append]; rfl
    simp only [List.length_cons] at hk
    have ih' := ih (p ++ [c]) k (by simp [hl]) (by omega)
    rw [he, hin, hsn] at ih'
    simp only [comitiaref6_Op.l0]
    rw [if_pos (by omega), if_pos (by omega), hrd, w_succ _ (by omega)]
    have hcc : (⟨c.f0, c.f1, c.f2⟩ : S43) = c := rfl
    generalize hI : inC (cms p) = I at *
    rcases Cm.cases hc with ⟨n, hn1, hcm⟩ | ⟨q, hq, hcm⟩ | ⟨n, hn1, hcm⟩
    · have hc' : c = ⟨1, n, ⟨#[]⟩⟩ := by rw [← sc_cm c, hcm]; rfl
      have f0 : c.f0 = 1 := by rw [hc']
      have f1 : c.f1 = (n : Int) := by rw [hc']
      rw [hcm, at_keep, ins_keeps] at ih' hile
      have e1 : sc (invOne ⟨1, (n : Int), []⟩ (d.drop I)) = c := by rw [hc']; rfl
      rw [e1] at ih'
      rw [f0, f1, if_pos rfl, if_pos hlen, w64 (x := (I : Int) + n) (by omega) (by omega), show ((I : Int) + (n : Int)) = ((I + n : Nat) : Int) from by omega, show (⟨1, (n : Int), c.f2⟩ : S43) = c from by rw [hc']]
      exact ih'
    · have hc' : c = ⟨2, 0, ⟨q.toArray⟩⟩ := by rw [← sc_cm c, hcm]; rfl
      have f0 : c.f0 = 2 := by rw [hc']
      have f2 : c.f2 = ⟨q.toArray⟩ := by rw [hc']
      rw [hcm, at_put, ins_puts] at ih'
      rw [f0, f2, if_neg (by decide), if_pos rfl, if_pos hlen, ba_size]
      exact ih'
    · have hc' : c = ⟨3, n, ⟨#[]⟩⟩ := by rw [← sc_cm c, hcm]; rfl
      have f0 : c.f0 = 3 := by rw [hc']
      have f1 : c.f1 = (n : Int) := by rw [hc']
      rw [hcm, at_cut, ins_cuts] at ih' hile
      have e1 : sc (invOne ⟨3, (n : Int), []⟩ (d.drop I)) = ⟨2, 0, ⟨((d.drop I).take n).toArray⟩⟩ := by simp [invOne, sc]
      rw [e1] at ih'
      rw [f0, f1, if_neg (by decide), if_neg (by decide), w64 (x := (I : Int) + n) (by omega) (by omega), if_pos (by omega), if_pos (by omega), if_pos (by rw [ba_size]; omega), if_pos hlen, show ((I : Int) + (n : Int)) = ((I + n : Nat) : Int) from by omega, Int.toNat_natCast, Int.toNat_natCast, ext_str, show I + n - I = n by omega]
      exact ih'
theorem ref6_op (d : List UInt8) (l : List S43) (hg : good (cms l) = true) (k : Nat) (hk : 500000 ≤ k) : comitiaref6_Op.f k ⟨d.toArray⟩ l = some (if inC (cms l) = d.length then (scs (nf (inv (at_ (cms l)) d)), 0) else ([], 7)) := by
  have hll := good_len hg
  unfold comitiaref6_Op.f
  rw [ref_in l hg k (by omega)]
  simp only [Option.bind_some, ba_size]
  by_cases hi : inC (cms l) = d.length
  · rw [if_pos (by omega), if_pos hi]
    have := rop_loop d l l hg hi [] k rfl (by omega)
    simpa [cms, inC, ins, invC, scs] using this
  · rw [if_neg (by omega), if_neg hi]
end Go.Proofs.Ytjmnflgicolbdaa.Q

/- The statement OpForms, once the machine's side is told by the printed contracts: it holds of the Lean functions of the Go functions. Conditions: none. -/
import Derived.Test.YthfpohhkgcgbeaaQKd
import Derived.Test.YthfpohhkgcgbeaaQF
import Derived.Test.YthfpohhkgcgbeaaQS
import Derived.Test.YthfpohhkgcgbeaaQxoplongput
import Derived.Test.YthfpohhkgcgbeaaQxcomitialaw4OpForms
namespace Go.Proofs.Ythfpohhkgcgbeaa.Pure
open Go.OpM Go.RowKit Go.Cx Go.Proofs.Ythfpohhkgcgbeaa.Q Go.Proofs.YthfpohhkgcgbeaaW.PrintWords Go.Proofs.YthfpohhkgcgbeaaW.PrintLast Go.Proofs.YthfpohhkgcgbeaaW.PrintMore
set_option linter.unusedVariables false
set_option linter.unusedSimpArgs false

theorem forms_l0 (a2 : Int) (o : List S30) (ho : o.length ≤ 1000000) (hf : Formed (cms o)) (d : Nat) : ∀ (i k : Nat), 1 ≤ i → i + d = max o.length i → comitialaw4_OpForms.l0 (k + d + 1) a2 o i = comitialaw4_OpForms.l1 k a2 o [] 0 := by
  induction d with
  | zero =>
    intro i k h1 h
    simp only [Nat.add_zero, comitialaw4_OpForms.l0]
    rw [if_neg (by omega)]
  | succ d ih =>
    intro i k h1 h
    obtain ⟨j, rfl⟩ : ∃ j, i = j + 1 := ⟨i - 1, by omega⟩
    have hi : j + 1 < o.length := by omega
    have ih' := ih (j + 2) k (by omega) (by omega)
    have r1 : rd_T30 o (j : Int) = o[j] := rd_get (by omega)
    have r2 : rd_T30 o ((j + 1 : Nat) : Int) = o[j + 1] := rd_get hi
    have g1 : (cms o)[j]? = some (cm o[j]) := by unfold cms; rw [List.getElem?_map, List.getElem?_eq_getElem (by omega)]; rfl
    have g2 : (cms o)[j + 1]? = some (cm o[j + 1]) := by unfold cms; rw [List.getElem?_map, List.getElem?_eq_getElem hi]; rfl
    have hn := hf.at_ j _ _ g1 g2
    have q1 : (cm o[j]).k = o[j].f0 := rfl
    have q2 : (cm o[j + 1]).k = o[j + 1].f0 := rfl
    rw [q1, q2] at hn
    have e : k + (d + 1) + 1 = (k + d + 1) + 1 := by omega
    have w1 : wrap64 (((j + 1 : Nat) : Int) - 1) = (j : Int) := by rw [w64 (by omega) (by omega)]; omega
    rw [e]
    simp only [comitialaw4_OpForms.l0]
    rw [if_pos (by omega), w1, if_pos (by omega), if_pos (by omega), if_pos (by omega), r1, r2, w_succ _ (by omega)]
    clear w1
    unfold next at hn
    rw [if_neg (by omega)]
    by_cases h3 : o[j].f0 = 3
    · rw [if_pos h3, if_neg (by omega)]
      exact ih'
    · rw [if_neg h3]
      exact ih'
theorem puts_cut (s : List UInt8) (k : Nat) : puts (s.take k) ++ puts (s.drop k) = puts s := by rw [← puts_append, List.take_append_drop]
theorem forms_l1 (a2 : Int) (o : List S30) (ho : o.length ≤ 1000) (hg : good (cms o) = true) (hn : scs (nf (at_ (cms o))) = o) (s : List S30) : ∀ (p x9 : List S30) (k : Nat), o = p ++ s → Vl (cms x9) → at_ (cms x9) = at_ (cms p) → x9.length ≤ 2 * p.length → 2 * s.length + 200000 ≤ k →
    comitialaw4_OpForms.l1 k a2 o x9 (p.length : Int) = some true := by
  induction s with
  | nil =>
    intro p x9 k hp hv ha hx hk
    obtain ⟨k, rfl⟩ : ∃ m, k = m + 1 := ⟨k - 1, by omega⟩
    rw [List.append_nil] at hp
    subst hp
    simp only [comitialaw4_OpForms.l1]
    rw [if_neg (by omega)]
    by_cases h40 : (x9.length : Int) > 40
    · rw [if_pos h40]
    · rw [if_neg h40]
      have hgx : good (cms x9) = true := good_iff.2 ⟨hv, by have := good_sum hg; unfold inC outC; rw [ha]; exact this⟩
      rw [normal_eq x9 hgx k (by omega), ha, hn]
      simp only [Option.bind_some]
      rw [same_refl _ (by omega) k (by omega)]
      rfl
  | cons c s ih =>
    intro p x9 k hp hv ha hx hk
    obtain ⟨k, rfl⟩ : ∃ m, k = m + 2 := ⟨k - 2, by omega⟩
    have hpl : p.length < o.length := by rw [hp]; simp
    have hrd : rd_T30 o (p.length : Int) = c := by rw [hp]; exact rd_mid p c s
    have hp' : o = (p ++ [c]) ++ s := by simp [hp]
    have he : (p ++ [c]).length = p.length + 1 := by simp
    have hvo : Vl (cms o) := good_vl hg
    have hc : (cm c).ok := hvo _ (List.mem_map.2 ⟨c, by rw [hp]; simp, rfl⟩)
    have hsum := good_sum hg
    have hwt : (cm c).at_.length ≤ 200000 := by
      have h1 := at_len (cm c).at_
      have h2 : at_ (cms o) = at_ (cms p) ++ ((cm c).at_ ++ at_ (cms s)) := by rw [hp, cms_append, at_append]; rfl
      rw [h2] at hsum
      simp only [ins_append, outs_append] at hsum
      omega
    simp only [List.length_cons] at hk
    have ih' : ∀ y : List S30, Vl (cms y) → at_ (cms y) = (cm c).at_ → y.length ≤ 2 → comitialaw4_OpForms.l1 k a2 o (x9 ++ y) (wrap64 ((p.length : Int) + 1)) = some true := by
      intro y hy hay hyl
      have := ih (p ++ [c]) (x9 ++ y) k hp' (by rw [cms_append]; exact hv.append hy) (by rw [cms_append, cms_append, at_append, at_append, ha, hay]; simp [cms]) (by rw [he, List.length_append]; omega) (by omega)
      rw [he] at this
      rw [w_succ _ (by omega)]
      exact this
    have same1 : comitialaw4_OpForms.l1 k a2 o (x9 ++ [c]) (wrap64 ((p.length : Int) + 1)) = some true := ih' [c] (Vl.cons (c := cm c) hc Vl.nil) (by simp [cms]) (by simp)
    have hx9 : x9.length < 4398046511104 := by omega
    have hcc : (⟨c.f0, c.f1, c.f2⟩ : S30) = c := rfl
    simp only [comitialaw4_OpForms.l1]
    rw [if_pos (by omega), if_pos (by omega), hrd]
    rcases Cm.cases hc with ⟨n, hn1, hcm⟩ | ⟨q, hq, hcm⟩ | ⟨n, hn1, hcm⟩
    · have hc' : c = ⟨1, n, ⟨#[]⟩⟩ := by rw [← sc_cm c, hcm]; rfl
      have hlen : n ≤ 200000 := by rw [hcm] at hwt; simpa [keeps] using hwt
      have f0 : c.f0 = 1 := by rw [hc']
      rw [if_neg (by rw [f0]; decide)]
      simp only [comitialaw4_OpForms.j2]
      rw [if_neg (by decide), if_neg (by rw [f0]; decide)]
      have f1 : c.f1 = (n : Int) := by rw [hc']
      by_cases hgt : c.f1 > 1
      · rw [if_pos hgt, w64 (x := c.f1 - 1) (by omega) (by omega), within_eq _ _ (by omega) (by omega)]
        simp only [Option.bind_some]
        have t0 := Int.emod_nonneg a2 (by omega : c.f1 - 1 ≠ 0)
        have t1 := Int.emod_lt_of_pos a2 (by omega : 0 < c.f1 - 1)
        generalize a2 % (c.f1 - 1) = t at t0 t1 ⊢
        rw [w64 (x := 1 + t) (by omega) (by omega), w64 (x := c.f1 - (1 + t)) (by omega) (by omega), if_pos (by simp; omega), f0, f1]
        obtain ⟨a, ha1⟩ : ∃ a : Nat, 1 + t = (a : Int) := ⟨(1 + t).toNat, by omega⟩
        obtain ⟨b, hb1⟩ : ∃ b : Nat, (n : Int) - (1 + t) = (b : Int) := ⟨((n : Int) - (1 + t)).toNat, by omega⟩
        rw [hb1, ha1]
        obtain ⟨v1, _, _⟩ := keep_cm (n := a) (by omega)
        obtain ⟨v2, _, _⟩ := keep_cm (n := b) (by omega)
        refine ih' _ (Vl.cons (v1.head (l := [])) v2) ?_ (by simp)
        rw [hcm, at_keep, show n = a + b by omega, keeps_add]
        show Cm.at_ ⟨1, a, []⟩ ++ (Cm.at_ ⟨1, b, []⟩ ++ []) = _
        rw [at_keep, at_keep, List.append_nil]
      · rw [if_neg hgt, if_pos hx9, hcc]
        exact same1
    · have hc' : c = ⟨2, 0, ⟨q.toArray⟩⟩ := by rw [← sc_cm c, hcm]; rfl
      have hlen : q.length ≤ 200000 := by rw [hcm] at hwt; simpa [puts] using hwt
      have f0 : c.f0 = 2 := by rw [hc']
      have f2 : c.f2 = ⟨q.toArray⟩ := by rw [hc']
      rw [if_pos f0, f2, ba_size]
      by_cases hgt : (q.length : Int) > 1
      · rw [decide_eq_true hgt]
        simp only [comitialaw4_OpForms.j2]
        rw [if_pos trivial, ba_size, w64 (x := (q.length : Int) - 1) (by omega) (by omega), within_eq _ _ (by omega) (by omega)]
        simp only [Option.bind_some]
        have t0 := Int.emod_nonneg a2 (by omega : (q.length : Int) - 1 ≠ 0)
        have t1 := Int.emod_lt_of_pos a2 (by omega : 0 < (q.length : Int) - 1)
        generalize a2 % ((q.length : Int) - 1) = t at t0 t1 ⊢
        rw [w64 (x := 1 + t) (by omega) (by omega), if_pos (by omega), if_pos (by omega), if_pos (by simp; omega)]
        obtain ⟨a, ha1⟩ : ∃ a : Nat, 1 + t = (a : Int) := ⟨(1 + t).toNat, by omega⟩
        rw [ha1, Int.toNat_natCast]
        have x1 : (⟨q.toArray⟩ : ByteArray).extract 0 a = ⟨(q.take a).toArray⟩ := by apply ByteArray.ext; simp [ByteArray.data_extract, List.extract_toArray, List.extract_eq_take_drop]
        have x2 : (⟨q.toArray⟩ : ByteArray).extract a q.length = ⟨(q.drop a).toArray⟩ := by apply ByteArray.ext; simp [ByteArray.data_extract, List.extract_toArray, List.extract_eq_take_drop]; exact List.take_of_length_le (by simp)
        rw [x1, x2]
        have z1 : q.take a ≠ [] := by intro h; have := congrArg List.length h; simp only [List.length_take, List.length_nil] at this; omega
        have z2 : q.drop a ≠ [] := by intro h; have := congrArg List.length h; simp only [List.length_drop, List.length_nil] at this; omega
        refine ih' _ (Vl.cons (c := ⟨2, 0, q.take a⟩) (put_ok z1) (Vl.cons (c := ⟨2, 0, q.drop a⟩) (put_ok z2) Vl.nil)) ?_ (by simp)
        rw [hcm, at_put, ← puts_cut q a]
        show Cm.at_ ⟨2, 0, q.take a⟩ ++ (Cm.at_ ⟨2, 0, q.drop a⟩ ++ []) = _
        rw [at_put, at_put, List.append_nil]
      · rw [decide_eq_false hgt]
        simp only [comitialaw4_OpForms.j2]
        rw [if_neg (by decide), if_pos f0, if_pos hx9, ← f2, hcc]
        exact same1
    · have hc' : c = ⟨3, n, ⟨#[]⟩⟩ := by rw [← sc_cm c, hcm]; rfl
      have hlen : n ≤ 200000 := by rw [hcm] at hwt; simpa [cuts] using hwt
      have f0 : c.f0 = 3 := by rw [hc']
      rw [if_neg (by rw [f0]; decide)]
      simp only [comitialaw4_OpForms.j2]
      rw [if_neg (by decide), if_neg (by rw [f0]; decide)]
      have f1 : c.f1 = (n : Int) := by rw [hc']
      by_cases hgt : c.f1 > 1
      · rw [if_pos hgt, w64 (x := c.f1 - 1) (by omega) (by omega), within_eq _ _ (by omega) (by omega)]
        simp only [Option.bind_some]
        have t0 := Int.emod_nonneg a2 (by omega : c.f1 - 1 ≠ 0)
        have t1 := Int.emod_lt_of_pos a2 (by omega : 0 < c.f1 - 1)
        generalize a2 % (c.f1 - 1) = t at t0 t1 ⊢
        rw [w64 (x := 1 + t) (by omega) (by omega), w64 (x := c.f1 - (1 + t)) (by omega) (by omega), if_pos (by simp; omega), f0, f1]
        obtain ⟨a, ha1⟩ : ∃ a : Nat, 1 + t = (a : Int) := ⟨(1 + t).toNat, by omega⟩
        obtain ⟨b, hb1⟩ : ∃ b : Nat, (n : Int) - (1 + t) = (b : Int) := ⟨((n : Int) - (1 + t)).toNat, by omega⟩
        rw [hb1, ha1]
        obtain ⟨v1, _, _⟩ := cut_cm (n := a) (by omega)
        obtain ⟨v2, _, _⟩ := cut_cm (n := b) (by omega)
        refine ih' _ (Vl.cons (v1.head (l := [])) v2) ?_ (by simp)
        rw [hcm, at_cut, show n = a + b by omega, cuts_add]
        show Cm.at_ ⟨3, a, []⟩ ++ (Cm.at_ ⟨3, b, []⟩ ++ []) = _
        rw [at_cut, at_cut, List.append_nil]
      · rw [if_neg hgt, if_pos hx9, hcc]
        exact same1
theorem OpForms : comitialaw4_OpForms.Pure := by
  intro a0 l1 a2 _ _ _ _ _
  obtain ⟨n, hn⟩ : ∃ n : Nat, a0 % 100 = (n : Int) := ⟨(a0 % 100).toNat, by omega⟩
  obtain ⟨r, hr, hm, _⟩ := make_eq n (by omega) l1
  have hg := hm.good (by omega)
  have hsum := good_sum hg
  refine ⟨400000, ?_⟩
  obtain ⟨k, hk⟩ : ∃ k, k = 400000 := ⟨_, rfl⟩
  rw [← hk]
  unfold comitialaw4_OpForms.f
  rw [known_true k (by omega)]
  simp only [Option.bind_some, if_true]
  rw [within_eq a0 100 (by omega) (by omega), hn]
  simp only [Option.bind_some]
  have hrl := hm.len
  rw [hr k (by omega)]
  simp only [Option.bind_some]
  rw [normal_eq r hg k (by omega)]
  simp only [Option.bind_some]
  have hi := hm.ins
  have ho := hm.outs
  have hal := at_len (at_ (cms r))
  have hnl := nf_len (at_ (cms r)) 0 [] 0
  have hol : (scs (nf (at_ (cms r)))).length ≤ 1000 := by rw [scs_length]; unfold nf; unfold inC outC at *; omega
  obtain ⟨j, hj⟩ : ∃ j, k = j + ((scs (nf (at_ (cms r)))).length - 1) + 1 := ⟨k - ((scs (nf (at_ (cms r)))).length - 1) - 1, by omega⟩
  have hf := forms_l0 a2 (scs (nf (at_ (cms r)))) (by omega) (by rw [cms_scs]; exact formed_nf _) ((scs (nf (at_ (cms r)))).length - 1) 1 j (by omega) (by omega)
  have hjb : 2 * (scs (nf (at_ (cms r)))).length + 200000 ≤ j := by omega
  have hone : ((1 : Nat) : Int) = 1 := rfl
  rw [hone] at hf
  rw [hj, hf]
  exact forms_l1 a2 _ hol (by rw [cms_scs]; exact nf_good _ hsum) (by rw [cms_scs, at_nf, nf_norm]) _ [] [] j rfl Vl.nil rfl (by simp) hjb
end Go.Proofs.Ythfpohhkgcgbeaa.Pure

/- The statement InvertLengths, once the machine's side is told by the printed contracts: it holds of the Lean functions of the Go functions. Conditions: none. -/
import Derived.Test.YtmkblbkijjabdaaQK6
import Derived.Test.YtmkblbkijjabdaaQxcomitialaw6InvertLengths
namespace Go.Proofs.Ytmkblbkijjabdaa.Pure
open Go.OpM Go.RowKit Go.Cx Go.Proofs.Ytmkblbkijjabdaa.Q Go.Proofs.YtmkblbkijjabdaaW.PrintWords Go.Proofs.YtmkblbkijjabdaaW.PrintLast Go.Proofs.YtmkblbkijjabdaaW.PrintMore
set_option linter.unusedVariables false
set_option linter.unusedSimpArgs false

theorem nput_one {c : Cm} (h : c.ok) : nput c.at_ = c.s.length := by
  rcases Cm.cases h with ⟨n, hn, rfl⟩ | ⟨s, hs, rfl⟩ | ⟨n, hn, rfl⟩ <;> simp
theorem ncut_one {c : Cm} (h : c.ok) : (ncut c.at_ : Int) = if c.k = 3 then c.n else 0 := by
  rcases Cm.cases h with ⟨n, hn, rfl⟩ | ⟨s, hs, rfl⟩ | ⟨n, hn, rfl⟩ <;> simp
theorem len_l0 (d : ByteArray) (o x : List S42) (e : Int) (s : List S42) : ∀ (p : List S42) (cut put k : Nat), o = p ++ s → Vl (cms s) → o.length ≤ 1000000 → cut + ncut (at_ (cms s)) ≤ 1000000 → put + nput (at_ (cms s)) ≤ 1000000 →
    comitialaw6_InvertLengths.l0 (k + s.length + 1) d o x e cut put (p.length : Int) = comitialaw6_InvertLengths.l1 k d o x e ((cut + ncut (at_ (cms s)) : Nat) : Int) ((put + nput (at_ (cms s)) : Nat) : Int) 0 0 0 := by
  induction s with
  | nil =>
    intro p cut put k hp hv h0 h1 h2
    have hpl : p.length = o.length := by rw [hp]; simp
    simp only [List.length_nil, Nat.add_zero, comitialaw6_InvertLengths.l0]
    rw [if_neg (by omega)]
    simp [cms, ncut, nput]
  | cons c s ih =>
    intro p cut put k hp hv h0 h1 h2
    have hpl : p.length < o.length := by rw [hp]; simp
    have hrd : rd_T42 o (p.length : Int) = c := by rw [hp]; exact rd_mid p c s
    have hc : (cm c).ok := hv.head (c := cm c) (l := cms s)
    have e1 : ncut (at_ (cms (c :: s))) = ncut (cm c).at_ + ncut (at_ (cms s)) := by simp [cms]
    have e2 : nput (at_ (cms (c :: s))) = nput (cm c).at_ + nput (at_ (cms s)) := by simp [cms]
    have he : (p ++ [c]).length = p.length + 1 := by simp
    have o1 := nput_one hc
    have o2 := ncut_one hc
    have hz : (c.f2.size : Int) = ((cm c).s.length : Int) := by simp [cm]
    rw [e1] at h1 ⊢
    rw [e2] at h2 ⊢
    have ih' := ih (p ++ [c]) (cut + ncut (cm c).at_) (put + nput (cm c).at_) k (by simp [hp]) (Vl.tail (c := cm c) hv) h0 (by omega) (by omega)
    rw [he, Nat.add_assoc cut, Nat.add_assoc put] at ih'
    have ek : k + (c :: s).length + 1 = (k + s.length + 1) + 1 := by simp; omega
    rw [ek]
    obtain ⟨K, hK⟩ : ∃ K, K = k + s.length + 1 := ⟨_, rfl⟩
    rw [← hK] at ih' ⊢
    simp only [comitialaw6_InvertLengths.l0]
    rw [if_pos (by omega), if_pos (by omega), hrd, w_succ _ (by omega), hz, ← o1]
    have f1 : (cm c).n = c.f1 := rfl
    have f0 : (cm c).k = c.f0 := rfl
    rw [f1, f0] at o2
    by_cases h3 : c.f0 = 3
    · rw [if_pos h3] at o2 ⊢
      rw [← o2, w64 (x := (cut : Int) + (ncut (cm c).at_ : Int)) (by omega) (by omega), w64 (x := (put : Int) + (nput (cm c).at_ : Int)) (by omega) (by omega)]
      exact ih'
    · rw [if_neg h3] at o2 ⊢
      rw [w64 (by omega) (by omega)]
      have : ncut (cm c).at_ = 0 := by omega
      rw [this] at ih' ⊢
      exact ih'
theorem ncut_le (x : List A) : ncut x ≤ x.length := by
  induction x with
  | nil => simp [ncut]
  | cons a x ih => cases a <;> simp [ncut] <;> omega
theorem len_l1 (d : List UInt8) (o x : List S42) (cut put : Int) (ho : good (cms o) = true) (hx : good (cms x) = true) (hio : inC (cms x) = outC (cms o)) (hoo : outC (cms x) = d.length) (hcb : cut ≤ 1000000) (hpb : put ≤ 1000000) (s : List S42) : ∀ (p : List S42) (back away k : Nat), x = p ++ s → ((back + nput (at_ (cms s)) : Nat) : Int) = cut → ((away + ncut (at_ (cms s)) : Nat) : Int) = put → 200000 + s.length ≤ k →
    comitialaw6_InvertLengths.l1 k ⟨d.toArray⟩ o x 0 cut put back away (p.length : Int) = some true := by
  have hxl := good_len hx
  have hol := good_len ho
  have hsx := good_sum hx
  induction s with
  | nil =>
    intro p back away k hp h1 h2 hk
    obtain ⟨k, rfl⟩ : ∃ m, k = m + 1 := ⟨k - 1, by omega⟩
    have hpl : p.length = x.length := by rw [hp]; simp
    simp only [comitialaw6_InvertLengths.l1]
    rw [if_neg (by omega), if_pos trivial, ref_in x hx k (by omega), ref_out o ho k (by omega)]
    simp only [Option.bind_some]
    rw [if_pos (by omega), ref_out x hx k (by omega)]
    simp only [Option.bind_some, ba_size]
    simp [cms, nput] at h1
    simp [cms, ncut] at h2
    rw [if_pos (by omega), if_pos h1]
    simp [h2]
  | cons c s ih =>
    intro p back away k hp h1 h2 hk
    obtain ⟨k, rfl⟩ : ∃ m, k = m + 1 := ⟨k - 1, by omega⟩
    have hpl : p.length < x.length := by rw [hp]; simp
    have hrd : rd_T42 x (p.length : Int) = c := by rw [hp]; exact rd_mid p c s
    have hc : (cm c).ok := good_vl hx _ (List.mem_map.2 ⟨c, by rw [hp]; simp, rfl⟩)
    have e1 : ncut (at_ (cms (c :: s))) = ncut (cm c).at_ + ncut (at_ (cms s)) := by simp [cms]
    have e2 : nput (at_ (cms (c :: s))) = nput (cm c).at_ + nput (at_ (cms s)) := by simp [cms]
    have he : (p ++ [c]).length = p.length + 1 := by simp
    have o1 := nput_one hc
    have o2 := ncut_one hc
    have hz : (c.f2.size : Int) = ((cm c).s.length : Int) := by simp [cm]
    rw [e1] at h2
    rw [e2] at h1
    simp only [List.length_cons] at hk
    have hb : (cm c).at_.length ≤ 100000 ∧ True := by
      have q1 := at_len (cm c).at_
      have q2 : at_ (cms x) = at_ (cms p) ++ ((cm c).at_ ++ at_ (cms s)) := by rw [hp, cms_append, at_append]; rfl
      rw [q2] at hsx
      simp only [ins_append, outs_append] at hsx
      exact ⟨by omega, trivial⟩
    have q3 := nput_le (cm c).at_
    have q4 := outs_le (cm c).at_
    have ih' := ih (p ++ [c]) (back + nput (cm c).at_) (away + ncut (cm c).at_) k (by simp [hp]) (by omega) (by omega) (by omega)
    rw [he] at ih'
    simp only [comitialaw6_InvertLengths.l1]
    have ncl : ncut (cm c).at_ ≤ (cm c).at_.length := ncut_le _
    have npl : nput (cm c).at_ ≤ (cm c).at_.length := Nat.le_trans q3 q4
    have f1 : (cm c).n = c.f1 := rfl
    have f0 : (cm c).k = c.f0 := rfl
    rw [f1, f0] at o2
    rw [if_pos (by omega), if_pos (by omega), hrd, w_succ _ (by omega), hz, ← o1, w64 (x := (back : Int) + (nput (cm c).at_ : Int)) (by omega) (by omega)]
    by_cases h3 : c.f0 = 3
    · rw [if_pos h3] at o2 ⊢
      rw [← o2, w64 (x := (away : Int) + (ncut (cm c).at_ : Int)) (by omega) (by omega)]
      exact ih'
    · rw [if_neg h3] at o2 ⊢
      have : ncut (cm c).at_ = 0 := by omega
      rw [this] at ih'
      exact ih'
theorem InvertLengths : comitialaw6_InvertLengths.Pure := by
  intro l0 l1 _ _ _ _ _ _
  obtain ⟨d, hd, hdl⟩ := doc_eq l0
  obtain ⟨r, hr, hm, _⟩ := make_eq d.length (by omega) l1
  have hg := hm.good (by omega)
  have hi := hm.ins
  have ho := hm.outs
  have hrl := hm.len
  obtain ⟨g1, g2, g3⟩ := inv_good hg hm.ins
  have hl := normal_len g3
  obtain ⟨j, hj⟩ : ∃ j, j = 600000 := ⟨_, rfl⟩
  refine ⟨j + r.length + 1, ?_⟩
  unfold comitialaw6_InvertLengths.f
  rw [known6_true]
  simp only [Option.bind_some, if_true, hd, ba_size]
  rw [hr _ (by omega)]
  simp only [Option.bind_some]
  rw [invert_eq d r hg (by omega), if_pos hi]
  simp only [Option.bind_some]
  have hsr := good_sum hg
  have hn1 := nput_le (at_ (cms r))
  have hn2 := ncut_le (at_ (cms r))
  have hal := at_len (at_ (cms r))
  have hx : good (cms (scs (nf (inv (at_ (cms r)) d)))) = true := by rw [cms_scs]; exact nf_good _ g3
  obtain ⟨v1, v2⟩ := inv_nput (at_ (cms r)) d (by unfold inC at hi; omega)
  have a1 := len_l0 ⟨d.toArray⟩ r (scs (nf (inv (at_ (cms r)) d))) 0 r [] 0 0 j rfl hm.vl (by omega) (by omega) (by omega)
  have a2 := len_l1 d r (scs (nf (inv (at_ (cms r)) d))) ((0 + ncut (at_ (cms r)) : Nat) : Int) ((0 + nput (at_ (cms r)) : Nat) : Int) hg hx
    (by rw [cms_scs]; unfold inC; rw [at_nf, ins_norm, g1]) (by rw [cms_scs]; unfold outC; rw [at_nf, outs_norm, g2]) (by omega) (by omega) (scs (nf (inv (at_ (cms r)) d))) [] 0 0 j rfl
    (by rw [cms_scs, at_nf, nput_norm, v1]) (by rw [cms_scs, at_nf, ncut_norm, v2]) (by omega)
  exact a1.trans a2
end Go.Proofs.Ytmkblbkijjabdaa.Pure

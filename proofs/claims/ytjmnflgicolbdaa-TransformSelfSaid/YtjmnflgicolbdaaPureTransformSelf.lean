/- The statement TransformSelf, once the machine's side is told by the printed contracts: it holds of the Lean functions of the Go functions. Conditions: none. -/
import Derived.Test.YtjmnflgicolbdaaQE7
import Derived.Test.YtjmnflgicolbdaaQxcomitialaw7TransformSelf
namespace Go.Proofs.Ytjmnflgicolbdaa.Pure
open Go.OpM Go.RowKit Go.Cx Go.Proofs.Ytjmnflgicolbdaa.Q Go.Proofs.YtjmnflgicolbdaaW.PrintWords Go.Proofs.YtjmnflgicolbdaaW.PrintLast Go.Proofs.YtjmnflgicolbdaaW.PrintMore
set_option linter.unusedVariables false
set_option linter.unusedSimpArgs false

theorem nput_one {c : Cm} (h : c.ok) : nput c.at_ = c.s.length := by
  rcases Cm.cases h with ⟨n, hn, rfl⟩ | ⟨s, hs, rfl⟩ | ⟨n, hn, rfl⟩ <;> simp
/-- What is led over itself cuts nothing more. -/
theorem self_ncut (a : List A) : ∀ s : List UInt8, ncut (pairA a (puts s ++ a)).1 = 0 ∧ ncut (pairA a (puts s ++ a)).2 = 0 := by
  induction a with
  | nil =>
    intro s
    rw [pair_pr s [] [] (by simp)]
    simp [pairA, ncut]
  | cons x a ih =>
    intro s
    cases x with
    | P x =>
      rw [pairA_PL]
      have := ih (s ++ [x])
      rw [puts_append, List.append_assoc] at this
      have e : puts s ++ A.P x :: a = puts s ++ (puts [x] ++ a) := rfl
      rw [e]
      simpa [ncut] using this
    | K =>
      rw [pair_pr s _ _ (by simp)]
      have := ih []
      simp only [puts, List.map_nil, List.nil_append] at this
      simp [pairA, ncut, this]
    | C =>
      rw [pair_pr s _ _ (by simp)]
      have := ih []
      simp only [puts, List.map_nil, List.nil_append] at this
      simp [pairA, ncut, this]
theorem self_loop (x X Y : List S43) (m p : ByteArray) (f : Int) (s : List S43) : ∀ (q : List S43) (put k : Nat), x = q ++ s → Vl (cms s) → x.length ≤ 1000000 → put + nput (at_ (cms s)) ≤ 1000000 →
    comitialaw7_TransformSelf.l0 (k + s.length + 1) x X Y 0 m p f put (q.length : Int) = comitialaw7_TransformSelf.l0 (k + 1) x X Y 0 m p f ((put + nput (at_ (cms s)) : Nat) : Int) (x.length : Int) := by
  induction s with
  | nil =>
    intro q put k hq hv h0 h1
    have : q.length = x.length := by rw [hq]; simp
    rw [this]; simp [cms, nput]
  | cons c s ih =>
    intro q put k hq hv h0 h1
    have hql : q.length < x.length := by rw [hq]; simp
    have hrd : rd_T43 x (q.length : Int) = c := by rw [hq]; exact rd_mid q c s
    have hc : (cm c).ok := hv.head (c := cm c) (l := cms s)
    have e1 : nput (at_ (cms (c :: s))) = nput (cm c).at_ + nput (at_ (cms s)) := by simp [cms]
    have he : (q ++ [c]).length = q.length + 1 := by simp
    have o1 := nput_one hc
    have hz : (c.f2.size : Int) = ((cm c).s.length : Int) := by simp [cm]
    rw [e1] at h1 ⊢
    have ih' := ih (q ++ [c]) (put + nput (cm c).at_) k (by simp [hq]) (Vl.tail (c := cm c) hv) h0 (by omega)
    rw [he, Nat.add_assoc put] at ih'
    have ek : k + (c :: s).length + 1 = (k + s.length + 1) + 1 := by simp; omega
    rw [ek, ← ih']
    generalize k + s.length + 1 = K
    conv => lhs; unfold comitialaw7_TransformSelf.l0
    rw [if_pos (by omega), if_pos (by omega), hrd, w_succ _ (by omega), hz, ← o1, w64 (by omega) (by omega)]
    congr 1
theorem TransformSelf : comitialaw7_TransformSelf.Pure := by
  intro l0 l1 _ _ _ _ _ _
  obtain ⟨d, hd, hdl⟩ := few_eq l0
  obtain ⟨x, hx, hxm, _⟩ := make_eq d.length (by omega) l1
  have hgx := hxm.good (by omega)
  have hxi := hxm.ins
  have hxo := hxm.outs
  have hg2 : good2 (cms x) (cms x) = true := good2_mk hxm.vl hxm.vl (by omega)
  have P := pf (rfl : ins (at_ (cms x)) = ins (at_ (cms x)))
  have hcut := self_ncut (norm (at_ (cms x))) []
  simp only [puts, List.map_nil, List.nil_append] at hcut
  obtain ⟨X, hX⟩ : ∃ X, X = (pairA (norm (at_ (cms x))) (norm (at_ (cms x)))).1 := ⟨_, rfl⟩
  obtain ⟨Y, hY⟩ : ∃ Y, Y = (pairA (norm (at_ (cms x))) (norm (at_ (cms x)))).2 := ⟨_, rfl⟩
  rw [← hX, ← hY] at P hcut
  have p1 := P.ix
  have p2 := P.iy
  have p3 := P.xy
  have p4 := P.le
  have p6 := P.py
  have oy := outs_ins Y
  have sX : ins X + outs X ≤ 100000 := by unfold inC outC at *; omega
  have sY : ins Y + outs Y ≤ 100000 := by unfold inC outC at *; omega
  have lX := normal_len sX
  have lY := normal_len sY
  have gX : good (cms (scs (nf X))) = true := by rw [cms_scs]; exact nf_good _ sX
  have gY : good (cms (scs (nf Y))) = true := by rw [cms_scs]; exact nf_good _ sY
  have ax := app_length id (at_ (cms x)) d (by unfold inC at hxi; omega)
  have hxl := hxm.len
  have iX : inC (nf X) = outs (at_ (cms x)) := by unfold inC; rw [at_nf, ins_norm]; exact p1
  have iY : inC (nf Y) = outs (at_ (cms x)) := by unfold inC; rw [at_nf, ins_norm]; exact p2
  have oY : outC (nf Y) = outs Y := by unfold outC; rw [at_nf, outs_norm]
  have nple := nput_le (at_ (cms x))
  refine ⟨700000 + x.length + 1, ?_⟩
  obtain ⟨k, hk⟩ : ∃ k, k = 700000 := ⟨_, rfl⟩
  rw [← hk]
  unfold comitialaw7_TransformSelf.f
  rw [known7_true _ (by omega)]
  simp only [Option.bind_some, if_true, hd, ba_size]
  rw [hx _ (by omega)]
  simp only [Option.bind_some]
  rw [tpair_eq hg2, if_pos rfl, ← hX, ← hY, ref_apply d x hgx (by omega) _ (by omega), if_pos hxi, if_pos hxo]
  simp only [Option.bind_some]
  have a1 : comitiaref4_Apply.f (k + x.length + 1) ⟨(app id (at_ (cms x)) d).toArray⟩ (scs (nf Y)) = some (if outs Y ≤ 120 then (⟨(app id Y (app id (at_ (cms x)) d)).toArray⟩, 0) else (⟨#[]⟩, 5)) := by
    rw [ref_apply _ _ gY (by unfold outC at hxo; omega) _ (by omega), cms_scs, if_pos (by rw [iY, ax]), oY, at_nf, app_norm id Y _ (by rw [ax, p2]; exact Nat.le_refl _)]
  rw [a1]
  simp only [Option.bind_some]
  have hloop := fun (p : ByteArray) (f : Int) => self_loop x (scs (nf X)) (scs (nf Y)) ⟨(app id (at_ (cms x)) d).toArray⟩ p f x [] 0 k rfl hxm.vl (by omega) (by unfold outC at hxo; omega)
  simp only [List.length_nil, Int.natCast_zero, Nat.zero_add] at hloop
  have hz : ((0 : Nat) : Int) = 0 := rfl
  rw [hloop]
  simp only [comitialaw7_TransformSelf.l0]
  rw [if_neg (by omega), if_pos trivial, ref_in _ gX k (by omega), cms_scs, iX]
  simp only [Option.bind_some, ba_size, ax]
  rw [if_pos trivial, ref_in _ gY k (by omega), cms_scs, iY]
  simp only [Option.bind_some]
  rw [if_pos trivial, w64 (x := (outs (at_ (cms x)) : Int) + (nput (at_ (cms x)) : Int)) (by unfold outC at hxo; omega) (by unfold outC at hxo; omega)]
  by_cases h120 : outs Y ≤ 120
  · rw [if_pos h120]
    simp only [if_true]
    have ay := app_length id Y (app id (at_ (cms x)) d) (by rw [ax, p2]; exact Nat.le_refl _)
    rw [ba_size, ay]
    simp; omega
  · rw [if_neg h120]
    simp only [if_true]
    rw [if_neg (by decide), if_pos (by omega)]
end Go.Proofs.Ytjmnflgicolbdaa.Pure

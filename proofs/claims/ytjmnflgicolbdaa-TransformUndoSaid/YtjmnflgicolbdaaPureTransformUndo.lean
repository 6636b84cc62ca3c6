/- The statement TransformUndo, once the machine's side is told by the printed contracts: it holds of the Lean functions of the Go functions. Conditions: none. -/
import Derived.Test.YtjmnflgicolbdaaQE7u
import Derived.Test.YtjmnflgicolbdaaQxcomitialaw7TransformUndo
namespace Go.Proofs.Ytjmnflgicolbdaa.Pure
open Go.OpM Go.RowKit Go.Cx Go.Proofs.Ytjmnflgicolbdaa.Q Go.Proofs.YtjmnflgicolbdaaW.PrintWords Go.Proofs.YtjmnflgicolbdaaW.PrintLast Go.Proofs.YtjmnflgicolbdaaW.PrintMore
set_option linter.unusedVariables false
set_option linter.unusedSimpArgs false

theorem nput_one {c : Cm} (h : c.ok) : nput c.at_ = c.s.length := by
  rcases Cm.cases h with ⟨n, hn, rfl⟩ | ⟨s, hs, rfl⟩ | ⟨n, hn, rfl⟩ <;> simp
theorem undo_l1 (o : List S43) (p : Int) (s : List S43) : ∀ (q : List S43) (put k : Nat), o = q ++ s → Vl (cms s) → o.length ≤ 1000000 → put + nput (at_ (cms s)) ≤ 1000000 →
    comitialaw7_TransformUndo.l1 (k + s.length + 1) o p put (q.length : Int) = some (p == ((put + nput (at_ (cms s)) : Nat) : Int)) := by
  induction s with
  | nil =>
    intro q put k hq hv h0 h1
    have : q.length = o.length := by rw [hq]; simp
    simp only [List.length_nil, Nat.add_zero, comitialaw7_TransformUndo.l1]
    rw [if_neg (by omega)]
    simp [cms, nput]
  | cons c s ih =>
    intro q put k hq hv h0 h1
    have hql : q.length < o.length := by rw [hq]; simp
    have hrd : rd_T43 o (q.length : Int) = c := by rw [hq]; exact rd_mid q c s
    have hc : (cm c).ok := hv.head (c := cm c) (l := cms s)
    have e1 : nput (at_ (cms (c :: s))) = nput (cm c).at_ + nput (at_ (cms s)) := by simp [cms]
    have he : (q ++ [c]).length = q.length + 1 := by simp
    have o1 := nput_one hc
    have hz : (c.f2.size : Int) = ((cm c).s.length : Int) := by simp [cm]
    rw [e1] at h1 ⊢
    have ih' := ih (q ++ [c]) (put + nput (cm c).at_) k (by simp [hq]) (Vl.tail (c := cm c) hv) h0 (by omega)
    rw [he, Nat.add_assoc put] at ih'
    have ek : k + (c :: s).length + 1 = (k + s.length + 1) + 1 := by simp; omega
    rw [ek, ← ih']
    generalize k + s.length + 1 = K
    conv => lhs; unfold comitialaw7_TransformUndo.l1
    rw [if_pos (by omega), if_pos (by omega), hrd, w_succ _ (by omega), hz, ← o1, w64 (by omega) (by omega)]
    congr 1
theorem undo_l0 (x o : List S43) (k : Nat) (s : List S43) : ∀ (q : List S43) (put : Nat), x = q ++ s → Vl (cms s) → x.length ≤ 1000000 → put + nput (at_ (cms s)) ≤ 1000000 →
    comitialaw7_TransformUndo.l0 (k + s.length + 1) x o put 0 (q.length : Int) = comitialaw7_TransformUndo.l1 k o ((put + nput (at_ (cms s)) : Nat) : Int) 0 0 := by
  induction s with
  | nil =>
    intro q put hq hv h0 h1
    have : q.length = x.length := by rw [hq]; simp
    simp only [List.length_nil, Nat.add_zero, comitialaw7_TransformUndo.l0]
    rw [if_neg (by omega)]
    simp [cms, nput]
  | cons c s ih =>
    intro q put hq hv h0 h1
    have hql : q.length < x.length := by rw [hq]; simp
    have hrd : rd_T43 x (q.length : Int) = c := by rw [hq]; exact rd_mid q c s
    have hc : (cm c).ok := hv.head (c := cm c) (l := cms s)
    have e1 : nput (at_ (cms (c :: s))) = nput (cm c).at_ + nput (at_ (cms s)) := by simp [cms]
    have he : (q ++ [c]).length = q.length + 1 := by simp
    have o1 := nput_one hc
    have hz : (c.f2.size : Int) = ((cm c).s.length : Int) := by simp [cm]
    rw [e1] at h1 ⊢
    have ih' := ih (q ++ [c]) (put + nput (cm c).at_) (by simp [hq]) (Vl.tail (c := cm c) hv) h0 (by omega)
    rw [he, Nat.add_assoc put] at ih'
    have ek : k + (c :: s).length + 1 = (k + s.length + 1) + 1 := by simp; omega
    rw [ek, ← ih']
    generalize k + s.length + 1 = K
    conv => lhs; unfold comitialaw7_TransformUndo.l0
    rw [if_pos (by omega), if_pos (by omega), hrd, w_succ _ (by omega), hz, ← o1, w64 (by omega) (by omega)]
    congr 1
theorem over_two (x a b : List S43) (hx : x.length < 1000000) (y z : List S43) (u v : List S43) (h1 : transform_Pair.f a x = some (u, y, 0)) (h2 : transform_Pair.f b y = some (v, z, 0)) (k : Nat) : transform_Over.f (k + 3) x [a, b] = some (z, 0) := by
  unfold transform_Over.f slices_Clone_Comp.f
  rw [if_pos hx]
  simp only [Option.bind_some, transform_Over.l0]
  rw [if_pos (by simp), if_pos (by simp), if_pos (by simp), show rd_L3 [a, b] 0 = a from rfl, h1]
  simp only [Option.bind_some, if_true]
  rw [w64 (by decide) (by decide), if_pos (by simp), if_pos (by simp), if_pos (by simp), show rd_L3 [a, b] (0 + 1) = b from rfl, h2]
  simp only [Option.bind_some, if_true]
  rw [w64 (by decide) (by decide), if_neg (by simp)]
theorem TransformUndo : comitialaw7_TransformUndo.Pure := by
  intro l0 l1 l2 _ _ _ _ _ _ _ _ _
  obtain ⟨d, hd, hdl⟩ := few_eq l0
  obtain ⟨a, ha, ham, _⟩ := make_eq d.length (by omega) l1
  obtain ⟨c, hc, hcm, _⟩ := make_eq d.length (by omega) l2
  have hga := ham.good (by omega)
  have hgc := hcm.good (by omega)
  have hai := ham.ins
  have hci := hcm.ins
  have hao := ham.outs
  have hco := hcm.outs
  have hal := ham.len
  have hix : ins (at_ (cms c)) = d.length := by unfold inC at hci; exact hci
  obtain ⟨p, hp⟩ : ∃ p, p = inv (at_ (cms c)) d := ⟨_, rfl⟩
  have pi : ins p = outs (at_ (cms c)) := by rw [hp, inv_ins]
  have po : outs p = d.length := by rw [hp, inv_outs _ _ (by omega), hix]
  have hio : ins (at_ (cms c)) = ins (at_ (cms a)) := by unfold inC at hai hci; omega
  have g1 : good2 (cms c) (cms a) = true := good2_mk hcm.vl ham.vl (by omega)
  have P := pf hio
  obtain ⟨X, hX⟩ : ∃ X, X = (pairA (norm (at_ (cms c))) (norm (at_ (cms a)))).1 := ⟨_, rfl⟩
  obtain ⟨Y, hY⟩ : ∃ Y, Y = (pairA (norm (at_ (cms c))) (norm (at_ (cms a)))).2 := ⟨_, rfl⟩
  rw [← hX, ← hY] at P
  have p2 := P.iy
  have p3 := P.xy
  have p4 := P.le
  have p6 := P.py
  have sY : ins Y + outs Y ≤ 100000 := by unfold inC outC at *; omega
  have gY : good (cms (scs (nf Y))) = true := by rw [cms_scs]; exact nf_good _ sY
  have sp : ins p + outs p ≤ 100000 := by unfold outC at hco; omega
  have gp : good (cms (scs (nf p))) = true := by rw [cms_scs]; exact nf_good _ sp
  have i2 : inC (cms (scs (nf p))) = ins p := by rw [cms_scs]; unfold inC; rw [at_nf, ins_norm]
  have o2 : outC (cms (scs (nf p))) = outs p := by rw [cms_scs]; unfold outC; rw [at_nf, outs_norm]
  have iY : inC (cms (scs (nf Y))) = ins Y := by rw [cms_scs]; unfold inC; rw [at_nf, ins_norm]
  have oY : outC (cms (scs (nf Y))) = outs Y := by rw [cms_scs]; unfold outC; rw [at_nf, outs_norm]
  have g2 : good2 (cms (scs (nf p))) (cms (scs (nf Y))) = true := good2_g gp gY (by rw [i2, o2, iY, oY]; unfold outC at *; omega)
  have hio2 : ins (at_ (cms (scs (nf p)))) = ins (at_ (cms (scs (nf Y)))) := by unfold inC at i2 iY; rw [i2, iY]; omega
  have Q := pf hio2
  obtain ⟨Z, hZ⟩ : ∃ Z, Z = (pairA (norm (at_ (cms (scs (nf p))))) (norm (at_ (cms (scs (nf Y)))))).2 := ⟨_, rfl⟩
  rw [← hZ] at Q
  have q2 := Q.iy
  have q3 := Q.xy
  have q4 := Q.le
  have q6 := Q.py
  have ep : outs (at_ (cms (scs (nf p)))) = outs p := by unfold outC at o2; exact o2
  have eY : outs (at_ (cms (scs (nf Y)))) = outs Y := by unfold outC at oY; exact oY
  have eN : nput (at_ (cms (scs (nf Y)))) = nput Y := by rw [cms_scs, at_nf, nput_norm]
  rw [ep] at q2 q4
  rw [eY] at q4
  rw [eN, p6] at q6
  have sZ : ins Z + outs Z ≤ 100000 := by unfold inC outC at *; omega
  have gZ : good (cms (scs (nf Z))) = true := by rw [cms_scs]; exact nf_good _ sZ
  have lZ := normal_len sZ
  have iZ : inC (cms (scs (nf Z))) = d.length := by rw [cms_scs]; unfold inC; rw [at_nf, ins_norm, q2, po]
  have nZ : nput (at_ (cms (scs (nf Z)))) = nput (at_ (cms a)) := by rw [cms_scs, at_nf, nput_norm, q6]
  have nle := nput_le (at_ (cms a))
  obtain ⟨k, hk⟩ : ∃ k, k = 700000 + (scs (nf Z)).length + 1 + a.length := ⟨_, rfl⟩
  refine ⟨k + 3, ?_⟩
  unfold comitialaw7_TransformUndo.f
  rw [known7_true _ (by omega)]
  simp only [Option.bind_some, if_true, hd, ba_size]
  rw [ha _ (by omega), hc _ (by omega)]
  simp only [Option.bind_some]
  rw [ref6_op d c hgc _ (by omega), if_pos hci, ← hp]
  simp only [Option.bind_some]
  have t1 : transform_Pair.f c a = some (scs (nf X), scs (nf Y), 0) := by rw [tpair_eq g1, if_pos (by omega), ← hX, ← hY]
  have t2 : transform_Pair.f (scs (nf p)) (scs (nf Y)) = some (scs (nf (pairA (norm (at_ (cms (scs (nf p))))) (norm (at_ (cms (scs (nf Y)))))).1), scs (nf Z), 0) := by rw [tpair_eq g2, if_pos (by rw [i2, iY]; omega), ← hZ]
  rw [over_two a c (scs (nf p)) (by omega) _ _ _ _ t1 t2 k]
  simp only [Option.bind_some, if_true]
  rw [ref_in _ gZ _ (by omega), iZ]
  simp only [Option.bind_some, comitialaw7_TransformUndo.j0]
  rw [if_neg (by simp)]
  have e0 : k + 2 = (k + 1 - a.length) + a.length + 1 := by omega
  have h0 := undo_l0 a (scs (nf Z)) (k + 1 - a.length) a [] 0 rfl ham.vl (by omega) (by unfold outC at hao; omega)
  simp only [List.length_nil, Int.natCast_zero, Nat.zero_add] at h0
  rw [e0, h0]
  have e1 : k + 1 - a.length = 700001 + (scs (nf Z)).length + 1 := by omega
  have h1 := undo_l1 (scs (nf Z)) ((nput (at_ (cms a)) : Nat) : Int) (scs (nf Z)) [] 0 700001 rfl (good_vl gZ) (by omega) (by rw [nZ]; unfold outC at hao; omega)
  simp only [List.length_nil, Int.natCast_zero, Nat.zero_add] at h1
  rw [e1, h1, nZ]
  simp
end Go.Proofs.Ytjmnflgicolbdaa.Pure

/- The statement TransformFirst, once the machine's side is told by the printed contracts: it holds of the Lean functions of the Go functions. Conditions: none. -/
import Derived.Test.YtjmnflgicolbdaaQE7
import Derived.Test.YtjmnflgicolbdaaQxcomitialaw7TransformFirst
namespace Go.Proofs.Ytjmnflgicolbdaa.Pure
open Go.OpM Go.RowKit Go.Cx Go.Proofs.Ytjmnflgicolbdaa.Q Go.Proofs.YtjmnflgicolbdaaW.PrintWords Go.Proofs.YtjmnflgicolbdaaW.PrintLast Go.Proofs.YtjmnflgicolbdaaW.PrintMore
set_option linter.unusedVariables false
set_option linter.unusedSimpArgs false

theorem text_loop (d : Nat) : ∀ (l : List Int) (i k : Nat), i + d = l.length → l.length ≤ 1000000 → ∃ l' : List Int, l'.length = l.length ∧ comitialaw7_text.l0 (k + d + 1) l (i : Int) = some (strOfNums l') := by
  induction d with
  | zero =>
    intro l i k h hl
    refine ⟨l, rfl, ?_⟩
    simp only [Nat.add_zero, comitialaw7_text.l0]
    rw [if_neg (by omega)]
  | succ d ih =>
    intro l i k h hl
    rw [show k + (d + 1) + 1 = (k + d + 1) + 1 by omega]
    conv => enter [1, l', 2, 1]; unfold comitialaw7_text.l0
    rw [if_pos (by omega), if_pos (by omega), w_succ _ (by omega)]
    obtain ⟨l', h1, h2⟩ := ih (l.set ((i : Int)).toNat ((wrap64 (65 + (Int.tmod (i : Int) 26))) % 256)) (i + 1) k (by simp; omega) (by simpa using hl)
    exact ⟨l', by simpa using h1, h2⟩
theorem text_eq (n : Nat) (hn : n ≤ 1000) (k : Nat) (hk : n + 1 ≤ k) : ∃ t : List UInt8, t.length = n ∧ comitialaw7_text.f k (n : Int) = some ⟨t.toArray⟩ := by
  unfold comitialaw7_text.f
  rw [mx_eq, if_pos (by omega), if_pos (by omega)]
  have e : (max (n : Int) 0).toNat = n := by omega
  rw [e]
  obtain ⟨l', h1, h2⟩ := text_loop n (List.replicate n 0) 0 (k - n - 1) (by simp) (by simp; omega)
  have ek : k - n - 1 + n + 1 = k := by omega
  rw [ek] at h2
  refine ⟨l'.map fun n => UInt8.ofNat n.toNat, by simpa using h1, ?_⟩
  exact h2
theorem putAt_eq (n at' : Nat) (h : at' ≤ n) (hn : n ≤ 1000) (s : List UInt8) (hs : s ≠ []) : comitialaw7_putAt.f (n : Int) (at' : Int) ⟨s.toArray⟩ = some (scs (kp at' ++ [⟨2, 0, s⟩] ++ kp (n - at'))) := by
  unfold comitialaw7_putAt.f
  have e2 : scs [(⟨2, 0, s⟩ : Cm)] = [⟨2, 0, ⟨s.toArray⟩⟩] := rfl
  rw [scs_append, scs_append, e2]
  by_cases h0 : at' = 0
  · subst h0
    rw [if_neg (by omega), if_pos (by simp)]
    simp only [Option.bind_some]
    have e1 : scs (kp 0) = [] := rfl
    rw [e1]
    by_cases h1 : n = 0
    · subst h1
      rw [if_neg (by omega)]
      rfl
    · rw [if_pos (by omega), if_pos (by simp), w64 (by omega) (by omega)]
      have e3 : scs (kp (n - 0)) = [⟨1, ((n - 0 : Nat) : Int), ⟨#[]⟩⟩] := by unfold kp; rw [if_neg (by omega)]; rfl
      rw [e3]
      simp
  · rw [if_pos (by omega), if_pos (by simp)]
    simp only [Option.bind_some]
    rw [if_pos (by simp)]
    try simp only [Option.bind_some]
    have e1 : scs (kp at') = [⟨1, (at' : Int), ⟨#[]⟩⟩] := by unfold kp; rw [if_neg h0]; rfl
    rw [e1]
    by_cases h1 : n = at'
    · subst h1
      rw [if_neg (by omega)]
      have e3 : scs (kp (n - n)) = [] := by rw [Nat.sub_self]; rfl
      rw [e3]
      simp
    · rw [if_pos (by omega), if_pos (by simp), w64 (by omega) (by omega)]
      have e3 : scs (kp (n - at')) = [⟨1, ((n - at' : Nat) : Int), ⟨#[]⟩⟩] := by unfold kp; rw [if_neg (by omega)]; rfl
      rw [e3]
      have : ((n : Int) - (at' : Int)) = ((n - at' : Nat) : Int) := by omega
      rw [this]
      simp
theorem normGo_keeps0 (n : Nat) (x : List A) : normGo (keeps n ++ x) [] 0 = keeps n ++ normGo x [] 0 := by
  induction n with
  | zero => simp [keeps]
  | succ n ih => simp only [keeps, List.replicate_succ, List.cons_append] at ih ⊢; simp only [normGo]; rw [ih]; rfl
theorem norm_kpk (p q : Nat) (s : List UInt8) : norm (keeps p ++ (puts s ++ keeps q)) = keeps p ++ (puts s ++ keeps q) := by
  unfold norm
  rw [normGo_keeps0, normGo_puts]
  congr 1
  cases q with
  | zero => simp [keeps, normGo, cuts]
  | succ q =>
    have := normGo_keeps0 q []
    simp only [List.append_nil, normGo] at this
    simp only [keeps, List.replicate_succ] at this ⊢
    simp only [normGo]
    rw [this]; simp [cuts, puts]
theorem app_k (n : Nat) (x : List A) (d e : List UInt8) (h : d.length = n) : app id (keeps n ++ x) (d ++ e) = d ++ app id x e := by
  rw [app_append _ _ _ _ (by simp; omega), app_keeps _ _ _ (by simp; omega)]
  simp [← h]
theorem app_p (s : List UInt8) (x : List A) (e : List UInt8) : app id (puts s ++ x) e = s ++ app id x e := by
  rw [app_append _ _ _ _ (by simp), app_puts]; simp
theorem app_kall (d : List UInt8) : app id (keeps d.length) d = d := by rw [app_keeps _ _ _ (Nat.le_refl _)]; simp
theorem j1_true (n : Nat) (hn : n ≤ 1000) (k : Nat) : comitialaw7_TransformFirst.j1 (k + 1) (n : Int) false = some true := by
  simp only [comitialaw7_TransformFirst.j1]
  rw [if_neg (by decide)]
  by_cases h0 : n = 0
  · subst h0; rw [if_pos (by decide)]
  · rw [if_neg (by omega)]
    simp only [Option.bind_some]
    have e : cms [(⟨3, (n : Int), (⟨#[]⟩ : ByteArray)⟩ : S43)] = [⟨3, n, []⟩] := rfl
    have hv : Vl (cms [(⟨3, (n : Int), (⟨#[]⟩ : ByteArray)⟩ : S43)]) := by rw [e]; exact Vl.cons (cut_ok (by omega)) Vl.nil
    have hi : inC (cms [(⟨3, (n : Int), (⟨#[]⟩ : ByteArray)⟩ : S43)]) = n := by rw [e]; simp [inC, ins]
    have ho : outC (cms [(⟨3, (n : Int), (⟨#[]⟩ : ByteArray)⟩ : S43)]) = 0 := by rw [e]; simp [outC, outs]
    rw [tpair_eq (good2_mk hv hv (by rw [hi, ho]; omega)), if_pos rfl]
    have en : norm (at_ (cms [(⟨3, (n : Int), (⟨#[]⟩ : ByteArray)⟩ : S43)])) = cuts n := by
      rw [e]
      simp only [at_cons, at_cut, at_nil, List.append_nil]
      unfold norm
      have := normGo_cuts n [] 0 []
      rw [List.append_nil] at this
      rw [this]; simp [normGo, puts]
    have ep : pairA (cuts n) (cuts n) = ([], []) := by
      have := pair_cc n [] []
      simp only [List.append_nil] at this
      rw [this]; simp [pairA]
    rw [en, ep]
    simp only [Option.bind_some]
    rfl
theorem TransformFirst : comitialaw7_TransformFirst.Pure := by
  intro a0 a1 a2 a3 _ _ h2 h3
  obtain ⟨s, rfl⟩ := str_of a2
  obtain ⟨t, rfl⟩ := str_of a3
  obtain ⟨n, hn⟩ : ∃ n : Nat, min (max (a0.tmod 50) 0) 49 = (n : Int) := ⟨(min (max (a0.tmod 50) 0) 49).toNat, by omega⟩
  have hn49 : n ≤ 49 := by omega
  refine ⟨100000 + 3, ?_⟩
  obtain ⟨k, hk⟩ : ∃ k, k = 100000 := ⟨_, rfl⟩
  rw [← hk]
  have hj : comitialaw7_TransformFirst.j0 (k + 3) a0 a1 (str s) (str t) true = some true := by
    simp only [comitialaw7_TransformFirst.j0]
    rw [if_pos trivial]
  unfold comitialaw7_TransformFirst.f
  rw [known7_true _ (by omega)]
  simp only [Option.bind_some, if_true]
  by_cases hs : s = []
  · rw [if_pos (by rw [str_toList]; exact hs)]; exact hj
  rw [if_neg (by rw [str_toList]; exact hs)]
  by_cases ht : t = []
  · rw [if_pos (by rw [str_toList]; exact ht)]; exact hj
  rw [if_neg (by rw [str_toList]; exact ht), str_size, str_size]
  rw [str_size] at h2 h3
  by_cases h40 : wrap64 ((s.length : Int) + (t.length : Int)) > 40
  · rw [decide_eq_true h40]; exact hj
  rw [decide_eq_false h40]
  rw [w64 (by omega) (by omega)] at h40
  have hst : s.length + t.length ≤ 40 := by omega
  simp only [comitialaw7_TransformFirst.j0]
  rw [if_neg (by decide), mn_eq, mx_eq, hn, if_neg (by omega)]
  obtain ⟨q, hq⟩ : ∃ q : Nat, mn (mx (a1.tmod ((n : Int) + 1)) 0) (n : Int) = (q : Int) := ⟨(mn (mx (a1.tmod ((n : Int) + 1)) 0) (n : Int)).toNat, by rw [mn_eq, mx_eq]; omega⟩
  have hqn : q ≤ n := by rw [mn_eq, mx_eq] at hq; omega
  simp only [hq]
  obtain ⟨d, hd, htx⟩ := text_eq n (by omega) (k + 2) (by omega)
  obtain ⟨D1, hD1⟩ : ∃ D, D = d.take q := ⟨_, rfl⟩
  obtain ⟨D2, hD2⟩ : ∃ D, D = d.drop q := ⟨_, rfl⟩
  have l1 : D1.length = q := by rw [hD1, List.length_take]; omega
  have l2 : D2.length = n - q := by rw [hD2, List.length_drop]; omega
  have hdd : d = D1 ++ D2 := by rw [hD1, hD2, List.take_append_drop]
  -- the two
  have facts : ∀ s : List UInt8, s ≠ [] → s.length ≤ 40 → ∃ x : List S43, comitialaw7_putAt.f (n : Int) (q : Int) ⟨s.toArray⟩ = some x ∧ Vl (cms x) ∧ at_ (cms x) = keeps q ++ (puts s ++ keeps (n - q)) ∧ inC (cms x) = n ∧ outC (cms x) = n + s.length ∧ x.length ≤ 3 := by
    intro s hs hl
    refine ⟨_, putAt_eq n q hqn (by omega) s hs, ?_, ?_, ?_, ?_, ?_⟩
    · rw [cms_scs]; exact ((kp_ok q).append (Vl.cons (put_ok hs) Vl.nil)).append (kp_ok _)
    · rw [cms_scs]; simp
    · rw [cms_scs]; unfold inC; simp; omega
    · rw [cms_scs]; unfold outC; simp; omega
    · rw [scs_length]; have := kp_len q; have := kp_len (n - q); simp; omega
  obtain ⟨x, hx, xv, xa, xi, xo, xl⟩ := facts s hs (by omega)
  obtain ⟨y, hy, yv, ya, yi, yo, yl⟩ := facts t ht (by omega)
  have hg2 : good2 (cms x) (cms y) = true := good2_mk xv yv (by omega)
  have hgx : good (cms x) = true := good_iff.2 ⟨xv, by omega⟩
  have hgy : good (cms y) = true := good_iff.2 ⟨yv, by omega⟩
  have hp : pairA (norm (at_ (cms x))) (norm (at_ (cms y))) = (keeps q ++ (puts s ++ (keeps t.length ++ keeps (n - q))), keeps q ++ (keeps s.length ++ (puts t ++ keeps (n - q)))) := by
    rw [xa, ya, norm_kpk, norm_kpk, pair_kk, pair_pl, pair_pr]
    · have := pair_kk (n - q) [] []
      simp only [List.append_nil] at this
      rw [this]; simp [pairA]
    · intro a' b e
      cases h : n - q with
      | zero => rw [h] at e; simp [keeps] at e
      | succ m => rw [h] at e; simp [keeps, List.replicate_succ] at e
  obtain ⟨X, hX⟩ : ∃ X, X = keeps q ++ (puts s ++ (keeps t.length ++ keeps (n - q))) := ⟨_, rfl⟩
  obtain ⟨Y, hY⟩ : ∃ Y, Y = keeps q ++ (keeps s.length ++ (puts t ++ keeps (n - q))) := ⟨_, rfl⟩
  rw [← hX, ← hY] at hp
  have iX : ins X = n + t.length := by rw [hX]; simp; omega
  have iY : ins Y = n + s.length := by rw [hY]; simp; omega
  have oX : outs X = n + s.length + t.length := by rw [hX]; simp; omega
  have oY : outs Y = n + s.length + t.length := by rw [hY]; simp; omega
  have gX : good (cms (scs (nf X))) = true := by rw [cms_scs]; exact nf_good _ (by omega)
  have gY : good (cms (scs (nf Y))) = true := by rw [cms_scs]; exact nf_good _ (by omega)
  have lX : (scs (nf X)).length ≤ 50000 := by have := good_len gX; have := vl_len (good_vl gX); rw [cms_scs, at_nf] at this; have := at_len (norm X); rw [ins_norm, outs_norm] at this; rw [scs_length]; omega
  have lY : (scs (nf Y)).length ≤ 50000 := by have := vl_len (good_vl gY); rw [cms_scs, at_nf] at this; have := at_len (norm Y); rw [ins_norm, outs_norm] at this; rw [scs_length]; omega
  have ax : app id (at_ (cms x)) d = D1 ++ (s ++ D2) := by rw [xa, hdd, app_k _ _ _ _ l1, app_p, ← l2, app_kall]
  have ay : app id (at_ (cms y)) d = D1 ++ (t ++ D2) := by rw [ya, hdd, app_k _ _ _ _ l1, app_p, ← l2, app_kall]
  have aX : app id X (D1 ++ (t ++ D2)) = D1 ++ (s ++ (t ++ D2)) := by rw [hX, app_k _ _ _ _ l1, app_p, app_k _ _ _ _ rfl, ← l2, app_kall]
  have aY : app id Y (D1 ++ (s ++ D2)) = D1 ++ (s ++ (t ++ D2)) := by rw [hY, app_k _ _ _ _ l1, app_k _ _ _ _ rfl, app_p, ← l2, app_kall]
  have r1 := ref_apply d x hgx (by omega) (k + 2) (by omega)
  have r2 := ref_apply d y hgy (by omega) (k + 2) (by omega)
  rw [if_pos (by omega), if_pos (by omega), ax] at r1
  rw [if_pos (by omega), if_pos (by omega), ay] at r2
  have r3 : comitiaref4_Apply.f (k + 2) ⟨(D1 ++ (s ++ D2)).toArray⟩ (scs (nf Y)) = some (⟨(D1 ++ (s ++ (t ++ D2))).toArray⟩, 0) := by
    rw [ref_apply _ _ gY (by simp; omega) (k + 2) (by omega), cms_scs, if_pos (by unfold inC; rw [at_nf, ins_norm, iY]; simp; omega), if_pos (by unfold outC; rw [at_nf, outs_norm, oY]; omega), at_nf, app_norm id Y _ (by rw [iY]; simp; omega), aY]
  have r4 : comitiaref4_Apply.f (k + 2) ⟨(D1 ++ (t ++ D2)).toArray⟩ (scs (nf X)) = some (⟨(D1 ++ (s ++ (t ++ D2))).toArray⟩, 0) := by
    rw [ref_apply _ _ gX (by simp; omega) (k + 2) (by omega), cms_scs, if_pos (by unfold inC; rw [at_nf, ins_norm, iX]; simp; omega), if_pos (by unfold outC; rw [at_nf, outs_norm, oX]; omega), at_nf, app_norm id X _ (by rw [iX]; simp; omega), aX]
  have es : str s = ⟨s.toArray⟩ := rfl
  have et : str t = ⟨t.toArray⟩ := rfl
  rw [es, et, hx, hy]
  simp only [Option.bind_some]
  rw [tpair_eq hg2, if_pos (by omega), hp, htx]
  simp only [Option.bind_some]
  rw [r1, r2]
  simp only [Option.bind_some]
  rw [r3, r4]
  simp only [Option.bind_some]
  have x1 : (⟨d.toArray⟩ : ByteArray).extract 0 ((q : Int)).toNat = ⟨D1.toArray⟩ := by rw [ext_str, hD1]; simp
  have x2 : (⟨d.toArray⟩ : ByteArray).extract ((q : Int)).toNat (⟨d.toArray⟩ : ByteArray).size = ⟨D2.toArray⟩ := by rw [ext_str, ba_size, hD2, Int.toNat_natCast]; rw [List.take_of_length_le (by simp)]
  rw [x1, x2, ba_app, ba_app, ba_app]
  simp only [ba_size, ba_list]
  rw [if_pos (by omega), if_pos (by omega), if_pos (by omega), if_pos (by simp; omega), if_pos (by simp; omega), if_pos trivial]
  have ee : D1 ++ s ++ t ++ D2 = D1 ++ (s ++ (t ++ D2)) := by simp
  rw [ee, if_pos rfl]
  have : (D1 ++ (s ++ (t ++ D2)) != D1 ++ (s ++ (t ++ D2))) = false := by simp
  rw [this]
  exact j1_true n (by omega) (k + 1)
end Go.Proofs.Ytjmnflgicolbdaa.Pure

/- The statement ComposeRows, once the machine's side is told by the printed contracts: it holds of the Lean functions of the Go functions. Conditions: none. -/
import Derived.Test.YtmblpbaefoapaaaQE5n
import Derived.Test.YtmblpbaefoapaaaQxcomitialaw5ComposeRows
namespace Go.Proofs.Ytmblpbaefoapaaa.Pure
open Go.OpM Go.RowKit Go.Cx Go.Proofs.Ytmblpbaefoapaaa.Q Go.Proofs.YtmblpbaefoapaaaW.PrintWords Go.Proofs.YtmblpbaefoapaaaW.PrintLast Go.Proofs.YtmblpbaefoapaaaW.PrintMore
set_option linter.unusedVariables false
set_option linter.unusedSimpArgs false

theorem putAt_eq (n at' : Nat) (h : at' ≤ n) (hn : n ≤ 1000) (s : List UInt8) (hs : s ≠ []) : comitialaw5_put.f (n : Int) (at' : Int) ⟨s.toArray⟩ = some (scs (kp at' ++ [⟨2, 0, s⟩] ++ kp (n - at'))) := by
  unfold comitialaw5_put.f
  have e2 : scs [(⟨2, 0, s⟩ : Cm)] = [⟨2, 0, ⟨s.toArray⟩⟩] := rfl
  rw [scs_append, scs_append, e2]
  by_cases h0 : at' = 0
  · subst h0
    rw [if_neg (by omega), if_pos (by simp)]
    simp only [Option.bind_some]
    have e1 : scs (kp 0) = [] := rfl
    rw [e1]
    by_cases h1 : n = 0
    · subst h1
      rw [if_neg (by omega)]
      rfl
    · rw [if_pos (by omega), if_pos (by simp), w64 (by omega) (by omega)]
      have e3 : scs (kp (n - 0)) = [⟨1, ((n - 0 : Nat) : Int), ⟨#[]⟩⟩] := by unfold kp; rw [if_neg (by omega)]; rfl
      rw [e3]
      simp
  · rw [if_pos (by omega), if_pos (by simp)]
    simp only [Option.bind_some]
    rw [if_pos (by simp)]
    try simp only [Option.bind_some]
    have e1 : scs (kp at') = [⟨1, (at' : Int), ⟨#[]⟩⟩] := by unfold kp; rw [if_neg h0]; rfl
    rw [e1]
    by_cases h1 : n = at'
    · subst h1
      rw [if_neg (by omega)]
      have e3 : scs (kp (n - n)) = [] := by rw [Nat.sub_self]; rfl
      rw [e3]
      simp
    · rw [if_pos (by omega), if_pos (by simp), w64 (by omega) (by omega)]
      have e3 : scs (kp (n - at')) = [⟨1, ((n - at' : Nat) : Int), ⟨#[]⟩⟩] := by unfold kp; rw [if_neg (by omega)]; rfl
      rw [e3]
      have : ((n : Int) - (at' : Int)) = ((n - at' : Nat) : Int) := by omega
      rw [this]
      simp
theorem all_nil (n k : Nat) : compose_All.f (k + 2) (n : Int) [] = some (scs (kp n), 0) := by
  have h : ∀ x : List S49, compose_All.j0 (k + 2) [] x = some (x, 0) := by
    intro x
    simp only [compose_All.j0, compose_All.l0]
    rw [if_neg (by simp)]
  unfold compose_All.f
  rw [h, h]
  by_cases hn : n = 0
  · subst hn; rw [if_neg (by omega)]; rfl
  · rw [if_pos (by omega)]; unfold kp; rw [if_neg hn]; rfl
theorem nf_kpk (p r : Nat) (s : List UInt8) (hs : s ≠ []) : nf (keeps p ++ (puts s ++ keeps r)) = kp p ++ [⟨2, 0, s⟩] ++ kp r := by
  unfold nf
  rw [nfGo_keeps0, nfGo_puts, List.nil_append]
  have e : pp s = [⟨2, 0, s⟩] := by unfold pp; rw [if_neg hs]
  by_cases hr : r = 0
  · subst hr
    simp [keeps, nfGo, e, cp, kp]
  · have := nfGo_keeps r (0 + p) s 0 [] (by omega) (fun h => hs h.1)
    rw [List.append_nil] at this
    rw [this]
    simp [nfGo, e, cp, pp, hs]
theorem comp_kall (r : Nat) : comp (keeps r) (keeps r) = keeps r := by
  have := comp_kk r [] []
  simpa [comp] using this
theorem no_cut_pk (s : List UInt8) (r : Nat) (a' : List A) : puts s ++ keeps r ≠ A.C :: a' := by
  intro h
  cases s with
  | nil => cases r with
    | zero => simp [puts, keeps] at h
    | succ r => simp [puts, keeps, List.replicate_succ] at h
  | cons b s => simp [puts] at h
theorem rows_x (p r : Nat) (s : List UInt8) : comp (keeps p ++ (puts s ++ keeps r)) (keeps p ++ (cuts s.length ++ keeps r)) = keeps (p + r) := by
  rw [comp_kk, comp_pc, comp_kall, keeps_add]
theorem rows_y (p r : Nat) (s t : List UInt8) : comp (keeps p ++ (puts s ++ keeps r)) (keeps p ++ (puts t ++ keeps (s.length + r))) = keeps p ++ (puts (t ++ s) ++ keeps r) := by
  rw [comp_kk, comp_puts _ _ _ (no_cut_pk s r), keeps_add, comp_pk, comp_kall, puts_append, List.append_assoc]
theorem rows_z (p r : Nat) (s t : List UInt8) : comp (keeps p ++ (puts s ++ keeps r)) (keeps (p + s.length) ++ (puts t ++ keeps r)) = keeps p ++ (puts (s ++ t) ++ keeps r) := by
  rw [keeps_add, List.append_assoc, comp_kk, comp_pk, comp_puts, comp_kall, puts_append, List.append_assoc]
  intro a' h
  exact no_cut_pk [] r a' (by simpa [puts] using h)
theorem put_len (n q : Nat) (s : List UInt8) : (scs (kp q ++ [⟨2, 0, s⟩] ++ kp (n - q))).length ≤ 3 := by
  rw [scs_length]; have := kp_len q; have := kp_len (n - q); simp; omega
theorem ComposeRows : comitialaw5_ComposeRows.Pure := by
  intro a0 a1 a2 a3 _ _ h2 h3
  obtain ⟨s, rfl⟩ := str_of a2
  obtain ⟨t, rfl⟩ := str_of a3
  obtain ⟨n, hn⟩ : ∃ n : Nat, min (max (a0.tmod 60) 0) 59 = (n : Int) := ⟨(min (max (a0.tmod 60) 0) 59).toNat, by omega⟩
  have hn59 : n ≤ 59 := by omega
  refine ⟨400000 + 4, ?_⟩
  obtain ⟨k, hk⟩ : ∃ k, k = 400000 := ⟨_, rfl⟩
  rw [← hk]
  have hj : comitialaw5_ComposeRows.j0 (k + 4) a0 a1 (str s) (str t) true = some true := by
    simp only [comitialaw5_ComposeRows.j0]
    rw [if_pos trivial]
  unfold comitialaw5_ComposeRows.f
  rw [known5_true]
  simp only [Option.bind_some, if_true]
  by_cases hs : s = []
  · rw [if_pos (by rw [str_toList]; exact hs)]; exact hj
  rw [if_neg (by rw [str_toList]; exact hs)]
  by_cases ht : t = []
  · rw [if_pos (by rw [str_toList]; exact ht)]; exact hj
  rw [if_neg (by rw [str_toList]; exact ht), str_size, str_size]
  rw [str_size] at h2 h3
  by_cases h40 : wrap64 ((s.length : Int) + (t.length : Int)) > 50
  · rw [decide_eq_true h40]; exact hj
  rw [decide_eq_false h40]
  rw [w64 (by omega) (by omega)] at h40
  have hst : s.length + t.length ≤ 50 := by omega
  have spos : 0 < s.length := List.length_pos_iff.2 hs
  simp only [comitialaw5_ComposeRows.j0]
  rw [if_neg (by decide), mn_eq, mx_eq, hn, if_neg (by omega)]
  obtain ⟨q, hq⟩ : ∃ q : Nat, mn (mx (a1.tmod ((n : Int) + 1)) 0) (n : Int) = (q : Int) := ⟨(mn (mx (a1.tmod ((n : Int) + 1)) 0) (n : Int)).toNat, by rw [mn_eq, mx_eq]; omega⟩
  have hqn : q ≤ n := by rw [mn_eq, mx_eq] at hq; omega
  simp only [hq]
  have es : str s = ⟨s.toArray⟩ := rfl
  have et : str t = ⟨t.toArray⟩ := rfl
  have esz : (str s).size = s.length := str_size s
  have etz : (str t).size = t.length := str_size t
  have xs := putAt_eq n q hqn (by omega) s hs
  obtain ⟨x, hx⟩ : ∃ x, x = scs (kp q ++ [⟨2, 0, s⟩] ++ kp (n - q)) := ⟨_, rfl⟩
  rw [← hx] at xs
  have facts : ∀ (n q : Nat) (s : List UInt8), q ≤ n → n ≤ 200 → s.length ≤ 50 → s ≠ [] → Vl (cms (scs (kp q ++ [⟨2, 0, s⟩] ++ kp (n - q)))) ∧ at_ (cms (scs (kp q ++ [⟨2, 0, s⟩] ++ kp (n - q)))) = keeps q ++ (puts s ++ keeps (n - q)) ∧ inC (cms (scs (kp q ++ [⟨2, 0, s⟩] ++ kp (n - q)))) = n ∧ outC (cms (scs (kp q ++ [⟨2, 0, s⟩] ++ kp (n - q)))) = n + s.length := by
    intro n q s hqn _ _ hs
    refine ⟨?_, ?_, ?_, ?_⟩
    · rw [cms_scs]; exact ((kp_ok q).append (Vl.cons (put_ok hs) Vl.nil)).append (kp_ok _)
    · rw [cms_scs]; simp
    · rw [cms_scs]; unfold inC; simp; omega
    · rw [cms_scs]; unfold outC; simp; omega
  obtain ⟨xv, xa, xi, xo⟩ := facts n q s hqn (by omega) (by omega) hs
  rw [← hx] at xv xa xi xo
  -- the cut
  obtain ⟨c, hc⟩ : ∃ c, c = scs (kp q ++ [⟨3, (s.length : Int), []⟩] ++ kp (n - q)) := ⟨_, rfl⟩
  have cv : Vl (cms c) := by rw [hc, cms_scs]; exact ((kp_ok q).append (Vl.cons (cut_ok spos) Vl.nil)).append (kp_ok _)
  have ca : at_ (cms c) = keeps q ++ (cuts s.length ++ keeps (n - q)) := by rw [hc, cms_scs]; simp
  have ci : inC (cms c) = n + s.length := by rw [hc, cms_scs]; unfold inC; simp; omega
  have co : outC (cms c) = n := by rw [hc, cms_scs]; unfold outC; simp; omega
  have e3 : scs [(⟨3, (s.length : Int), []⟩ : Cm)] = [⟨3, (s.length : Int), ⟨#[]⟩⟩] := rfl
  have hj2 : ∀ R, comitialaw5_ComposeRows.j2 (k + 2) (n : Int) (q : Int) (str s) (str t) x c = R → comitialaw5_ComposeRows.j1 (k + 3) (n : Int) (q : Int) (str s) (str t) x (scs (kp q)) = R := by
    intro R hR
    have l1 := kp_len q
    simp only [comitialaw5_ComposeRows.j1]
    rw [if_pos (by rw [scs_length]; omega), esz]
    simp only [Option.bind_some]
    have ec : scs (kp q) ++ [(⟨3, (s.length : Int), (⟨#[]⟩ : ByteArray)⟩ : S49)] ++ scs (kp (n - q)) = c := by rw [hc, scs_append, scs_append, e3]
    by_cases h1 : n = q
    · rw [if_neg (by omega)]
      have : scs (kp (n - q)) = [] := by rw [h1, Nat.sub_self]; rfl
      rw [this, List.append_nil] at ec
      rw [ec]; exact hR
    · rw [if_pos (by omega), if_pos (by simp only [List.length_append, scs_length, List.length_cons, List.length_nil]; omega), w64 (by omega) (by omega)]
      have : scs (kp (n - q)) = [⟨1, ((n - q : Nat) : Int), ⟨#[]⟩⟩] := by unfold kp; rw [if_neg (by omega)]; rfl
      rw [this] at ec
      have e4 : ((n : Int) - (q : Int)) = ((n - q : Nat) : Int) := by omega
      rw [e4, ec]; exact hR
  have hj1 : ∀ R, comitialaw5_ComposeRows.j2 (k + 2) (n : Int) (q : Int) (str s) (str t) x c = R → (if (q : Int) > 0 then (if ([] : List S49).length < 4398046511104 then (comitialaw5_ComposeRows.j1 (k + 3) (n : Int) (q : Int) (str s) (str t) x (([] : List S49) ++ [(⟨1, (q : Int), (⟨#[]⟩ : ByteArray)⟩ : S49)])) else none) else (comitialaw5_ComposeRows.j1 (k + 3) (n : Int) (q : Int) (str s) (str t) x ([] : List S49))) = R := by
    intro R hR
    by_cases h0 : q = 0
    · rw [if_neg (by omega)]
      have : scs (kp q) = [] := by rw [h0]; rfl
      rw [← this]; exact hj2 R hR
    · rw [if_pos (by omega), if_pos (by simp)]
      have : scs (kp q) = [] ++ [(⟨1, (q : Int), (⟨#[]⟩ : ByteArray)⟩ : S49)] := by unfold kp; rw [if_neg h0]; rfl
      rw [← this]; exact hj2 R hR
  rw [es, xs]
  simp only [Option.bind_some]
  rw [← es]
  refine hj1 _ ?_
  -- the three
  have y1 := putAt_eq (n + s.length) q (by omega) (by omega) t ht
  have z1 := putAt_eq (n + s.length) (q + s.length) (by omega) (by omega) t ht
  obtain ⟨yv, ya, yi, yo⟩ := facts (n + s.length) q t (by omega) (by omega) (by omega) ht
  obtain ⟨zv, za, zi, zo⟩ := facts (n + s.length) (q + s.length) t (by omega) (by omega) (by omega) ht
  obtain ⟨y, hy⟩ : ∃ y, y = scs (kp q ++ [⟨2, 0, t⟩] ++ kp (n + s.length - q)) := ⟨_, rfl⟩
  obtain ⟨z, hz⟩ : ∃ z, z = scs (kp (q + s.length) ++ [⟨2, 0, t⟩] ++ kp (n + s.length - (q + s.length))) := ⟨_, rfl⟩
  rw [← hy] at y1 yv ya yi yo
  rw [← hz] at z1 zv za zi zo
  have gc : good2 (cms x) (cms c) = true := good2_mk xv cv (by omega)
  have gy : good2 (cms x) (cms y) = true := good2_mk xv yv (by omega)
  have gz : good2 (cms x) (cms z) = true := good2_mk xv zv (by omega)
  have cx : comp (at_ (cms x)) (at_ (cms c)) = keeps n := by
    rw [xa, ca, rows_x]; congr 1; omega
  have cy : comp (at_ (cms x)) (at_ (cms y)) = keeps q ++ (puts (t ++ s) ++ keeps (n - q)) := by
    rw [xa, ya, show n + s.length - q = s.length + (n - q) by omega, rows_y]
  have cz : comp (at_ (cms x)) (at_ (cms z)) = keeps q ++ (puts (s ++ t) ++ keeps (n - q)) := by
    rw [xa, za, show n + s.length - (q + s.length) = n - q by omega, rows_z]
  have hts : t ++ s ≠ [] := by simp [ht]
  have hst2 : s ++ t ≠ [] := by simp [hs]
  have u1 := putAt_eq n q hqn (by omega) (t ++ s) hts
  have u2 := putAt_eq n q hqn (by omega) (s ++ t) hst2
  have vk : Vl (cms (scs (kp n))) := by rw [cms_scs]; exact kp_ok n
  have gk : good (cms (scs (kp n))) = true := good_iff.2 ⟨vk, by rw [cms_scs]; unfold inC outC; rw [at_kp, ins_keeps, outs_keeps]; omega⟩
  have lk := kp_len n
  have ek : nf (at_ (cms (scs (kp n)))) = nf (keeps n) := by rw [cms_scs, at_kp]
  have lq := normal_len (x := keeps n) (by simp; omega)
  have pl1 := put_len n q (t ++ s)
  have pl2 := put_len n q (s ++ t)
  have an := all_nil n (k - 1)
  rw [show k - 1 + 2 = k + 1 by omega] at an
  have c1 : ((n : Int) + (s.length : Int)) = ((n + s.length : Nat) : Int) := by omega
  have c2 : ((q : Int) + (s.length : Int)) = ((q + s.length : Nat) : Int) := by omega
  have c3 : str t ++ str s = ⟨(t ++ s).toArray⟩ := ba_app t s
  have c4 : str s ++ str t = ⟨(s ++ t).toArray⟩ := ba_app s t
  simp only [comitialaw5_ComposeRows.j2]
  rw [esz, w64 (x := (n : Int) + (s.length : Int)) (by omega) (by omega), w64 (x := (q : Int) + (s.length : Int)) (by omega) (by omega), c1, c2, two_eq gc, if_pos (by omega), cx, an]
  simp only [Option.bind_some]
  rw [et, y1]
  simp only [Option.bind_some]
  rw [two_eq gy, if_pos (by omega), cy, z1]
  simp only [Option.bind_some]
  rw [two_eq gz, if_pos (by omega), cz, nf_kpk _ _ _ hts, nf_kpk _ _ _ hst2]
  simp only [Option.bind_some, if_true]
  rw [ref_normal _ gk _ (by rw [scs_length]; omega), ek]
  simp only [Option.bind_some]
  rw [rsame_refl _ (by omega) _ (by omega)]
  simp only [Option.bind_some, if_true]
  rw [← et, c3, c4, etz, if_pos (by omega), u1]
  simp only [Option.bind_some]
  rw [rsame_refl _ (by omega) _ (by omega)]
  simp only [Option.bind_some, if_true]
  rw [if_pos (by omega), u2]
  simp only [Option.bind_some]
  rw [rsame_refl _ (by omega) _ (by omega)]
  rfl
end Go.Proofs.Ytmblpbaefoapaaa.Pure

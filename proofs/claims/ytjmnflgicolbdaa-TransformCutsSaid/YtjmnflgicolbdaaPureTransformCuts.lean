/- The statement TransformCuts, once the machine's side is told by the printed contracts: it holds of the Lean functions of the Go functions. Conditions: none. -/
import Derived.Test.YtjmnflgicolbdaaQE7c
import Derived.Test.YtjmnflgicolbdaaQxcomitialaw7TransformCuts
namespace Go.Proofs.Ytjmnflgicolbdaa.Pure
open Go.OpM Go.RowKit Go.Cx Go.Proofs.Ytjmnflgicolbdaa.Q Go.Proofs.YtjmnflgicolbdaaW.PrintWords Go.Proofs.YtjmnflgicolbdaaW.PrintLast Go.Proofs.YtjmnflgicolbdaaW.PrintMore
set_option linter.unusedVariables false
set_option linter.unusedSimpArgs false

theorem text_loop (d : Nat) : ∀ (l : List Int) (i k : Nat), i + d = l.length → l.length ≤ 1000000 → ∃ l' : List Int, l'.length = l.length ∧ comitialaw7_text.l0 (k + d + 1) l (i : Int) = some (strOfNums l') := by
  induction d with
  | zero =>
    intro l i k h hl
    refine ⟨l, rfl, ?_⟩
    simp only [Nat.add_zero, comitialaw7_text.l0]
    rw [if_neg (by omega)]
  | succ d ih =>
    intro l i k h hl
    rw [show k + (d + 1) + 1 = (k + d + 1) + 1 by omega]
    conv => enter [1, l', 2, 1]; unfold comitialaw7_text.l0
    rw [if_pos (by omega), if_pos (by omega), w_succ _ (by omega)]
    obtain ⟨l', h1, h2⟩ := ih (l.set ((i : Int)).toNat ((wrap64 (65 + (Int.tmod (i : Int) 26))) % 256)) (i + 1) k (by simp; omega) (by simpa using hl)
    exact ⟨l', by simpa using h1, h2⟩
theorem text_eq (n : Nat) (hn : n ≤ 1000) (k : Nat) (hk : n + 1 ≤ k) : ∃ t : List UInt8, t.length = n ∧ comitialaw7_text.f k (n : Int) = some ⟨t.toArray⟩ := by
  unfold comitialaw7_text.f
  rw [mx_eq, if_pos (by omega), if_pos (by omega)]
  have e : (max (n : Int) 0).toNat = n := by omega
  rw [e]
  obtain ⟨l', h1, h2⟩ := text_loop n (List.replicate n 0) 0 (k - n - 1) (by simp) (by simp; omega)
  have ek : k - n - 1 + n + 1 = k := by omega
  rw [ek] at h2
  refine ⟨l'.map fun n => UInt8.ofNat n.toNat, by simpa using h1, ?_⟩
  exact h2
/-- Places that are cut, and the others kept. -/
def rowA (p : Nat → Bool) : Nat → Nat → List A
  | _, 0 => []
  | i, n + 1 => (if p i then A.C else A.K) :: rowA p (i + 1) n
def rowC (p : Nat → Bool) : Nat → Nat → List Cm
  | _, 0 => []
  | i, n + 1 => ⟨if p i then 3 else 1, 1, []⟩ :: rowC p (i + 1) n
/-- What is left of a text. -/
def kept (p : Nat → Bool) : Nat → List UInt8 → List UInt8
  | _, [] => []
  | i, b :: t => (if p i then [] else [b]) ++ kept p (i + 1) t
theorem rowC_at (p : Nat → Bool) (n : Nat) : ∀ i, at_ (rowC p i n) = rowA p i n ∧ Vl (rowC p i n) := by
  induction n with
  | zero => intro i; exact ⟨rfl, Vl.nil⟩
  | succ n ih =>
    intro i
    obtain ⟨h1, h2⟩ := ih (i + 1)
    simp only [rowC, rowA, at_cons, h1]
    cases p i
    · exact ⟨rfl, Vl.cons (keep_ok (n := 1) (by omega)) h2⟩
    · exact ⟨rfl, Vl.cons (cut_ok (n := 1) (by omega)) h2⟩
theorem rowA_ins (p : Nat → Bool) (n : Nat) : ∀ i, ins (rowA p i n) = n ∧ outs (rowA p i n) ≤ n := by
  induction n with
  | zero => intro i; exact ⟨rfl, Nat.le_refl _⟩
  | succ n ih =>
    intro i
    obtain ⟨h1, h2⟩ := ih (i + 1)
    simp only [rowA]
    cases p i <;> simp [ins, outs, h1] <;> omega
theorem rowA_normGo (p : Nat → Bool) (n : Nat) : ∀ i c, normGo (rowA p i n) [] c = cuts c ++ rowA p i n := by
  induction n with
  | zero => intro i c; simp [rowA, normGo, puts]
  | succ n ih =>
    intro i c
    simp only [rowA]
    cases p i
    · simp only [Bool.false_eq_true, if_false, normGo, ih]; simp [cuts, puts]
    · simp only [if_true, normGo, ih]
      rw [cuts_add]; simp [cuts]
theorem rowA_norm (p : Nat → Bool) (i n : Nat) : norm (rowA p i n) = rowA p i n := by
  unfold norm; rw [rowA_normGo]; simp [cuts]
theorem rowA_app (p : Nat → Bool) (t : List UInt8) : ∀ i, app id (rowA p i t.length) t = kept p i t := by
  induction t with
  | nil => intro i; rfl
  | cons b t ih =>
    intro i
    simp only [List.length_cons, rowA, kept]
    cases p i <;> simp [app, ih]
theorem rowA_two (p q : Nat → Bool) (t : List UInt8) : ∀ i, app id (pairA (rowA p i t.length) (rowA q i t.length)).2 (kept p i t) = kept (fun j => p j || q j) i t ∧
    app id (pairA (rowA p i t.length) (rowA q i t.length)).1 (kept q i t) = kept (fun j => p j || q j) i t := by
  induction t with
  | nil => intro i; simp [rowA, kept, pairA, app]
  | cons b t ih =>
    intro i
    obtain ⟨h1, h2⟩ := ih (i + 1)
    simp only [List.length_cons, rowA, kept]
    rcases Bool.eq_false_or_eq_true (p i) with hp | hp <;> rcases Bool.eq_false_or_eq_true (q i) with hq | hq <;> simp [hp, hq, pairA, app, h1, h2]
theorem kept_len (p : Nat → Bool) (t : List UInt8) : ∀ i, (kept p i t).length ≤ t.length := by
  induction t with
  | nil => intro i; simp [kept]
  | cons b t ih => intro i; have := ih (i + 1); simp only [kept, List.length_append, List.length_cons]; cases p i <;> simp <;> omega
theorem kept_append (r : Nat → Bool) (u v : List UInt8) : ∀ i, kept r i (u ++ v) = kept r i u ++ kept r (i + u.length) v := by
  induction u with
  | nil => intro i; simp [kept]
  | cons b u ih => intro i; simp only [List.cons_append, kept, ih, List.length_cons, List.append_assoc]; rw [show i + 1 + u.length = i + (u.length + 1) by omega]
theorem in_some (n : Nat) (h1 : 1 ≤ n) (h2 : n ≤ 50) (a b i : Int) : ∃ p, comitialaw7_in.f (n : Int) a b i = some p := by
  unfold comitialaw7_in.f
  simp only [mn_eq, mx_eq]
  rw [if_neg (by omega), w64 (x := (n : Int) - 1) (by omega) (by omega)]
  obtain ⟨q, hq⟩ : ∃ q, q = min (max (a.tmod n) 0) ((n : Int) - 1) := ⟨_, rfl⟩
  rw [← hq]
  have q0 : 0 ≤ q ∧ q ≤ (n : Int) - 1 := by omega
  rw [w64 (x := (n : Int) - q) (by omega) (by omega)]
  split
  · rw [if_neg (by omega)]; exact ⟨_, rfl⟩
  · exact ⟨_, rfl⟩
theorem in_fun (n : Nat) (h1 : 1 ≤ n) (h2 : n ≤ 50) (a b : Int) : ∃ p : Nat → Bool, ∀ i : Nat, comitialaw7_in.f (n : Int) a b (i : Int) = some (p i) := by
  refine ⟨fun i => (comitialaw7_in.f (n : Int) a b (i : Int)).getD false, fun i => ?_⟩
  obtain ⟨p, hp⟩ := in_some n h1 h2 a b (i : Int)
  show _ = some ((comitialaw7_in.f (n : Int) a b (i : Int)).getD false)
  rw [hp]; rfl
theorem taken_loop (n : Nat) (h2 : n ≤ 50) (a b : Int) (p : Nat → Bool) (hp : ∀ i : Nat, comitialaw7_in.f (n : Int) a b (i : Int) = some (p i)) (d : Nat) : ∀ (o : List Cm) (i k : Nat), i + d = n → o.length = i → good (o ++ rowC p i d) = true → 200 ≤ k →
    comitialaw7_taken.l0 (k + d + 1) (n : Int) a b (scs o) (i : Int) = some (scs (nf (at_ (o ++ rowC p i d)))) := by
  induction d with
  | zero =>
    intro o i k h ho hg hk
    simp only [rowC, List.append_nil] at hg ⊢
    simp only [Nat.add_zero, comitialaw7_taken.l0]
    rw [if_neg (by omega), ref_normal (scs o) (by rw [cms_scs]; exact hg) k (by rw [scs_length]; omega), cms_scs]
    rfl
  | succ d ih =>
    intro o i k h ho hg hk
    have e : o ++ rowC p i (d + 1) = (o ++ [⟨if p i then 3 else 1, 1, []⟩]) ++ rowC p (i + 1) d := by simp [rowC]
    rw [e] at hg ⊢
    have ih := ih (o ++ [⟨if p i then 3 else 1, 1, []⟩]) (i + 1) k (by omega) (by simp; omega) hg hk
    rw [← ih, show k + (d + 1) + 1 = (k + d + 1) + 1 by omega]
    conv => lhs; unfold comitialaw7_taken.l0
    rw [if_pos (by omega), hp i]
    simp only [Option.bind_some]
    rw [w_succ _ (by omega)]
    have hl : (scs o).length < 4398046511104 := by rw [scs_length]; omega
    cases hpi : p i
    · rw [if_neg (by decide), if_pos hl, scs_append]; rfl
    · rw [if_pos rfl, if_pos hl, scs_append]; rfl
theorem rowC_good (p : Nat → Bool) (n : Nat) (h : n ≤ 50) : good (rowC p 0 n) = true := by
  obtain ⟨h1, h2⟩ := rowC_at p n 0
  obtain ⟨h3, h4⟩ := rowA_ins p n 0
  exact good_iff.2 ⟨h2, by unfold inC outC; rw [h1]; omega⟩
theorem taken_eq (n : Nat) (h2 : n ≤ 50) (a b : Int) (p : Nat → Bool) (hp : ∀ i : Nat, comitialaw7_in.f (n : Int) a b (i : Int) = some (p i)) (k : Nat) (hk : n + 201 ≤ k) : comitialaw7_taken.f k (n : Int) a b = some (scs (nf (rowA p 0 n))) := by
  have h := taken_loop n h2 a b p hp n [] 0 (k - n - 1) (by omega) rfl (by simpa using rowC_good p n h2) (by omega)
  have ek : k - n - 1 + n + 1 = k := by omega
  rw [ek, List.nil_append, (rowC_at p n 0).1] at h
  exact h
theorem want_loop (n a1 a2 a3 a4 : Int) (p q : Nat → Bool) (hp : ∀ i : Nat, comitialaw7_in.f n a1 a2 (i : Int) = some (p i)) (hq : ∀ i : Nat, comitialaw7_in.f n a3 a4 (i : Int) = some (q i)) (t : List UInt8) (ht : n = (t.length : Int)) (ht2 : t.length ≤ 50) (P : List UInt8) (hP : P = kept (fun j => p j || q j) 0 t) (s : List UInt8) : ∀ (u : List UInt8) (k : Nat), t = u ++ s →
    comitialaw7_TransformCuts.l0 (k + s.length + 1) n a1 a2 a3 a4 0 ⟨t.toArray⟩ ⟨P.toArray⟩ 0 ⟨P.toArray⟩ 0 ⟨(kept (fun j => p j || q j) 0 u).toArray⟩ (u.length : Int) = some true := by
  induction s with
  | nil =>
    intro u k hu
    have e : u.length = t.length := by rw [hu]; simp
    simp only [List.length_nil, Nat.add_zero, comitialaw7_TransformCuts.l0]
    rw [if_neg (by omega), if_pos trivial, if_pos trivial, if_pos trivial]
    simp only [ba_list]
    have : kept (fun j => p j || q j) 0 u = P := by rw [hP, hu]; simp
    rw [this, if_pos rfl]; simp
  | cons b s ih =>
    intro u k hu
    have hl : u.length < t.length := by rw [hu]; simp
    have ih := ih (u ++ [b]) k (by simp [hu])
    have el : (u ++ [b]).length = u.length + 1 := by simp
    rw [kept_append, el] at ih
    simp only [kept, List.append_nil, Nat.zero_add] at ih
    have kl := kept_len (fun j => p j || q j) u 0
    have ex : (⟨t.toArray⟩ : ByteArray).extract u.length (u.length + 1) = ⟨[b].toArray⟩ := by rw [ext_str, hu]; simp
    rw [List.length_cons, show k + (s.length + 1) + 1 = (k + s.length + 1) + 1 by omega]
    unfold comitialaw7_TransformCuts.l0
    rw [if_pos (by omega), hp, w_succ _ (by omega)]
    simp only [Option.bind_some]
    cases hpi : p u.length
    · rw [if_neg (by decide), hq]
      simp only [Option.bind_some]
      cases hqi : q u.length
      · rw [if_neg (by decide), if_pos (by omega), if_pos (by omega), if_pos (by rw [ba_size]; omega), Int.toNat_natCast, Int.toNat_natCast, ex, if_pos (by rw [ba_size, ba_size]; simp; omega), ba_app]
        rw [hpi, hqi] at ih
        exact ih
      · rw [if_pos rfl]
        rw [hpi, hqi] at ih
        simpa using ih
    · rw [if_pos rfl]
      rw [hpi] at ih
      simpa using ih
theorem TransformCuts : comitialaw7_TransformCuts.Pure := by
  intro a0 a1 a2 a3 a4 _ _ _ _ _
  obtain ⟨n, hn⟩ : ∃ n : Nat, 1 + min (max (a0.tmod 50) 0) 49 = (n : Int) := ⟨(1 + min (max (a0.tmod 50) 0) 49).toNat, by omega⟩
  have n1 : 1 ≤ n := by omega
  have n2 : n ≤ 50 := by omega
  obtain ⟨p, hp⟩ := in_fun n n1 n2 a1 a2
  obtain ⟨q, hq⟩ := in_fun n n1 n2 a3 a4
  obtain ⟨k, hk⟩ : ∃ k, k = 400000 + n + 1 := ⟨_, rfl⟩
  refine ⟨k, ?_⟩
  obtain ⟨t, ht, htx⟩ := text_eq n (by omega) k (by omega)
  obtain ⟨x1, x2⟩ := rowA_ins p n 0
  obtain ⟨y1, y2⟩ := rowA_ins q n 0
  have T1 := rowA_app p t 0
  have T2 := rowA_app q t 0
  obtain ⟨W1, W2⟩ := rowA_two p q t 0
  rw [ht] at T1 T2 W1 W2
  have nx := rowA_norm p 0 n
  have ny := rowA_norm q 0 n
  obtain ⟨X, hX⟩ : ∃ X, X = rowA p 0 n := ⟨_, rfl⟩
  obtain ⟨Y, hY⟩ : ∃ Y, Y = rowA q 0 n := ⟨_, rfl⟩
  rw [← hX] at x1 x2 T1 W1 W2 nx
  rw [← hY] at y1 y2 T2 W1 W2 ny
  obtain ⟨p1, p2⟩ := pair_ins X Y (by omega)
  have p3 := pair_outs X Y (by omega)
  obtain ⟨p4, p5⟩ := pair_nput X Y (by omega)
  have p6 := outs_ins (pairA X Y).1
  have p7 := outs_ins (pairA X Y).2
  have p8 := nput_le X
  have p9 := nput_le Y
  obtain ⟨X', hX'⟩ : ∃ X', X' = (pairA X Y).1 := ⟨_, rfl⟩
  obtain ⟨Y', hY'⟩ : ∃ Y', Y' = (pairA X Y).2 := ⟨_, rfl⟩
  rw [← hX'] at p1 p3 p4 p6 W2
  rw [← hY'] at p2 p3 p5 p7 W1
  have vX : Vl (nf X) := nf_ok X 0 [] 0
  have vY : Vl (nf Y) := nf_ok Y 0 [] 0
  have aX : at_ (nf X) = X := by rw [at_nf, nx]
  have aY : at_ (nf Y) = Y := by rw [at_nf, ny]
  have iX : inC (cms (scs (nf X))) = n := by rw [cms_scs]; unfold inC; rw [aX, x1]
  have iY : inC (cms (scs (nf Y))) = n := by rw [cms_scs]; unfold inC; rw [aY, y1]
  have oX : outC (cms (scs (nf X))) = outs X := by rw [cms_scs]; unfold outC; rw [aX]
  have oY : outC (cms (scs (nf Y))) = outs Y := by rw [cms_scs]; unfold outC; rw [aY]
  have g2 : good2 (cms (scs (nf X))) (cms (scs (nf Y))) = true := good2_mk (by rw [cms_scs]; exact vX) (by rw [cms_scs]; exact vY) (by omega)
  have gX : good (cms (scs (nf X))) = true := by rw [cms_scs]; exact nf_good _ (by omega)
  have gY : good (cms (scs (nf Y))) = true := by rw [cms_scs]; exact nf_good _ (by omega)
  have gX' : good (cms (scs (nf X'))) = true := by rw [cms_scs]; exact nf_good _ (by omega)
  have gY' : good (cms (scs (nf Y'))) = true := by rw [cms_scs]; exact nf_good _ (by omega)
  have lX := good_len gX
  have lY := good_len gY
  have lX' := good_len gX'
  have lY' := good_len gY'
  have kx := app_length id X t (by omega)
  have ky := app_length id Y t (by omega)
  rw [T1] at kx
  rw [T2] at ky
  have r1 := ref_apply t (scs (nf X)) gX (by omega) k (by omega)
  have r2 := ref_apply t (scs (nf Y)) gY (by omega) k (by omega)
  rw [if_pos (by omega), if_pos (by omega), cms_scs, aX, T1] at r1
  rw [if_pos (by omega), if_pos (by omega), cms_scs, aY, T2] at r2
  have r3 : comitiaref4_Apply.f k ⟨(kept p 0 t).toArray⟩ (scs (nf Y')) = some (⟨(kept (fun j => p j || q j) 0 t).toArray⟩, 0) := by
    rw [ref_apply _ _ gY' (by omega) k (by omega), cms_scs, if_pos (by unfold inC; rw [at_nf, ins_norm]; omega), if_pos (by unfold outC; rw [at_nf, outs_norm]; omega), at_nf, app_norm id Y' _ (by omega), W1]
  have r4 : comitiaref4_Apply.f k ⟨(kept q 0 t).toArray⟩ (scs (nf X')) = some (⟨(kept (fun j => p j || q j) 0 t).toArray⟩, 0) := by
    rw [ref_apply _ _ gX' (by omega) k (by omega), cms_scs, if_pos (by unfold inC; rw [at_nf, ins_norm]; omega), if_pos (by unfold outC; rw [at_nf, outs_norm]; omega), at_nf, app_norm id X' _ (by omega), W2]
  have t1 := taken_eq n n2 a1 a2 p hp k (by omega)
  have t2 := taken_eq n n2 a3 a4 q hq k (by omega)
  rw [← hX] at t1
  rw [← hY] at t2
  unfold comitialaw7_TransformCuts.f
  simp only [mn_eq, mx_eq]
  rw [known7_true _ (by omega), hn]
  simp only [Option.bind_some, if_true]
  rw [t1, t2]
  simp only [Option.bind_some]
  rw [tpair_eq g2, if_pos (by omega), cms_scs, cms_scs, aX, aY, nx, ny, ← hX', ← hY', htx]
  simp only [Option.bind_some]
  rw [r1, r2]
  simp only [Option.bind_some]
  rw [r3, r4]
  simp only [Option.bind_some]
  have := want_loop (n : Int) a1 a2 a3 a4 p q hp hq t (by omega) (by omega) _ rfl t [] (k - t.length - 1) rfl
  rw [show k - t.length - 1 + t.length + 1 = k by omega] at this
  exact this
end Go.Proofs.Ytjmnflgicolbdaa.Pure

/- log: records of bytes; rows that a call makes; log.cut. -/
import Derived.Test.YtfhbbmaimaabnaaL1
import Derived.ScopeJumps
import Derived.WalkMore
namespace Go.Proofs.Ytfhbbmaimaabnaa
open Go.RowKit Go.Cx
set_option linter.unusedVariables false
set_option linter.unusedSimpArgs false

/-! ### The records of bytes -/
def num8 (B : List UInt8) : Int := wrap64 (Cd.leNum (B.take 8) : Nat)
def okRec (B : List UInt8) : Prop := 8 ≤ B.length ∧ 0 ≤ num8 B ∧ num8 B ≤ 16384 ∧ num8 B ≤ (B.length : Int) - 8
instance (B : List UInt8) : Decidable (okRec B) := by unfold okRec; infer_instance
def recsF : Nat → List UInt8 → List (List UInt8) × Nat
  | 0, _ => ([], 0)
  | f + 1, B => if okRec B then ((B.drop 8).take (num8 B).toNat :: (recsF f (B.drop (8 + (num8 B).toNat))).1, 8 + (num8 B).toNat + (recsF f (B.drop (8 + (num8 B).toNat))).2) else ([], 0)
def recs (B : List UInt8) : List (List UInt8) × Nat := recsF (B.length + 1) B
theorem recsF_more : ∀ (f g : Nat) (B : List UInt8), B.length < f → B.length < g → recsF f B = recsF g B
  | 0, _, _, h, _ => absurd h (Nat.not_lt_zero _)
  | _ + 1, 0, _, _, h => absurd h (Nat.not_lt_zero _)
  | f + 1, g + 1, B, hf, hg => by
    unfold recsF
    by_cases h : okRec B
    · have h1 := h.1
      have e := recsF_more f g (B.drop (8 + (num8 B).toNat)) (by rw [List.length_drop]; omega) (by rw [List.length_drop]; omega)
      rw [if_pos h, if_pos h, e]
    · rw [if_neg h, if_neg h]
theorem recs_no {B : List UInt8} (h : ¬ okRec B) : recs B = ([], 0) := by unfold recs recsF; rw [if_neg h]
theorem recs_ok {B : List UInt8} (h : okRec B) : recs B = ((B.drop 8).take (num8 B).toNat :: (recs (B.drop (8 + (num8 B).toNat))).1, 8 + (num8 B).toNat + (recs (B.drop (8 + (num8 B).toNat))).2) := by
  have h1 := h.1
  have e : recs (B.drop (8 + (num8 B).toNat)) = recsF B.length (B.drop (8 + (num8 B).toNat)) := recsF_more _ _ _ (Nat.lt_succ_self _) (by rw [List.length_drop]; omega)
  rw [e]
  conv => lhs; unfold recs recsF
  rw [if_pos h]
theorem recs_step {B : List UInt8} (h : okRec B) : ∃ k : Nat, num8 B = k ∧ 8 + k ≤ B.length ∧ k ≤ 16384 ∧ recs B = ((B.drop 8).take k :: (recs (B.drop (8 + k))).1, 8 + k + (recs (B.drop (8 + k))).2) := by
  have e := recs_ok h
  obtain ⟨h1, h2, h3, h4⟩ := h
  revert e h2 h3 h4
  generalize num8 B = z
  intro e h2 h3 h4
  obtain ⟨k, rfl⟩ : ∃ k : Nat, z = k := ⟨z.toNat, by omega⟩
  exact ⟨k, rfl, by omega, by omega, e⟩
theorem recs_len (B : List UInt8) : (recs B).2 ≤ B.length ∧ (recs B).1.length * 8 ≤ (recs B).2 := by
  generalize hn : B.length = n
  induction n using Nat.strongRecOn generalizing B with
  | ind n ih =>
    by_cases h : okRec B
    · obtain ⟨k, _, h2, _, e⟩ := recs_step h
      rw [e]
      obtain ⟨i1, i2⟩ := ih (B.drop (8 + k)).length (by rw [List.length_drop]; omega) _ rfl
      rw [List.length_drop] at i1
      simp only [List.length_cons]
      omega
    · rw [recs_no h]; simp

/-! ### Rows that a call makes -/
def RowsV (base : Nat) (w : World) (a : Option Addr) (m c : Nat) (ll : List (List UInt8)) (vs : List Value) : Prop :=
  m = ll.length ∧ Own w base 22 1 a m c vs ∧ (∀ u ∈ vs, u.oneCell' = true) ∧
    ∀ (i : Nat) (l : List UInt8), ll[i]? = some l → ∃ a' c', vs[i]? = some (Value.slice a' l.length c') ∧ Sl w 1 a' l.length c' (bv l) ∧ ∀ b', a' = some b' → base ≤ b'.block ∧ b'.block < w.heap.size ∧ ∀ b, a = some b → b.block ≠ b'.block
def RowsOwn (base : Nat) (w : World) (a : Option Addr) (m c : Nat) (ll : List (List UInt8)) : Prop := ∃ vs, RowsV base w a m c ll vs
theorem et_sl : ElemT Try.prog 25 22 1 24 (.slice none 0 0) := ElemT.mk' Try.underlying25 (by kernel_rfl) rfl (by decide)
theorem RowsOwn.nil (base : Nat) (w : World) : RowsOwn base w none 0 0 [] := ⟨[], rfl, Own.nil _ _ _ _, (fun _ h => by cases h), fun i l h => by simp at h⟩
theorem RowsOwn.ch {S : Nat → Prop} {base : Nat} {w w' : World} {a : Option Addr} {m c : Nat} {ll : List (List UInt8)} (h : RowsOwn base w a m c ll) (hc : Ch S w w') (hs : ∀ k, base ≤ k → ¬ S k) : RowsOwn base w' a m c ll := by
  obtain ⟨vs, h1, h2, h3, h4⟩ := h
  refine ⟨vs, h1, h2.ch hc (fun b hb => hs _ (h2.block b hb).1), h3, fun i l hl => ?_⟩
  obtain ⟨a', c', e1, e2, e3⟩ := h4 i l hl
  exact ⟨a', c', e1, e2.ch hc (fun b hb => hs _ (e3 b hb).1), fun b' hb' => ⟨(e3 b' hb').1, Nat.lt_of_lt_of_le (e3 b' hb').2.1 hc.size, (e3 b' hb').2.2⟩⟩
theorem RowsOwn.rows {base : Nat} {w : World} {a : Option Addr} {m c : Nat} {ll : List (List UInt8)} (h : RowsOwn base w a m c ll) : RowsAt w a m c ll := by
  obtain ⟨vs, h1, h2, h3, h4⟩ := h
  refine ⟨h1.symm, vs, h2.sl, fun i l hl => ?_⟩
  obtain ⟨a', c', e1, e2, _⟩ := h4 i l hl
  exact ⟨a', c', e1, e2⟩
/-- One more row behind: the row was made at w1, the slice of one at w1 too; w3 is behind the append. -/
theorem RowsV.put {base : Nat} {w w1 w3 : World} {a a1 a3 : Option Addr} {m c k c1 c3 : Nat} {ll : List (List UInt8)} {l : List UInt8} {o : Obj} {vs : List Value} (h : RowsV base w a m c ll vs) (hb : base ≤ w.heap.size) (h1 : Own w1 w.heap.size 5 1 a1 k c1 (bv l)) (hc1 : Ch (fun _ => False) w w1)
    (ho : Own w3 base 22 1 a3 (m + 1) c3 (vs ++ [.slice a1 k c1])) (hc : Ch (fun k => ∃ b, a = some b ∧ b.block = k) (w1.alloc o) w3)
    (hN : (a3 = a ∧ c3 = c) ∨ ∀ b, a3 = some b → (w1.alloc o).heap.size ≤ b.block) : RowsOwn base w3 a3 (m + 1) c3 (ll ++ [l]) := by
  obtain ⟨e1, e2, e3, e4⟩ := h
  have hk : k = l.length := by have := h1.sl.1; rw [bv_length] at this; omega
  subst hk
  have ca : Ch (fun _ => False) w (w1.alloc o) := hc1.alloc _
  have hO := ho
  have hsz := ca.size
  have hs3 := hc.size
  have hs1 : w1.heap.size ≤ (w1.alloc o).heap.size := by simp
  have hab : ∀ b, a = some b → b.block < w.heap.size := fun b hb => (e2.block b hb).2
  have hvl : vs.length = m := by have := e2.1; omega
  refine ⟨_, by rw [List.length_append, e1]; rfl, hO, ?_, fun i l' hl => ?_⟩
  · intro u hu
    rcases List.mem_append.1 hu with h | h
    · exact e3 u h
    · simp only [List.mem_singleton] at h; subst h; rfl
  · rcases Nat.lt_or_ge i ll.length with hi | hi
    · rw [List.getElem?_append_left hi] at hl
      obtain ⟨a', c', g1, g2, g3⟩ := e4 i l' hl
      refine ⟨a', c', by rw [List.getElem?_append_left (by omega)]; exact g1, (g2.ch ca (fun _ _ => id)).ch hc (fun b' hb' ⟨b, hb, he⟩ => (g3 b' hb').2.2 b hb he), fun b' hb' => ⟨(g3 b' hb').1, by have := (g3 b' hb').2.1; omega, fun b hb => ?_⟩⟩
      rcases hN with ⟨rfl, _⟩ | hN
      · exact (g3 b' hb').2.2 b hb
      · have := hN b hb; have := (g3 b' hb').2.1; omega
    · obtain rfl : i = ll.length := by
        have := (List.getElem?_eq_some_iff.1 hl).1
        simp at this; omega
      rw [List.getElem?_append_right (Nat.le_refl _)] at hl
      simp at hl
      subst hl
      refine ⟨a1, c1, by rw [List.getElem?_append_right (by omega), hvl, e1]; simp, ?_, fun b' hb' => ?_⟩
      · exact (h1.sl.ch ((Ch.refl (fun _ => False) w1).alloc o) (fun _ _ => id)).ch hc (fun b' hb' ⟨b, hb, he⟩ => by have := (h1.block b' hb').1; have := hab b hb; omega)
      · have := h1.block b' hb'
        refine ⟨by omega, by omega, fun b hb => ?_⟩
        rcases hN with ⟨rfl, _⟩ | hN
        · have := hab b hb; omega
        · have := hN b hb; omega

/-! ### slices.Clone of rows -/
set_option maxRecDepth 100000 in
set_option maxHeartbeats 400000 in
theorem clone2_any (a : Option Addr) (n c : Nat) (xs : List Value) (w : World) (h : Sl w 1 a n c xs) (h1 : ∀ u ∈ xs, u.oneCell' = true) (hn : n ≤ 1000000) :
    Calls Try.prog 48 #[.slice a n c] w (Fresh w 22 1 n xs) := by
  have q : ∀ (w : World) (a : Option Addr) (n c n' c' : Nat), (binOp .eql 25 (.slice a n c) (.slice none n' c')).run Try.prog w = .ok (.bool a.isNone) w := fun w a n c n' c' => Lib.run_eql_slice_nil w _ _ a n c n' c' Try.underlying25
  cases a with
  | none =>
    obtain ⟨rfl, rfl, rfl⟩ := h.none_zero
    go_enter Try.func48, Try.ntmps48
    go_wp2
    go_ret
    exact ⟨none, 0, rfl, Own.nil _ _ _ _, Ch.refl _ _⟩
  | some b =>
    have H := hid h
    have H1 := hid h1
    clear h h1
    go_enter Try.func48, Try.ntmps48
    go_wp2_with (at_builtin; refine wpList_app rfl _ _ _ _ rfl w.heap.size 22 1 24 _ et_sl _ 0 _ [] rfl (World.ownsRow_made w #[] 0 (Nat.le_refl _) (Nat.zero_le _) rfl) _ n xs rfl ((H.out.ch ((Ch.refl (fun _ => False) w).alloc _) (fun _ _ => id)).src Try.underlying25 H1.out) (by unfold maxLen; omega) (by omega) (by simp) ?_; intro a' c' w1 hO hS hC hN; rw [List.nil_append, Nat.zero_add] at hO; have HO := hid hO; have HC := hid hC; clear hO hS hC hN)
    go_ret
    exact ⟨_, _, rfl, by simpa using HO.out, ((Ch.refl _ w).alloc _).trans HC.out (fun i hi ⟨b, hb, he⟩ => by cases hb; have : w.heap.size = i := he; omega)⟩
/-- A copy of rows: the rows themselves stay where they are. -/
theorem RowsV.copy {base : Nat} {w w1 : World} {a a1 : Option Addr} {m c c1 : Nat} {ll : List (List UInt8)} {vs : List Value} (h : RowsV base w a m c ll vs) (hb : base ≤ w.heap.size)
    (hv : ∀ (i : Nat) (l : List UInt8), ll[i]? = some l → ∃ a' c', vs[i]? = some (Value.slice a' l.length c') ∧ Sl w 1 a' l.length c' (bv l) ∧ ∀ b', a' = some b' → base ≤ b'.block ∧ b'.block < w.heap.size ∧ ∀ b, a = some b → b.block ≠ b'.block)
    (h3 : ∀ u ∈ vs, u.oneCell' = true) (ho : Own w1 w.heap.size 22 1 a1 m c1 vs) (hc : Ch (fun _ => False) w w1) : RowsOwn base w1 a1 m c1 ll := by
  refine ⟨vs, h.1, ho.base_le hb, h3, fun i l hl => ?_⟩
  obtain ⟨a', c', e1, e2, e3⟩ := hv i l hl
  exact ⟨a', c', e1, e2.ch hc (fun _ _ => id), fun b' hb' => ⟨(e3 b' hb').1, Nat.lt_of_lt_of_le (e3 b' hb').2.1 hc.size, fun b hb => by have := (ho.block b hb).1; have := (e3 b' hb').2.1; omega⟩⟩
theorem rclone_any (base : Nat) (a : Option Addr) (n c : Nat) (ll : List (List UInt8)) (w : World) (h : RowsOwn base w a n c ll) (hb : base ≤ w.heap.size) (hn : n ≤ 1000000) :
    Calls Try.prog 48 #[.slice a n c] w fun e w' => ∃ a' c', e = .returned (.slice a' n c') ∧ RowsOwn base w' a' n c' ll ∧ Ch (fun _ => False) w w' := by
  obtain ⟨vs, hv⟩ := h
  obtain ⟨h1, h2, h3, h4⟩ := id hv
  refine (clone2_any a n c vs w h2.sl h3 hn).mono ?_
  rintro e w' ⟨a', c', rfl, ho, hc⟩
  exact ⟨a', c', rfl, hv.copy hb h4 h3 ho hc, hc⟩

/-! ### cut -/
theorem wp_scope_again {P : Program} {a : Go.Act} {w : World} {Q : Exit → Act → World → Prop} {c body : Code} (l : Nat) (J : Act → World → Prop) (μ : Act → World → Nat) (hf : findLabel c l = some (Code.skip.seq body))
    (pass : ∀ a w, J a w → body.wp P (Exit.jump l (fun a' w' => J a' w' ∧ μ a' w' < μ a w) Q) a w)
    (first : (∀ a w, J a w → body.wp P (Exit.jump l J Q) a w) → c.wp P (Exit.jump l J Q) a w) : (Code.scope c).wp P Q a w :=
  wp_scope_jumps l J μ hf (first (fun a w h => wp_mono (pass a w h) (fun e a w hq => by cases e <;> first | exact hq | exact ⟨hq.1, hq.2.1⟩))) (fun a w h => wp_seq (wp_skip (pass a w h)))
theorem num8_take (B : List UInt8) : wrap64 (Cd.leNum ((B.take 8).take 8) : Nat) = num8 B := by rw [List.take_take, Nat.min_self]; rfl
def CutJ (w : World) (a : Option Addr) (n c : Nat) (B : List UInt8) (a' : Act) (w' : World) : Prop :=
  ∃ (P : Nat) (ar : Option Addr) (m cr : Nat) (done : List (List UInt8)) (u0 u1 u2 u3 u4 u5 u6 u7 u8 u9 u10 u11 u12 u13 u14 u15 u16 u17 u18 u19 u20 u21 u22 u23 u24 u25 u26 u27 u28 u29 u30 u31 u32 u33 u34 u35 u36 u37 u38 u39 u40 u41 u42 u43 u44 u45 u46 : Value), a' = { tmps := #[.slice a n c, u1, .slice ar m cr, .int .i64 P, u4, u5, u6, u7, u8, u9, u10, u11, u12, u13, u14, u15, u16, u17, u18, u19, u20, u21, u22, u23, u24, u25, u26, u27, u28, u29, u30, u31, u32, u33, u34, u35, u36, u37, u38, u39, u40, u41, u42, u43, u44, u45, u46], defers := [] } ∧
    P ≤ n ∧ Hid (recs B = (done ++ (recs (B.drop P)).1, P + (recs (B.drop P)).2)) ∧ Hid (RowsOwn w.heap.size w' ar m cr done) ∧ m * 8 ≤ P ∧ Hid (Ch (fun _ => False) w w')
def CutPost' (w : World) (B : List UInt8) (e : Ending) (w' : World) : Prop :=
  ∃ a' c', e = .returned (.tuple #[.slice a' (recs B).1.length c', .int .i64 (recs B).2]) ∧ RowsOwn w.heap.size w' a' (recs B).1.length c' (recs B).1 ∧ Ch (fun _ => False) w w'
set_option maxRecDepth 100000 in
set_option maxHeartbeats 4000000 in
theorem lcut_any (a : Option Addr) (n c : Nat) (B : List UInt8) (w : World) (h : Sl w 1 a n c (bv B)) (hn : n ≤ 100000) :
    Calls Try.prog 34 #[.slice a n c] w (CutPost' w B) := by
  have H := hid h
  have hL : B.length = n := by have := h.1; rw [bv_length] at this; omega
  have hnc := h.2.1
  have HL := hid hL
  clear h hL
  go_enter Try.func34, Try.ntmps34
  go_wp2
  refine wp_scope_again 0 (CutJ w a n c B) (fun a' _ => n - (intOf (a'.tmps.getD 3 undef)).toNat) rfl ?pass ?first
  case first =>
    intro PASS
    have HP := hid PASS
    clear PASS
    go_wp2
    refine wp_label ?_
    simp only [Exit.then]
    refine (show ∀ (a : Act) (w : World), Code.wp Try.prog _ _ a w → _ from by assumption) _ _ ?_
    exact HP.out _ _ ⟨0, _, _, _, [], undef, _, undef, undef, _, _, _, _, _, _, _, _, _, _, _, _, _, _, _, _, _, _, _, _, _, _, _, _, _, _, _, _, _, _, _, _, _, _, _, _, _, _, _, _, _, _, _, rfl, Nat.zero_le _, hid (by simp), hid (RowsOwn.nil _ _), by omega, hid (Ch.refl _ _)⟩
  case pass =>
    rintro a' wr ⟨P, ar, m, cr, done, u0, u1, u2, u3, u4, u5, u6, u7, u8, u9, u10, u11, u12, u13, u14, u15, u16, u17, u18, u19, u20, u21, u22, u23, u24, u25, u26, u27, u28, u29, u30, u31, u32, u33, u34, u35, u36, u37, u38, u39, u40, u41, u42, u43, u44, u45, u46, rfl, hP, HR, HO, hm, HC⟩
    have hnP : (B.drop P).length = n - P := by rw [List.length_drop, HL.out]
    have i1 : (0 : Int) ≤ P := by omega
    have i2 : (P : Int) ≤ c := by omega
    have i3 : (P : Int) ≤ n := by omega
    have i4 : (n : Int) ≤ c := by omega
    have hle : ¬ ((P : Int) > n) := by omega
    have hts : (P : Int).toNat = P := by omega
    have END : ¬ okRec (B.drop P) → Hid (∀ w5 a5 c5, RowsOwn w.heap.size w5 a5 m c5 done → Ch (fun _ => False) wr w5 → CutPost' w B (.returned (.tuple #[.slice a5 m c5, .int .i64 P])) w5) := by
      intro hno
      refine hid fun w5 a5 c5 ho hc => ?_
      have hr := HR.out
      rw [recs_no hno, List.append_nil] at hr
      have hm' : m = done.length := (by obtain ⟨_, h, _⟩ := ho; exact h)
      refine ⟨a5, c5, ?_, ?_, HC.out.f hc⟩
      · rw [hr]; simp [hm']
      · rw [hr, ← hm']; exact ho
    have HOX := HO
    have HCX := HC
    by_cases hcP : c = P
    · have ED := END (fun h => by have := h.1; rw [hnP] at this; omega)
      have hz : n = P := by omega
      subst hz
      clear END hnP
      go_wp2_with (go_at_call 48; refine (rclone_any w.heap.size ar m cr done _ HOX.out HCX.out.size (by omega)).mono ?_; rintro e w5 ⟨a5, c5, rfl, ho5, hc5⟩; have O5 := hid ho5; have C5 := hid hc5; clear ho5 hc5)
      simp only [Exit.jump]
      go_ret2
      exact ED.out _ _ _ O5.out C5.out
    · by_cases h8 : n - P < 8
      · have ED := END (fun h => by have := h.1; rw [hnP] at this; omega)
        clear END hnP
        cases a with
        | none => have := H.out.none_zero; omega
        | some b =>
          go_wp2_with (go_at_call 48; refine (rclone_any w.heap.size ar m cr done _ HOX.out HCX.out.size (by omega)).mono ?_; rintro e w5 ⟨a5, c5, rfl, ho5, hc5⟩; have O5 := hid ho5; have C5 := hid hc5; clear ho5 hc5)
          simp only [Exit.jump]
          go_ret2
          exact ED.out _ _ _ O5.out C5.out
      · obtain ⟨b, o, rfl⟩ := H.out.spot (by intro h; have := congrArg List.length h; rw [bv_length, HL.out] at this; simp at this; omega)
        have SR := hid (show Sl w 1 (some ⟨b, o + P, none⟩) (n - P) (c - P) (bv (B.drop P)) by
          have := Cd.Sl_drop H.out P hP
          rw [Option.map_some, add_eq, ← bv_drop] at this
          exact this)
        have S8 := hid (show Sl wr 1 (some ⟨b, o + P, none⟩) 8 (c - P) (bv ((B.drop P).take 8)) from (SR.out.front 8 (by omega) rfl).ch HC.out (fun _ _ => id))
        have L8 : ((B.drop P).take 8).length = 8 := by rw [List.length_take, hnP]; omega
        have NT := hid (num8_take (B.drop P))
        have LL8 := hid L8
        have j1 : (8 : Int) ≤ (c : Int) - P := by omega
        have j2 : (8 : Int) ≤ ((c - P : Nat) : Int) := by omega
        clear L8
        obtain ⟨v, hv⟩ : ∃ v, v = num8 (B.drop P) := ⟨_, rfl⟩
        rw [← hv] at NT
        have HV := hid hv
        by_cases hok : okRec (B.drop P)
        · obtain ⟨k, hk1, hk2, hk3, hk4⟩ := recs_step hok
          subst hv
          rw [hk1] at NT HV
          clear END hok hk1
          have K1 := hid hk4
          have k0 : ¬ ((k : Nat) : Int) < 0 := by omega
          have k1 : ¬ (16384 : Int) < (k : Nat) := by omega
          have k2 : ¬ ((n - P : Nat) : Int) - 8 < (k : Nat) := by omega
          have k3 : ¬ (n : Int) - P - 8 < (k : Nat) := by omega
          have hk5 : 8 + k ≤ n - P := by omega
          have HNX := hid (show recs B = (done ++ [((B.drop P).drop 8).take k] ++ (recs (B.drop (P + 8 + k))).1, P + 8 + k + (recs (B.drop (P + 8 + k))).2) by
            have h := HR.out
            have e : (B.drop P).drop (8 + k) = B.drop (P + 8 + k) := by rw [List.drop_drop, Nat.add_assoc]
            rw [hk4, e] at h
            rw [h]
            refine Prod.ext ?_ ?_
            · simp
            · simp only; omega)
          have hm1 : m + 1 ≤ maxLen := by unfold maxLen; omega
          have hm2 : (m + 1) * 24 ≤ 140737488355328 := by omega
          have lk : (((B.drop P).drop 8).take k).length = k := by rw [List.length_take, List.length_drop, hnP]; omega
          have LK := hid lk
          clear hk4 lk hnP hk2
          by_cases hc8 : c - P = 8
          · obtain rfl : k = 0 := by omega
            rw [hc8] at S8
            have SK := hid (fun w' : World => (show Sl w' 1 (some ⟨b, o + P, none⟩) 0 0 (bv (((B.drop P).drop 8).take 0)) from ⟨by simp [bv], Nat.le_refl _, by unfold maxLen; omega, fun _ => rfl, fun _ _ j u hu => by simp [bv] at hu⟩))
            go_wp2_with (first
                                        | (go_at_call 49; refine (Cd.new1_any (some ⟨b, o + P, none⟩) 8 8 ((B.drop P).take 8) wr S8.out (by omega)).mono ?_; rintro e w1 ⟨p, rfl, hr, hp, hc⟩; have R1 := hid hr; have C1 := hid hc; have PP := hid hp; clear hr hp hc)
                                        | (go_at_call 50; refine (Cd.rint_ok p ((B.drop P).take 8) w1 R1.out (by rw [LL8.out]; exact Nat.le_refl _)).mono ?_; rw [NT.out]; rintro e w2 ⟨rfl, hr, hc⟩; have CW := hid (C1.out.far1 hc PP.out); have HO2 := hid (HO.out.ch CW.out (fun _ _ => id)); have HC2 := hid (HC.out.f CW.out); clear hr hc)
                                        | (go_at_call 47; refine (clone_any _ _ _ _ _ (SK.out _) (bv_one _) (by omega)).mono ?_; rintro e w3 ⟨a6, c6, rfl, ho6, hc6⟩; have O6 := hid ho6; have C6 := hid hc6; clear ho6 hc6)
                                        | (at_builtin; obtain ⟨vs, hvs⟩ := HO2.out; have hv2 := hvs.2.1; refine wpList_app rfl _ _ _ _ rfl w.heap.size 22 1 24 _ et_sl ar m cr vs rfl (hv2.ch (C6.out.alloc _) (fun _ _ => id)) _ 1 [.slice a6 0 c6] rfl ((Sl.lit w3 #[.slice a6 0 c6] 22 (by simp [maxLen])).src Try.underlying25 (by intro u hu; cases hu with | head => rfl | tail _ h => cases h)) hm1 hm2 (by have := HC2.out.size; have := C6.out.size; simp; omega) ?_; intro a7 c7 w7 hO hS hC hN; have RW := hid (RowsV.put hvs HC2.out.size O6.out C6.out hO hC hN); have CN := hid ((HC2.out.f C6.out).alloc (.cells #[.slice a6 0 c6] 22)); have C7 := hid (CN.out.trans hC (fun i hi ⟨b', hb', he⟩ => by have := (hv2.block b' hb').1; omega)); clear hO hS hC hN hvs hv2))
            refine wp_goto ?_
            rw [show ((P : Int) + 8) = ((P + 8 : Nat) : Int) from by omega]
            refine ⟨by trivial, ⟨P + 8, a7, m + 1, c7, _, undef, _, undef, undef, _, _, _, _, _, _, _, _, _, _, _, _, _, _, _, _, _, _, _, _, _, _, _, _, _, _, _, _, _, _, _, _, _, _, _, _, _, _, _, _, _, _, _, rfl, by omega, HNX, RW, by omega, C7⟩, ?_⟩
            show n - (intOf (.int .i64 ((P + 8 : Nat) : Int))).toNat < n - (intOf (.int .i64 ((P : Nat) : Int))).toNat
            simp only [intOf]
            omega
          · have SK := hid (show Sl w 1 (some ⟨b, o + P + 8, none⟩) k (c - P - 8) (bv (((B.drop P).drop 8).take k)) by
              have h1 := Cd.Sl_drop SR.out 8 (by omega)
              rw [Option.map_some, add_eq, ← bv_drop] at h1
              exact h1.front k (by omega) rfl)
            have l1 : (8 : Int) ≤ 8 + (k : Nat) := by omega
            have l2 : (8 : Int) + (k : Nat) ≤ ((c - P : Nat) : Int) := by omega
            go_wp2_with (first
                                        | (go_at_call 49; refine (Cd.new1_any (some ⟨b, o + P, none⟩) 8 (c - P) ((B.drop P).take 8) wr S8.out (by omega)).mono ?_; rintro e w1 ⟨p, rfl, hr, hp, hc⟩; have R1 := hid hr; have C1 := hid hc; have PP := hid hp; clear hr hp hc)
                                        | (go_at_call 50; refine (Cd.rint_ok p ((B.drop P).take 8) w1 R1.out (by rw [LL8.out]; exact Nat.le_refl _)).mono ?_; rw [NT.out]; rintro e w2 ⟨rfl, hr, hc⟩; have CW := hid (C1.out.far1 hc PP.out); have HO2 := hid (HO.out.ch CW.out (fun _ _ => id)); have HC2 := hid (HC.out.f CW.out); clear hr hc)
                                        | (go_at_call 47; refine (clone_any _ _ _ _ _ (SK.out.ch (HC2.out) (fun _ _ => id)) (bv_one _) (by omega)).mono ?_; rintro e w3 ⟨a6, c6, rfl, ho6, hc6⟩; have O6 := hid ho6; have C6 := hid hc6; clear ho6 hc6)
                                        | (at_builtin; obtain ⟨vs, hvs⟩ := HO2.out; have hv2 := hvs.2.1; refine wpList_app rfl _ _ _ _ rfl w.heap.size 22 1 24 _ et_sl ar m cr vs rfl (hv2.ch (C6.out.alloc _) (fun _ _ => id)) _ 1 [.slice a6 k c6] rfl ((Sl.lit w3 #[.slice a6 k c6] 22 (by simp [maxLen])).src Try.underlying25 (by intro u hu; cases hu with | head => rfl | tail _ h => cases h)) hm1 hm2 (by have := HC2.out.size; have := C6.out.size; simp; omega) ?_; intro a7 c7 w7 hO hS hC hN; have RW := hid (RowsV.put hvs HC2.out.size O6.out C6.out hO hC hN); have CN := hid ((HC2.out.f C6.out).alloc (.cells #[.slice a6 k c6] 22)); have C7 := hid (CN.out.trans hC (fun i hi ⟨b', hb', he⟩ => by have := (hv2.block b' hb').1; omega)); clear hO hS hC hN hvs hv2))
            refine wp_goto ?_
            rw [show ((P : Int) + (8 + (k : Int))) = ((P + 8 + k : Nat) : Int) from by omega]
            refine ⟨by trivial, ⟨P + 8 + k, a7, m + 1, c7, _, undef, _, undef, undef, _, _, _, _, _, _, _, _, _, _, _, _, _, _, _, _, _, _, _, _, _, _, _, _, _, _, _, _, _, _, _, _, _, _, _, _, _, _, _, _, _, _, _, rfl, by omega, HNX, RW, by omega, C7⟩, ?_⟩
            show n - (intOf (.int .i64 ((P + 8 + k : Nat) : Int))).toNat < n - (intOf (.int .i64 ((P : Nat) : Int))).toNat
            simp only [intOf]
            omega
        · have ED := END hok
          have hbad : v < 0 ∨ 16384 < v ∨ ((n - P : Nat) : Int) - 8 < v := by
            rw [hv]
            unfold okRec at hok
            rw [hnP] at hok
            omega
          clear END hnP hok hv
          rcases hbad with hb1 | hb1 | hb1
          · go_wp2_with (first
                                        | (go_at_call 49; refine (Cd.new1_any (some ⟨b, o + P, none⟩) 8 (c - P) ((B.drop P).take 8) wr S8.out (by omega)).mono ?_; rintro e w1 ⟨p, rfl, hr, hp, hc⟩; have R1 := hid hr; have C1 := hid hc; have PP := hid hp; clear hr hp hc)
                                        | (go_at_call 50; refine (Cd.rint_ok p ((B.drop P).take 8) w1 R1.out (by rw [LL8.out]; exact Nat.le_refl _)).mono ?_; rw [NT.out]; rintro e w2 ⟨rfl, hr, hc⟩; have CW := hid (C1.out.far1 hc PP.out); have HO2 := hid (HO.out.ch CW.out (fun _ _ => id)); have HC2 := hid (HC.out.f CW.out); clear hr hc)
                                        | (go_at_call 48; refine (rclone_any w.heap.size ar m cr done _ HO2.out HC2.out.size (by omega)).mono ?_; rintro e w5 ⟨a5, c5, rfl, ho5, hc5⟩; have O5 := hid ho5; have C5 := hid (CW.out.f hc5); clear ho5 hc5))
            simp only [Exit.jump]
            go_ret2
            exact ED.out _ _ _ O5.out C5.out
          · have hb2 : ¬ v < 0 := by omega
            go_wp2_with (first
                                        | (go_at_call 49; refine (Cd.new1_any (some ⟨b, o + P, none⟩) 8 (c - P) ((B.drop P).take 8) wr S8.out (by omega)).mono ?_; rintro e w1 ⟨p, rfl, hr, hp, hc⟩; have R1 := hid hr; have C1 := hid hc; have PP := hid hp; clear hr hp hc)
                                        | (go_at_call 50; refine (Cd.rint_ok p ((B.drop P).take 8) w1 R1.out (by rw [LL8.out]; exact Nat.le_refl _)).mono ?_; rw [NT.out]; rintro e w2 ⟨rfl, hr, hc⟩; have CW := hid (C1.out.far1 hc PP.out); have HO2 := hid (HO.out.ch CW.out (fun _ _ => id)); have HC2 := hid (HC.out.f CW.out); clear hr hc)
                                        | (go_at_call 48; refine (rclone_any w.heap.size ar m cr done _ HO2.out HC2.out.size (by omega)).mono ?_; rintro e w5 ⟨a5, c5, rfl, ho5, hc5⟩; have O5 := hid ho5; have C5 := hid (CW.out.f hc5); clear ho5 hc5))
            simp only [Exit.jump]
            go_ret2
            exact ED.out _ _ _ O5.out C5.out
          · by_cases hb2 : v < 0
            · exact absurd hb2 (by omega)
            · by_cases hb3 : 16384 < v
              · go_wp2_with (first
                                        | (go_at_call 49; refine (Cd.new1_any (some ⟨b, o + P, none⟩) 8 (c - P) ((B.drop P).take 8) wr S8.out (by omega)).mono ?_; rintro e w1 ⟨p, rfl, hr, hp, hc⟩; have R1 := hid hr; have C1 := hid hc; have PP := hid hp; clear hr hp hc)
                                        | (go_at_call 50; refine (Cd.rint_ok p ((B.drop P).take 8) w1 R1.out (by rw [LL8.out]; exact Nat.le_refl _)).mono ?_; rw [NT.out]; rintro e w2 ⟨rfl, hr, hc⟩; have CW := hid (C1.out.far1 hc PP.out); have HO2 := hid (HO.out.ch CW.out (fun _ _ => id)); have HC2 := hid (HC.out.f CW.out); clear hr hc)
                                        | (go_at_call 48; refine (rclone_any w.heap.size ar m cr done _ HO2.out HC2.out.size (by omega)).mono ?_; rintro e w5 ⟨a5, c5, rfl, ho5, hc5⟩; have O5 := hid ho5; have C5 := hid (CW.out.f hc5); clear ho5 hc5))
                simp only [Exit.jump]
                go_ret2
                exact ED.out _ _ _ O5.out C5.out
              · go_wp2_with (first
                                        | (go_at_call 49; refine (Cd.new1_any (some ⟨b, o + P, none⟩) 8 (c - P) ((B.drop P).take 8) wr S8.out (by omega)).mono ?_; rintro e w1 ⟨p, rfl, hr, hp, hc⟩; have R1 := hid hr; have C1 := hid hc; have PP := hid hp; clear hr hp hc)
                                        | (go_at_call 50; refine (Cd.rint_ok p ((B.drop P).take 8) w1 R1.out (by rw [LL8.out]; exact Nat.le_refl _)).mono ?_; rw [NT.out]; rintro e w2 ⟨rfl, hr, hc⟩; have CW := hid (C1.out.far1 hc PP.out); have HO2 := hid (HO.out.ch CW.out (fun _ _ => id)); have HC2 := hid (HC.out.f CW.out); clear hr hc)
                                        | (go_at_call 48; refine (rclone_any w.heap.size ar m cr done _ HO2.out HC2.out.size (by omega)).mono ?_; rintro e w5 ⟨a5, c5, rfl, ho5, hc5⟩; have O5 := hid ho5; have C5 := hid (CW.out.f hc5); clear ho5 hc5))
                simp only [Exit.jump]
                go_ret2
                exact ED.out _ _ _ O5.out C5.out
end Go.Proofs.Ytfhbbmaimaabnaa

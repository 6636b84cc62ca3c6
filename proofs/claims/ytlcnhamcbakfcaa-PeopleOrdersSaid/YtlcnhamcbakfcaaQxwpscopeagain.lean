/- Contracts of Go functions: each call answers what the Lean function of its name answers. Conditions: stand in each theorem. Written by this seat's own program over the kit's printer. -/
import Derived.Test.YtlcnhamcbakfcaaQ0
import Derived.ScopeJumps
import Derived.WalkMore
import Derived.Lib.AppendZeros
namespace Go.Proofs.Ytlcnhamcbakfcaa.Q
open Go.RowKit Go.Proofs.YtlcnhamcbakfcaaW.PrintWords Go.Proofs.YtlcnhamcbakfcaaW.PrintLast Go.Proofs.YtlcnhamcbakfcaaW.PrintMore
attribute [local go_sem] max2_int min2_int max_two min_two max_three min_three max_four min_four   -- for this text's walks alone
set_option linter.unusedVariables false
set_option linter.unusedSimpArgs false

-- IMPORT Derived.ScopeJumps
-- IMPORT Derived.WalkMore
/-! ### A scope with one label, jumped back to -/
theorem wp_scope_again {P : Program} {a : Act} {w : World} {Q : Exit → Act → World → Prop} {c body : Code} (l : Nat) (J : Act → World → Prop) (μ : Act → World → Nat) (hf : findLabel c l = some (Code.skip.seq body))
    (pass : ∀ a w, J a w → body.wp P (Exit.jump l (fun a' w' => J a' w' ∧ μ a' w' < μ a w) Q) a w)
    (first : (∀ a w, J a w → body.wp P (Exit.jump l J Q) a w) → c.wp P (Exit.jump l J Q) a w) : (Code.scope c).wp P Q a w :=
  wp_scope_jumps l J μ hf (first (fun a w h => wp_mono (pass a w h) (fun e a w hq => by cases e <;> first | exact hq | exact ⟨hq.1, hq.2.1⟩))) (fun a w h => wp_seq (wp_skip (pass a w h)))

/-! ### Rows of users in memory, cell by cell (10) -/
open Go.OpM Go.Cx Go.F64
def encU (x : S29) : List Value := [.int .i64 x.f0, .int .i64 x.f1]
def encsU (l : List S29) : List Value := l.flatMap encU
theorem encsU_len (l : List S29) : (encsU l).length = l.length * 2 := by
  induction l with
  | nil => rfl
  | cons c l ih => simp only [encsU, List.flatMap_cons, List.length_append, List.length_cons] at *; rw [ih]; simp [encU]; omega
theorem encsU_at (l : List S29) : ∀ (j : Nat) (p : S29), l[j]? = some p → ((encsU l).drop (j * 2)).take 2 = encU p := by
  induction l with
  | nil => intro j p h; simp at h
  | cons c l ih =>
    intro j p h
    cases j with
    | zero => simp at h; subst h; simp [encsU, encU]
    | succ j =>
      have := ih j p (by simpa using h)
      have e : (encsU (c :: l)).drop ((j + 1) * 2) = (encsU l).drop (j * 2) := by
        simp only [encsU, List.flatMap_cons]
        have : (j + 1) * 2 = (encU c).length + j * 2 := by simp [encU]; omega
        rw [this, List.drop_append]
        simp
      rw [e, this]
theorem encsU_get (l : List S29) (i : Nat) (u : Value) (h : (encsU l)[i]? = some u) : ∃ p, l[i / 2]? = some p ∧ (encU p)[i % 2]? = some u := by
  have hi : i < l.length * 2 := by rw [← encsU_len]; exact (List.getElem?_eq_some_iff.1 h).1
  have hj : i / 2 < l.length := by omega
  refine ⟨l[i / 2], List.getElem?_eq_getElem hj, ?_⟩
  rw [← encsU_at l (i / 2) _ (List.getElem?_eq_getElem hj), List.getElem?_take, if_pos (by omega), List.getElem?_drop]
  rw [show i / 2 * 2 + i % 2 = i by omega]; exact h
theorem encsU_one (l : List S29) : ∀ u ∈ encsU l, u.oneCell' = true := by
  intro u hu
  obtain ⟨p, _, hp⟩ := List.mem_flatMap.1 hu
  simp only [encU, List.mem_cons, List.not_mem_nil, or_false] at hp
  rcases hp with rfl | rfl <;> rfl
/-- What is read lies there cell by cell. -/
theorem cellsU {w : World} {A : Option Addr} {l : List S29} (h : Kd.C k29 w A l.length l) : ∀ b, A = some b → ∀ j u, (encsU l)[j]? = some u → w.cell? (b.add j) = some u := by
  rintro b rfl j u hu
  obtain ⟨p, hp, hu2⟩ := encsU_get l j u hu
  have hl : 0 < l.length := by have := (List.getElem?_eq_some_iff.1 hp).1; omega
  obtain ⟨ad, e, hc⟩ := h.2.2 hl
  cases e
  obtain ⟨c, _, hK, hcell⟩ := hc _ _ hp
  obtain rfl := k29_open hK
  have := hcell (j % 2) u hu2
  have e3 : j / 2 * (k29).sz + j % 2 = j := by show j / 2 * 2 + j % 2 = j; omega
  rwa [e3] at this
theorem cellsU_none {w : World} {l : List S29} (h : Kd.C k29 w none l.length l) : l = [] := by
  rcases Nat.eq_zero_or_pos l.length with h0 | h0
  · exact List.eq_nil_of_length_eq_zero h0
  · obtain ⟨ad, e, _⟩ := h.2.2 h0
    cases e
/-- What is owned cell by cell is a row of operations' parts. -/
theorem ownU {w : World} {base : Nat} {a : Option Addr} {n c : Nat} {l : List S29} (hn : n = l.length) (h : Own w base 29 2 a n c (encsU l)) : Kd.R k29 29 w base (fun _ => True) (.slice a n c) l := by
  subst hn
  refine ⟨fun _ _ => trivial, encsU l, h, encsU_len l, fun j p hp => ?_⟩
  have : ((encsU l).drop (j * (k29).sz)).take (k29).sz = encU p := encsU_at l j p hp
  rw [this]
  exact k29_mkM _ _ _ p
theorem et_addr : ElemT Try.prog 24 29 2 16 (.agg #[.int .i64 0, .int .i64 0]) := ElemT.mk' Try.underlying24 (by kernel_rfl) rfl (by decide)
theorem encsU_app (a b : List S29) : encsU (a ++ b) = encsU a ++ encsU b := by simp [encsU]
theorem srcU {w : World} {A : Option Addr} {l : List S29} {c : Nat} (h : Kd.C k29 w A l.length l) : Src Try.prog 2 24 (.slice A l.length c) l.length (encsU l) w := by
  cases A with
  | none => have := cellsU_none h; subst this; exact Src.ofNil _ Try.underlying24 c
  | some b => exact Src.ofSlice _ Try.underlying24 b _ c (encsU l) (encsU_len l) (cellsU h b rfl) (encsU_one l)
/-! ### Users in their order -/
abbrev U := S29
def ult (a b : U) : Prop := a.f0 < b.f0 ∨ a.f0 = b.f0 ∧ a.f1 < b.f1
instance (a b : U) : Decidable (ult a b) := by unfold ult; infer_instance
theorem u_eq {a b : U} : a = b ↔ a.f0 = b.f0 ∧ a.f1 = b.f1 := by
  obtain ⟨a0, a1⟩ := a
  obtain ⟨b0, b1⟩ := b
  simp
/-- The place of a user, and whether it is there. -/
def fnd : List U → U → Nat × Bool
  | [], _ => (0, false)
  | b :: l, a => if ult a b then (0, false) else if b.f0 = a.f0 ∧ b.f1 = a.f1 then (0, true) else ((fnd l a).1 + 1, (fnd l a).2)
def insU (l : List U) (a : U) : List U := l.take (fnd l a).1 ++ a :: l.drop (fnd l a).1
def SortU (l : List U) : Prop := l.Pairwise ult
theorem ult_trans {a b c : U} (h : ult a b) (k : ult b c) : ult a c := by unfold ult at *; omega
theorem ult_tot {a b : U} (h : ¬ ult a b) (k : ¬ (b.f0 = a.f0 ∧ b.f1 = a.f1)) : ult b a := by unfold ult at *; omega
theorem ult_irr (a : U) : ¬ ult a a := by unfold ult; omega
theorem fnd_le (l : List U) (a : U) : (fnd l a).1 ≤ l.length := by
  induction l with
  | nil => simp [fnd]
  | cons b l ih => simp only [fnd]; split; simp; split; simp; simp; omega
theorem fnd_mem (l : List U) (a : U) (h : SortU l) : (fnd l a).2 = true ↔ a ∈ l := by
  induction l with
  | nil => simp [fnd]
  | cons b l ih =>
    have hs := List.pairwise_cons.1 h
    have ih := ih hs.2
    simp only [fnd]
    by_cases h1 : ult a b
    · rw [if_pos h1]
      simp only [Bool.false_eq_true, List.mem_cons, false_iff, not_or]
      refine ⟨fun e => ult_irr b (e ▸ h1), fun hm => ?_⟩
      exact ult_irr a (ult_trans h1 (hs.1 a hm))
    · rw [if_neg h1]
      by_cases h2 : b.f0 = a.f0 ∧ b.f1 = a.f1
      · rw [if_pos h2]
        have : b = a := u_eq.2 h2
        simp [this]
      · rw [if_neg h2]
        simp only [List.mem_cons, ih]
        constructor
        · exact .inr
        · rintro (e | e)
          · exact absurd (u_eq.1 e.symm) h2
          · exact e
theorem insU_mem (l : List U) (a x : U) : x ∈ insU l a ↔ x = a ∨ x ∈ l := by
  unfold insU
  have : x ∈ l ↔ x ∈ l.take (fnd l a).1 ∨ x ∈ l.drop (fnd l a).1 := by rw [← List.mem_append, List.take_append_drop]
  rw [this, List.mem_append, List.mem_cons]
  constructor <;> intro h <;> (rcases h with h | h | h <;> simp [h])
theorem insU_cons (b : U) (l : List U) (a : U) : insU (b :: l) a = if ult a b then a :: b :: l else if b.f0 = a.f0 ∧ b.f1 = a.f1 then a :: b :: l else b :: insU l a := by
  unfold insU
  simp only [fnd]
  split
  · simp
  · split
    · simp
    · simp
theorem insU_sort (l : List U) (a : U) (h : SortU l) (hn : a ∉ l) : SortU (insU l a) := by
  induction l with
  | nil => simp [insU, SortU]
  | cons b l ih =>
    have hs := List.pairwise_cons.1 h
    simp only [List.mem_cons, not_or] at hn
    have ih := ih hs.2 hn.2
    rw [insU_cons]
    by_cases h1 : ult a b
    · rw [if_pos h1]
      refine List.pairwise_cons.2 ⟨fun x hx => ?_, h⟩
      rcases List.mem_cons.1 hx with rfl | hx
      · exact h1
      · exact ult_trans h1 (hs.1 x hx)
    · rw [if_neg h1]
      by_cases h2 : b.f0 = a.f0 ∧ b.f1 = a.f1
      · exact absurd (u_eq.2 h2).symm hn.1
      · rw [if_neg h2]
        refine List.pairwise_cons.2 ⟨fun x hx => ?_, ih⟩
        rcases (insU_mem l a x).1 hx with rfl | hx
        · exact ult_tot h1 h2
        · exact hs.1 x hx
theorem sortU_eq {a b : List U} (ha : SortU a) (hb : SortU b) (h : ∀ x, x ∈ a ↔ x ∈ b) : a = b := by
  induction a generalizing b with
  | nil =>
    cases b with
    | nil => rfl
    | cons y b => have := (h y).2 (by simp); simp at this
  | cons x a ih =>
    cases b with
    | nil => have := (h x).1 (by simp); simp at this
    | cons y b =>
      have hx := List.pairwise_cons.1 ha
      have hy := List.pairwise_cons.1 hb
      have e : x = y := by
        rcases List.mem_cons.1 ((h x).1 (by simp)) with e | e
        · exact e
        · rcases List.mem_cons.1 ((h y).2 (by simp)) with e2 | e2
          · exact e2.symm
          · exact absurd (ult_trans (hx.1 y e2) (hy.1 x e)) (ult_irr x)
      subst e
      congr 1
      refine ih hx.2 hy.2 fun z => ?_
      constructor
      · intro hz
        rcases List.mem_cons.1 ((h z).1 (List.mem_cons_of_mem _ hz)) with e | e
        · subst e; exact absurd (hx.1 z hz) (ult_irr z)
        · exact e
      · intro hz
        rcases List.mem_cons.1 ((h z).2 (List.mem_cons_of_mem _ hz)) with e | e
        · subst e; exact absurd (hy.1 z hz) (ult_irr z)
        · exact e

/-! ### slices.Grow of nil, for users (10) -/
-- IMPORT Derived.Lib.AppendZeros
def Made0U (w : World) (e : TypeId) (en : Ending) (w' : World) : Prop :=
  ∃ a' c', en = .returned (.slice a' 0 c') ∧ Own w' w.heap.size e 2 a' 0 c' [] ∧ Ch (fun _ => False) w w'
set_option maxRecDepth 100000 in
set_option maxHeartbeats 400000 in
theorem growU_nil (n : Nat) (w : World) (hn : n ≤ 1000000) :
    Calls Try.prog 14 #[.slice none 0 0, .int .i64 n] w (Made0U w 29) := by
  by_cases h0 : n = 0
  · subst h0
    go_enter Try.func14, Try.ntmps14
    go_wp2
    go_ret
    exact ⟨_, _, rfl, Own.nil _ _ _ _, Ch.refl _ _⟩
  · have hd1 : (decide ((n : Int) < 0)) = false := decide_eq_false (by omega)
    have hd2 : (decide ((n : Int) > 0)) = true := decide_eq_true (by omega)
    have hp : 0 < n := by omega
    have hp2 : (0 : Int) ≤ n := by omega
    have hw : IntKind.i64.wrap (n : Int) = n := by rw [IntKind.wrap_i64]; omega
    obtain ⟨G, hG⟩ : ∃ G, G = grownCap w n 0 29 := ⟨_, rfl⟩
    have hG1 : G ≤ maxLen := by rw [hG]; exact grownCap_le_maxLen _ _ _ _ (by unfold maxLen; omega)
    have hG2 : n ≤ G := by rw [hG]; exact grownCap_ge _ _ _ _
    have hG3 : (0 : Int) ≤ G := by omega
    have hr := fun ty => Lib.run_append_nil_zeros (P := Try.prog) w 24 3 ty 29 _ _ .i64 .i64 Try.underlying24 Try.underlying3 rfl rfl n (by omega) (by decide) (by omega) (by show n * 16 ≤ _; omega)
    rw [← hG] at hr
    have HR := Go.Cx.hid hr
    clear hr
    have H0 := Go.Cx.hid h0
    have HG := Go.Cx.hid hG
    clear h0 hG
    go_enter Try.func14, Try.ntmps14
    go_wp2_with (at_builtin; refine Lib.wpList_append_run w rfl _ _ _ _ rfl _ _ rfl rfl _ _ (HR.out _) ?_)
    go_ret
    exact ⟨_, _, rfl, World.ownsRow_made w.drew _ G (Nat.le_refl _) hG1 (by simp only [Array.size_append, size_zeroCells]; show n * 2 + (G - n) * 2 = G * 2; omega), (Ch.refl _ w).drew.alloc _⟩
theorem flatU_take {ll : List (List S29)} {i : Nat} {l : List S29} (h : ll[i]? = some l) : (ll.take (i + 1)).flatten = (ll.take i).flatten ++ l := by
  rw [List.take_add_one, h]; simp
theorem flatU_le (ll : List (List S29)) (i : Nat) : (ll.take i).flatten.length ≤ ll.flatten.length := by
  have h := List.take_append_drop i ll
  calc (ll.take i).flatten.length ≤ ((ll.take i).flatten ++ (ll.drop i).flatten).length := by simp
    _ = ll.flatten.length := by rw [← List.flatten_append, h]
/-- A row among rows that are read. -/
theorem sliceU_at {w : World} {A : Option Addr} {n : Nat} {ll : List (List S29)} (h : Kd.C (Kd.slice 29 k29) w A n ll) {i : Nat} {l : List S29} (hl : ll[i]? = some l) :
    ∃ b A' c', A = some b ∧ w.cell? (b.add i) = some (.slice A' l.length c') ∧ l.length ≤ c' ∧ Kd.C k29 w A' l.length l := by
  have hi : i < ll.length := (List.getElem?_eq_some_iff.1 hl).1
  obtain ⟨ad, e, hc⟩ := h.2.2 (by rw [← h.1]; omega)
  obtain ⟨c, h1, h2, h3⟩ := hc i l hl
  obtain ⟨A', c', rfl, h4, h5⟩ := h2
  have := h3 0 _ rfl
  have e2 : i * (Kd.slice 29 k29).sz + 0 = i := by show i * 1 + 0 = i; omega
  rw [e2] at this
  exact ⟨ad, A', c', e, this, h4, h5⟩
/-- slices.Concat of users. -/
def ConcU (w : World) (r : List S29) (e : Ending) (w' : World) : Prop := ∃ a c, e = .returned (.slice a r.length c) ∧ Own w' w.heap.size 29 2 a r.length c (encsU r) ∧ Ch (fun _ => False) w w'
set_option maxRecDepth 100000 in
set_option maxHeartbeats 1000000 in
theorem concatU (a : Option Addr) (c : Nat) (ll : List (List S29)) (n : Nat) (hnl : n = ll.length) (w : World) (h : Kd.C (Kd.slice 29 k29) w a n ll) (hn : n ≤ 1000) (hb : ll.flatten.length ≤ 1000000) :
    Calls Try.prog 13 #[.slice a n c] w (ConcU w ll.flatten) := by
  have H := Go.Cx.hid h
  have HL := Go.Cx.hid hnl
  have HT := Go.Cx.hid (flatU_le ll)
  clear h hnl
  go_enter Try.func13, Try.ntmps13
  go_wp2
  go_loopw [3, 5, 11] (fun vs v5 vi wr => ∃ i : Nat, i ≤ n ∧ vi = .int .i64 i ∧ vs = .int .i64 ((ll.take i).flatten.length : Nat) ∧ w = wr) (fun _ _ vi _ => n - (intOf vi).toNat)
  case atStart => exact ⟨0, by omega, rfl, rfl, rfl⟩
  case round =>
    obtain ⟨i, hi, rfl, rfl, rfl⟩ := hrel
    by_cases hlt : i < n
    · obtain ⟨l, hl⟩ : ∃ l, ll[i]? = some l := ⟨_, List.getElem?_eq_getElem (by rw [← HL.out]; exact hlt)⟩
      obtain ⟨b, a', c', e, hcell, hlc, hsl⟩ := sliceU_at H.out hl
      subst e
      have e1 := congrArg List.length (flatU_take hl)
      rw [List.length_append] at e1
      have e2 := HT.out (i + 1)
      rw [e1] at e2
      have E1 := Go.Cx.hid e1
      obtain ⟨s, hs⟩ : ∃ s, s = (ll.take i).flatten.length := ⟨_, rfl⟩
      rw [← hs] at e2 ⊢
      have HS := Go.Cx.hid hs
      have hd : (decide ((s : Int) + (l.length : Int) < 0)) = false := decide_eq_false (by omega)
      have hw : IntKind.i64.wrap ((s : Int) + (l.length : Int)) = (s : Int) + (l.length : Int) := by rw [IntKind.wrap_i64]; omega
      clear hl hsl e1 hs hlc
      go_wp2
      go_roundw
      case rel => exact ⟨i + 1, by omega, by go_num, by rw [E1.out, ← HS.out]; rfl, trivial⟩
      case measure => simp [intOf]; omega
    · have hin : i = n := by omega
      subst hin
      have hall : ll.take i = ll := List.take_of_length_le (by rw [HL.out]; omega)
      rw [hall]
      obtain ⟨T, hT⟩ : ∃ T, T = ll.flatten.length := ⟨_, rfl⟩
      rw [← hT] at hb ⊢
      have HT1 := Go.Cx.hid hT
      have HA := Go.Cx.hid hall
      clear hT hall
      go_wp2_with (go_at_call 14; refine (growU_nil T _ (by omega)).mono ?_; rintro e w1 ⟨a1, c1, rfl, ho1, hc1⟩; have O1 := Go.Cx.hid ho1; have C1 := Go.Cx.hid hc1; clear ho1 hc1)
      go_loopw [6, 8, 27] (fun vs v5 vi wr2 => ∃ (k m : Nat) (a2 : Option Addr) (c2 : Nat), k ≤ i ∧ vi = .int .i64 k ∧ vs = .slice a2 m c2 ∧ m = (ll.take k).flatten.length ∧ Own wr2 w.heap.size 29 2 a2 m c2 (encsU (ll.take k).flatten) ∧ Ch (fun _ => False) w wr2) (fun _ _ vi _ => i - (intOf vi).toNat)
      case atStart => exact ⟨0, 0, a1, c1, by omega, rfl, rfl, rfl, O1.out, C1.out⟩
      case round =>
        obtain ⟨k, m, a2, c2, hk, rfl, rfl, hm, ho2, hc2⟩ := hrel
        have O2 := Go.Cx.hid ho2
        have C2 := Go.Cx.hid hc2
        have M := Go.Cx.hid hm
        have hm2 := HT.out k
        rw [← hm, ← HT1.out] at hm2
        clear ho2 hc2 hm O1 C1
        by_cases hlt : k < i
        · obtain ⟨l, hl⟩ : ∃ l, ll[k]? = some l := ⟨_, List.getElem?_eq_getElem (by rw [← HL.out]; exact hlt)⟩
          have e1 := flatU_take hl
          have E1 := Go.Cx.hid e1
          have e2 := HT.out (k + 1)
          rw [e1, List.length_append, ← M.out, ← HT1.out] at e2
          obtain ⟨b, a', c', e, hcell, hlc, hsl⟩ := sliceU_at (Kd.C_below H.out C2.out.below0) hl
          subst e
          have SL := Go.Cx.hid hsl
          clear hl hsl e1 hlc
          go_wp2_with (at_builtin; refine wpList_app rfl _ _ _ _ rfl w.heap.size 29 2 16 _ et_addr _ m _ _ rfl O2.out _ l.length _ rfl (srcU SL.out) (by unfold maxLen; omega) (by omega) (by have := C2.out.size; omega) ?_; intro a3 c3 w3 hO hS hC hN; rw [← encsU_app, ← E1.out] at hO; have HO := Go.Cx.hid hO; have HC := Go.Cx.hid hC; clear hO hS hC hN)
          go_roundw
          case rel => exact ⟨k + 1, m + l.length, a3, c3, by omega, by go_num, rfl, by rw [E1.out, List.length_append, M.out], HO.out, C2.out.app_own O2.out (Nat.le_refl _) HC.out⟩
          case measure => simp [intOf]; omega
        · have hki : k = i := by omega
          subst hki
          rw [HA.out] at O2 M
          go_wp2
          go_ret
          have hM := M.out
          have hO := O2.out
          subst hM
          exact ⟨a2, c2, rfl, hO, C2.out⟩
theorem litsU {w : World} {t : Nat} (cs : List Value) (xs : List (List S29)) (hn : xs.length ≤ 1000) (h : ∀ (j : Nat) p, xs[j]? = some p → ∃ A c, cs[j]? = some (.slice A p.length c) ∧ p.length ≤ c ∧ Kd.C k29 w A p.length p) : Kd.C (Kd.slice 29 k29) (w.alloc (.cells cs.toArray t)) (some ⟨w.heap.size, 0, none⟩) xs.length xs := by
  refine ⟨rfl, by omega, fun _ => ⟨_, rfl, fun j p hj => ?_⟩⟩
  obtain ⟨A, c, h1, h2, h3⟩ := h j p hj
  refine ⟨[.slice A p.length c], rfl, ⟨A, c, rfl, h2, Kd.C_alloc h3 _⟩, fun i u hu => ?_⟩
  cases i with
  | zero =>
    simp only [List.getElem?_cons_zero, Option.some.injEq] at hu
    rw [← hu, add_eq, cell_blk (alloc_blk_new (w := w) (.cells cs.toArray t) rfl)]
    simpa [Kd.slice] using h1
  | succ i => simp at hu
theorem oneU (w : World) (a b : Int) : Kd.C k29 (w.alloc (.cells #[.int .i64 a, .int .i64 b] 29)) (some ⟨w.heap.size, 0, none⟩) 1 [⟨a, b⟩] :=
  ⟨rfl, by omega, fun _ => ⟨_, rfl, fun j p hj => by
    cases j with
    | zero =>
      simp only [List.getElem?_cons_zero, Option.some.injEq] at hj
      subst hj
      refine ⟨encU ⟨a, b⟩, rfl, (k29).K_of_M (base := 0) (ok := fun _ => True) (k29_mkM _ 0 (fun _ => True) ⟨a, b⟩), fun i u hu => ?_⟩
      rw [add_eq, cell_blk (alloc_blk_new (w := w) _ rfl)]
      simpa [encU, Nat.zero_mul] using hu
    | succ j => simp at hj⟩⟩
/-- What Concat is given by Add. -/
theorem givenU {w : World} {A A' : Option Addr} {c c' k : Nat} {l : List S29} (a b : Int) (T : Nat) (h : Kd.C k29 w A l.length l) (hc : l.length ≤ c) (hk : k ≤ l.length) (hA : A' = if c = k then A else A.map (·.add (k * 2))) (hc' : c' = c - k) :
    Kd.C (Kd.slice 29 k29) ((w.alloc (.cells #[.int .i64 a, .int .i64 b] 29)).alloc (.cells #[.slice A k c, .slice (some ⟨w.heap.size, 0, none⟩) 1 1, .slice A' (l.length - k) c'] T)) (some ⟨(w.alloc (.cells #[.int .i64 a, .int .i64 b] 29)).heap.size, 0, none⟩) 3 [l.take k, [⟨a, b⟩], l.drop k] := by
  subst hA hc'
  have h1 := Kd.C_alloc (Kd.C_take h hk) (.cells #[.int .i64 a, .int .i64 b] 29)
  have h2 := Kd.C_alloc (Kd.C_drop h hk hc) (.cells #[.int .i64 a, .int .i64 b] 29)
  have l1 : (l.take k).length = k := by rw [List.length_take]; omega
  have l2 : (l.drop k).length = l.length - k := by rw [List.length_drop]
  refine litsU [.slice A k c, .slice (some ⟨w.heap.size, 0, none⟩) 1 1, .slice (if c = k then A else A.map (·.add (k * 2))) (l.length - k) (c - k)] [l.take k, [⟨a, b⟩], l.drop k] (by simp) ?_
  intro j p hj
  match j, hj with
  | 0, hj =>
    simp only [List.getElem?_cons_zero, Option.some.injEq] at hj
    subst hj
    exact ⟨A, c, by rw [l1]; rfl, by omega, h1⟩
  | 1, hj =>
    simp only [List.getElem?_cons_succ, List.getElem?_cons_zero, Option.some.injEq] at hj
    subst hj
    exact ⟨_, 1, rfl, Nat.le_refl _, oneU w a b⟩
  | 2, hj =>
    simp only [List.getElem?_cons_succ, List.getElem?_cons_zero, Option.some.injEq] at hj
    subst hj
    exact ⟨_, _, by rw [l2]; rfl, by omega, h2⟩

end Go.Proofs.Ytlcnhamcbakfcaa.Q

/- Contracts of Go functions: each call answers what the Lean function of its name answers. Conditions: stand in each theorem. Written by this seat's own program over the kit's printer. -/
import Derived.Test.YtpcgamgjgfdpaaaQ0
import Derived.ScopeJumps
import Derived.WalkMore
namespace Go.Proofs.Ytpcgamgjgfdpaaa.Q
open Go.RowKit Go.Proofs.YtpcgamgjgfdpaaaW.PrintWords Go.Proofs.YtpcgamgjgfdpaaaW.PrintLast Go.Proofs.YtpcgamgjgfdpaaaW.PrintMore
attribute [local go_sem] max2_int min2_int max_two min_two max_three min_three max_four min_four   -- for this text's walks alone
set_option linter.unusedVariables false
set_option linter.unusedSimpArgs false

/-! ### Parts as the plain texts have them -/
open Go.OpM Go.Cx Go.F64
def cm (x : S34) : Cm := ⟨x.f0, x.f1, x.f2.data.toList⟩
def sc (c : Cm) : S34 := ⟨c.k, c.n, ⟨c.s.toArray⟩⟩
theorem cm_sc (c : Cm) : cm (sc c) = c := by simp [cm, sc]
theorem sc_cm (x : S34) : sc (cm x) = x := by
  obtain ⟨a, b, c⟩ := x
  cases c
  simp [cm, sc]
def cms (l : List S34) : List Cm := l.map cm
def scs (l : List Cm) : List S34 := l.map sc
@[simp] theorem cms_scs (l : List Cm) : cms (scs l) = l := by
  unfold cms scs
  rw [List.map_map]
  exact (List.map_congr_left fun c _ => cm_sc c).trans (List.map_id _)
@[simp] theorem scs_cms (l : List S34) : scs (cms l) = l := by
  unfold cms scs
  rw [List.map_map]
  exact (List.map_congr_left fun c _ => sc_cm c).trans (List.map_id _)
/-- Valid, and of a size that all counters bear. -/
def good (l : List Cm) : Bool := decide (∀ c ∈ l, c.ok) && decide (inC l + outC l ≤ 100000)
theorem good_iff {l : List Cm} : good l = true ↔ Vl l ∧ inC l + outC l ≤ 100000 := by
  unfold good Vl
  rw [Bool.and_eq_true, decide_eq_true_iff, decide_eq_true_iff]
theorem emp_ne (l : List UInt8) : (!l.isEmpty) = (l != []) := by cases l <;> rfl
theorem ext_size (s : ByteArray) (j : Int) (h : j ≤ s.size) : ((s.extract 0 j.toNat).size : Int) = max j 0 := by
  rw [ByteArray.size_extract]; omega
theorem oda {p : Prop} [Decidable p] (h : decide p = true := by first | (with_reducible assumption) | assumption) : p := of_decide_eq_true h
theorem at_len0 (x : List A) : x.length ≤ ins x + outs x := by
  induction x with
  | nil => simp
  | cons a x ih => cases a <;> simp [ins, outs] <;> omega
theorem vl_len0 {l : List Cm} (h : Vl l) : l.length ≤ (at_ l).length := by
  induction l with
  | nil => simp
  | cons c l ih =>
    have := ih h.tail
    rcases Cm.cases h.head with ⟨n, hn, rfl⟩ | ⟨s, hs, rfl⟩ | ⟨n, hn, rfl⟩
    · simp [keeps]; omega
    · have := List.length_pos_iff.2 hs; simp [puts]; omega
    · simp [cuts]; omega

/-! ### Operations in memory, cell by cell -/
open Go.OpM Go.Cx Go.F64
def enc3 (x : S34) : List Value := [.int .i64 x.f0, .int .i64 x.f1, .string x.f2]
def encs3 (l : List S34) : List Value := l.flatMap enc3
theorem encs3_len (l : List S34) : (encs3 l).length = l.length * 3 := by
  induction l with
  | nil => rfl
  | cons c l ih => simp only [encs3, List.flatMap_cons, List.length_append, List.length_cons] at *; rw [ih]; simp [enc3]; omega
theorem encs3_at (l : List S34) : ∀ (j : Nat) (p : S34), l[j]? = some p → ((encs3 l).drop (j * 3)).take 3 = enc3 p := by
  induction l with
  | nil => intro j p h; simp at h
  | cons c l ih =>
    intro j p h
    cases j with
    | zero => simp at h; subst h; simp [encs3, enc3]
    | succ j =>
      have := ih j p (by simpa using h)
      have e : (encs3 (c :: l)).drop ((j + 1) * 3) = (encs3 l).drop (j * 3) := by
        simp only [encs3, List.flatMap_cons]
        have : (j + 1) * 3 = (enc3 c).length + j * 3 := by simp [enc3]; omega
        rw [this, List.drop_append]
        simp
      rw [e, this]
theorem encs3_get (l : List S34) (i : Nat) (u : Value) (h : (encs3 l)[i]? = some u) : ∃ p, l[i / 3]? = some p ∧ (enc3 p)[i % 3]? = some u := by
  have hi : i < l.length * 3 := by rw [← encs3_len]; exact (List.getElem?_eq_some_iff.1 h).1
  have hj : i / 3 < l.length := by omega
  refine ⟨l[i / 3], List.getElem?_eq_getElem hj, ?_⟩
  rw [← encs3_at l (i / 3) _ (List.getElem?_eq_getElem hj), List.getElem?_take, if_pos (by omega), List.getElem?_drop]
  rw [show i / 3 * 3 + i % 3 = i by omega]; exact h
theorem encs3_one (l : List S34) : ∀ u ∈ encs3 l, u.oneCell' = true := by
  intro u hu
  obtain ⟨p, _, hp⟩ := List.mem_flatMap.1 hu
  simp only [enc3, List.mem_cons, List.not_mem_nil, or_false] at hp
  rcases hp with rfl | rfl | rfl <;> rfl
/-- What is read lies there cell by cell. -/
theorem cells3 {w : World} {A : Option Addr} {l : List S34} (h : Kd.C k34 w A l.length l) : ∀ b, A = some b → ∀ j u, (encs3 l)[j]? = some u → w.cell? (b.add j) = some u := by
  rintro b rfl j u hu
  obtain ⟨p, hp, hu2⟩ := encs3_get l j u hu
  have hl : 0 < l.length := by have := (List.getElem?_eq_some_iff.1 hp).1; omega
  obtain ⟨ad, e, hc⟩ := h.2.2 hl
  cases e
  obtain ⟨c, _, hK, hcell⟩ := hc _ _ hp
  obtain rfl := k34_open hK
  have := hcell (j % 3) u hu2
  have e3 : j / 3 * (k34).sz + j % 3 = j := by show j / 3 * 3 + j % 3 = j; omega
  rwa [e3] at this
theorem cells3_none {w : World} {l : List S34} (h : Kd.C k34 w none l.length l) : l = [] := by
  rcases Nat.eq_zero_or_pos l.length with h0 | h0
  · exact List.eq_nil_of_length_eq_zero h0
  · obtain ⟨ad, e, _⟩ := h.2.2 h0
    cases e
/-- What is owned cell by cell is a row of operations' parts. -/
theorem own3 {w : World} {base : Nat} {a : Option Addr} {n c : Nat} {l : List S34} (hn : n = l.length) (h : Own w base 34 3 a n c (encs3 l)) : Kd.R k34 34 w base (fun _ => True) (.slice a n c) l := by
  subst hn
  refine ⟨fun _ _ => trivial, encs3 l, h, encs3_len l, fun j p hp => ?_⟩
  have : ((encs3 l).drop (j * (k34).sz)).take (k34).sz = enc3 p := encs3_at l j p hp
  rw [this]
  exact k34_mkM _ _ _ p
theorem et_comp : ElemT Try.prog 28 34 3 32 (.agg #[.int .i64 0, .int .i64 0, .string ⟨#[]⟩]) := ElemT.mk' Try.underlying28 (by kernel_rfl) rfl (by decide)
theorem encs3_app (a b : List S34) : encs3 (a ++ b) = encs3 a ++ encs3 b := by simp [encs3]
theorem src3 (w : World) (c : S34) (H : Nat) (hH : H = w.heap.size) : Src Try.prog 3 28 (.slice (some ⟨H, 0, none⟩) 1 1) 1 (enc3 c) (w.alloc (.cells #[.int .i64 c.f0, .int .i64 c.f1, .string c.f2] 34)) :=
  Src.ofSlice _ Try.underlying28 _ 1 1 (enc3 c) rfl (fun j u hu => by
    rw [add_eq, Nat.zero_add, cell_blk (alloc_blk_new _ hH) j]
    simpa [enc3] using hu) (by intro u hu; simp only [enc3, List.mem_cons, List.not_mem_nil, or_false] at hu; rcases hu with rfl | rfl | rfl <;> rfl)
theorem srcC {w : World} {A : Option Addr} {l : List S34} {c : Nat} (h : Kd.C k34 w A l.length l) : Src Try.prog 3 28 (.slice A l.length c) l.length (encs3 l) w := by
  cases A with
  | none => have := cells3_none h; subst this; exact Src.ofNil _ Try.underlying28 c
  | some b => exact Src.ofSlice _ Try.underlying28 b _ c (encs3 l) (encs3_len l) (cells3 h b rfl) (encs3_one l)

-- IMPORT Derived.ScopeJumps
-- IMPORT Derived.WalkMore
/-! ### A scope with one label, jumped back to -/
theorem wp_scope_again {P : Program} {a : Act} {w : World} {Q : Exit → Act → World → Prop} {c body : Code} (l : Nat) (J : Act → World → Prop) (μ : Act → World → Nat) (hf : findLabel c l = some (Code.skip.seq body))
    (pass : ∀ a w, J a w → body.wp P (Exit.jump l (fun a' w' => J a' w' ∧ μ a' w' < μ a w) Q) a w)
    (first : (∀ a w, J a w → body.wp P (Exit.jump l J Q) a w) → c.wp P (Exit.jump l J Q) a w) : (Code.scope c).wp P Q a w :=
  wp_scope_jumps l J μ hf (first (fun a w h => wp_mono (pass a w h) (fun e a w hq => by cases e <;> first | exact hq | exact ⟨hq.1, hq.2.1⟩))) (fun a w h => wp_seq (wp_skip (pass a w h)))

/-! ### Rows that are eaten from the front -/
open Go.OpM Go.Cx Go.F64
/-- What two operations must be for the walk: valid, and not too long. -/
def good2 (a b : List Cm) : Bool := good a && good b && decide (inC a + outC a + inC b + outC b ≤ 50000)
theorem good2_iff {a b : List Cm} : good2 a b = true ↔ Vl a ∧ Vl b ∧ inC a + outC a + inC b + outC b ≤ 50000 := by
  unfold good2
  rw [Bool.and_eq_true, Bool.and_eq_true, decide_eq_true_iff, good_iff, good_iff]
  constructor
  · rintro ⟨⟨h1, h2⟩, h3⟩; exact ⟨h1.1, h2.1, h3⟩
  · rintro ⟨h1, h2, h3⟩; exact ⟨⟨⟨h1, by omega⟩, ⟨h2, by omega⟩⟩, h3⟩
/-- A row of parts that is eaten from the front, and whose first part may be written: it lies in block g, none other's. -/
def Rem (w : World) (g : Nat) (v : Value) (l : List S34) : Prop :=
  ∃ (A : Option Addr) (c : Nat), v = .slice A l.length c ∧ l.length ≤ c ∧ c ≤ maxLen ∧ (l ≠ [] → ∃ (o : Nat) (cur : Array Value), A = some ⟨g, o, none⟩ ∧ w.heap[g]? = some (.cells cur 34 (0, 0)) ∧ (cur.toList.drop o).take (l.length * 3) = encs3 l ∧ o + l.length * 3 ≤ cur.size)
theorem rem_of_own {w : World} {base : Nat} {a : Option Addr} {n c : Nat} {l : List S34} (hn : n = l.length) (h : Own w base 34 3 a n c (encs3 l)) (hb : base < w.heap.size) : ∃ g, Rem w g (.slice a n c) l ∧ base ≤ g ∧ g < w.heap.size := by
  subst hn
  have hsl := h.sl
  obtain ⟨h1, ⟨h2, h3⟩ | ⟨g, cap, cur, h2, hg0, hg, hn, hm, hs, ht⟩⟩ := h
  · simp only [Value.slice.injEq] at h2
    refine ⟨base, ⟨a, c, rfl, hsl.2.1, hsl.2.2.1, fun hne => ?_⟩, Nat.le_refl _, hb⟩
    exact absurd (List.eq_nil_of_length_eq_zero h3) hne
  · simp only [Value.slice.injEq] at h2
    obtain ⟨rfl, _, rfl⟩ := h2
    refine ⟨g, ⟨_, c, rfl, hn, hm, fun _ => ⟨0, cur, rfl, hg, by simpa using ht, ?_⟩⟩, hg0, lt_of_block hg⟩
    rw [hs, Nat.zero_add]; exact Nat.mul_le_mul_right _ hn
theorem Rem.ch {S : Nat → Prop} {w w' : World} {g : Nat} {v : Value} {l : List S34} (h : Rem w g v l) (hc : Ch S w w') (hs : ¬ S g) : Rem w' g v l := by
  obtain ⟨A, c, e, h1, h2, h3⟩ := h
  refine ⟨A, c, e, h1, h2, fun hne => ?_⟩
  obtain ⟨o, cur, e1, hg, h4⟩ := h3 hne
  exact ⟨o, cur, e1, hc.heap hg hs, h4⟩
theorem Rem.cells {w : World} {g : Nat} {v : Value} {x : S34} {l : List S34} (h : Rem w g v (x :: l)) :
    ∃ o c, v = .slice (some ⟨g, o, none⟩) (l.length + 1) c ∧ l.length + 1 ≤ c ∧ w.cell? ⟨g, o, none⟩ = some (.int .i64 x.f0) ∧ w.cell? ⟨g, o + 1, none⟩ = some (.int .i64 x.f1) ∧ w.cell? ⟨g, o + 2, none⟩ = some (.string x.f2) ∧ (∀ j, w.frozen? ⟨g, j, none⟩ = false) ∧
      Rem w g (.slice (some ⟨g, o + 3, none⟩) l.length (c - 1)) l ∧
      (∀ (y : S34) (w' : World), w'.heap[g]? = (((w.setCell ⟨g, o, none⟩ (.int .i64 y.f0)).setCell ⟨g, o + 1, none⟩ (.int .i64 y.f1)).setCell ⟨g, o + 2, none⟩ (.string y.f2)).heap[g]? → Rem w' g v (y :: l)) := by
  obtain ⟨A, c, e, h1, h2, h3⟩ := h
  obtain ⟨o, cur, rfl, hg, ht, hsz⟩ := h3 (by simp)
  have e2 : encs3 (x :: l) = enc3 x ++ encs3 l := rfl
  have hl3 := encs3_len l
  have hat : ∀ j, j < (x :: l).length * 3 → cur[o + j]? = (encs3 (x :: l))[j]? := by
    intro j hj
    rw [← ht, List.getElem?_take, if_pos hj, List.getElem?_drop, Array.getElem?_toList]
  simp only [List.length_cons] at *
  refine ⟨o, c, e, h1, ?_, ?_, ?_, fun j => frozen_blk hg j, ⟨_, c - 1, rfl, by omega, by omega, fun hne => ⟨o + 3, cur, rfl, hg, ?_, by omega⟩⟩, ?_⟩
  · rw [cell_blk hg, ← Nat.add_zero o, hat 0 (by omega)]; rfl
  · rw [cell_blk hg, hat 1 (by omega)]; rfl
  · rw [cell_blk hg, hat 2 (by omega)]; rfl
  · have : (cur.toList.drop (o + 3)).take (l.length * 3) = (((cur.toList.drop o).take ((l.length + 1) * 3))).drop 3 := by
      rw [List.drop_take, List.drop_drop]; congr 1; omega
    rw [this, ht, e2]; rfl
  · intro y w' hw
    refine ⟨_, c, e, by simpa using h1, h2, fun _ => ⟨o, _, rfl, hw.trans (set_blk (set_blk (set_blk hg _ _) _ _) _ _), ?_, ?_⟩⟩
    · have e3 : encs3 (y :: l) = enc3 y ++ encs3 l := rfl
      apply List.ext_getElem?
      intro j
      rw [List.getElem?_take]
      by_cases hj : j < (y :: l).length * 3
      · rw [if_pos hj, List.getElem?_drop, Array.getElem?_toList]
        simp only [List.length_cons] at hj
        have hh := hat j (by omega)
        simp only [Array.getElem?_setIfInBounds, Array.size_setIfInBounds]
        by_cases j0 : j = 0
        · subst j0; rw [if_neg (by omega), if_neg (by omega), if_pos (by omega), if_pos (by omega)]; rfl
        · by_cases j1 : j = 1
          · subst j1; rw [if_neg (by omega), if_pos (by omega), if_pos (by omega)]; rfl
          · by_cases j2 : j = 2
            · subst j2; rw [if_pos (by omega), if_pos (by omega)]; rfl
            · rw [if_neg (by omega), if_neg (by omega), if_neg (by omega), hh, e2, e3]
              rw [List.getElem?_append_right (by simp [enc3]; omega), List.getElem?_append_right (by simp [enc3]; omega)]; rfl
      · rw [if_neg hj, eq_comm, List.getElem?_eq_none_iff, encs3_len]; omega
    · simp only [Array.size_setIfInBounds, List.length_cons]; exact hsz
theorem rem_nil (w : World) (g : Nat) (A : Option Addr) (c : Nat) (h : c ≤ maxLen) : Rem w g (.slice A 0 c) [] := ⟨A, c, rfl, Nat.zero_le _, h, fun h => absurd rfl h⟩
/-- What the slice behind the first part is: where nothing more is held its address stays. -/
theorem rem_next {w : World} {g o n c : Nat} {l : List S34} (h : Rem w g (.slice (some ⟨g, o + 3, none⟩) n (c - 1)) l) (hn : n = l.length) (hc : n + 1 ≤ c) (h1 : c = 1) : Rem w g (.slice (some ⟨g, o, none⟩) n 0) l := by
  subst h1
  have : n = 0 := by omega
  subst this
  have : l = [] := List.eq_nil_of_length_eq_zero hn.symm
  subst this
  exact rem_nil _ _ _ _ (Nat.zero_le _)
theorem Ch.app_new1 {w w1 w2 : World} {g : Nat} (h : Ch (fun _ => False) w w1) (k : Ch (fun k => ∃ b, some (⟨g, 0, none⟩ : Addr) = some b ∧ b.block = k) w1 w2) (hg : w.heap.size ≤ g) : Ch (fun _ => False) w w2 :=
  h.trans k (fun i hi ⟨b, hb, he⟩ => by cases hb; have : g = i := he; omega)
theorem own_made (w : World) (base : Nat) (h : base ≤ w.heap.size) : Own (w.alloc (.cells #[] 34)) base 34 3 (some ⟨w.heap.size, 0, none⟩) 0 0 [] := by
  have h2 : Own (w.alloc (.cells #[] 34)) w.heap.size 34 3 (some ⟨w.heap.size, 0, none⟩) 0 0 [] := World.ownsRow_made w #[] 0 (Nat.le_refl _) (Nat.zero_le _) rfl
  exact h2.base_le h
theorem set_congr {X Y : World} {g : Nat} (h : X.heap[g]? = Y.heap[g]?) (i : Nat) (u : Value) : (X.setCell ⟨g, i, none⟩ u).heap[g]? = (Y.setCell ⟨g, i, none⟩ u).heap[g]? := by
  simp only [World.setCell, Array.getElem?_modify, if_true, h]
theorem set3_congr {X Y : World} {g : Nat} (h : X.heap[g]? = Y.heap[g]?) (i j k : Nat) (u v z : Value) : (((X.setCell ⟨g, i, none⟩ u).setCell ⟨g, j, none⟩ v).setCell ⟨g, k, none⟩ z).heap[g]? = (((Y.setCell ⟨g, i, none⟩ u).setCell ⟨g, j, none⟩ v).setCell ⟨g, k, none⟩ z).heap[g]? :=
  set_congr (set_congr (set_congr h _ _) _ _) _ _
theorem drew_heap (W : World) : W.drew.heap = W.heap := rfl
theorem far_set (W : World) {g b : Nat} (h : g ≠ b) (i : Nat) (u : Value) : (W.setCell ⟨b, i, none⟩ u).heap[g]? = W.heap[g]? := Below.heap_setCell W ⟨b, i, none⟩ u g h
theorem far3 (W : World) {g b : Nat} (h : g ≠ b) (i j k : Nat) (u v z : Value) : (((W.setCell ⟨b, i, none⟩ u).setCell ⟨b, j, none⟩ v).setCell ⟨b, k, none⟩ z).heap[g]? = W.heap[g]? :=
  (far_set _ h k z).trans ((far_set _ h j v).trans (far_set _ h i u))
theorem six_a (W : World) {ga gb : Nat} (h : ga ≠ gb) (i1 i2 i3 j1 j2 j3 : Nat) (u1 u2 u3 v1 v2 v3 : Value) : ((((((W.setCell ⟨ga, i1, none⟩ u1).setCell ⟨ga, i2, none⟩ u2).setCell ⟨ga, i3, none⟩ u3).setCell ⟨gb, j1, none⟩ v1).setCell ⟨gb, j2, none⟩ v2).setCell ⟨gb, j3, none⟩ v3).drew.heap[ga]? = (((W.setCell ⟨ga, i1, none⟩ u1).setCell ⟨ga, i2, none⟩ u2).setCell ⟨ga, i3, none⟩ u3).heap[ga]? := by
  rw [drew_heap]
  exact far3 _ h j1 j2 j3 v1 v2 v3
theorem six_b (W : World) {ga gb : Nat} (h : ga ≠ gb) (i1 i2 i3 j1 j2 j3 : Nat) (u1 u2 u3 v1 v2 v3 : Value) : ((((((W.setCell ⟨ga, i1, none⟩ u1).setCell ⟨ga, i2, none⟩ u2).setCell ⟨ga, i3, none⟩ u3).setCell ⟨gb, j1, none⟩ v1).setCell ⟨gb, j2, none⟩ v2).setCell ⟨gb, j3, none⟩ v3).drew.heap[gb]? = (((W.setCell ⟨gb, j1, none⟩ v1).setCell ⟨gb, j2, none⟩ v2).setCell ⟨gb, j3, none⟩ v3).heap[gb]? := by
  rw [drew_heap]
  exact set3_congr (far3 W h.symm i1 i2 i3 u1 u2 u3) j1 j2 j3 v1 v2 v3
theorem ch3 {S : Nat → Prop} {W X : World} (h : Ch S W X) {g : Nat} (hg : S g) (i j k : Nat) (u v z : Value) : Ch S W (((X.setCell ⟨g, i, none⟩ u).setCell ⟨g, j, none⟩ v).setCell ⟨g, k, none⟩ z) :=
  ((h.set (u := u) (i := i) (.inl hg)).set (u := v) (i := j) (.inl hg)).set (u := z) (i := k) (.inl hg)
theorem six_ch (W : World) (ga gb : Nat) (i1 i2 i3 j1 j2 j3 : Nat) (u1 u2 u3 v1 v2 v3 : Value) : Ch (fun k => k = ga ∨ k = gb) W ((((((W.setCell ⟨ga, i1, none⟩ u1).setCell ⟨ga, i2, none⟩ u2).setCell ⟨ga, i3, none⟩ u3).setCell ⟨gb, j1, none⟩ v1).setCell ⟨gb, j2, none⟩ v2).setCell ⟨gb, j3, none⟩ v3).drew :=
  (ch3 (ch3 (Ch.refl _ W) (.inl rfl) i1 i2 i3 u1 u2 u3) (.inr rfl) j1 j2 j3 v1 v2 v3).drew
theorem cm_of {p : S34} {c : Cm} (h : p = sc c) : cm p = c := by rw [h, cm_sc]
theorem chn3 {S : Nat → Prop} {W X : World} (h : Ch S W X) {g : Nat} (hg : W.heap.size ≤ g) (i j k : Nat) (u v z : Value) : Ch S W (((X.setCell ⟨g, i, none⟩ u).setCell ⟨g, j, none⟩ v).setCell ⟨g, k, none⟩ z) :=
  ((h.set (u := u) (i := i) (.inr hg)).set (u := v) (i := j) (.inr hg)).set (u := z) (i := k) (.inr hg)
theorem put3 {w : World} {g : Nat} {t : TypeId} {a b c : Value} (h : w.heap[g]? = some (.cells #[a, b, c] t (0, 0))) (u v z : Value) : (((w.setCell ⟨g, 0, none⟩ u).setCell ⟨g, 1, none⟩ v).setCell ⟨g, 2, none⟩ z).heap[g]? = some (.cells #[u, v, z] t (0, 0)) := set_blk (set_blk (set_blk h _ _) _ _) _ _
theorem set_blk1 {w : World} {g : Nat} {t : TypeId} {cs : Array Value} (h : w.heap[g]? = some (.cells cs t (0, 0))) (i : Nat) (u : Value) (cs' : Array Value) (e : cs.setIfInBounds i u = cs') : (w.setCell ⟨g, i, none⟩ u).heap[g]? = some (.cells cs' t (0, 0)) := e ▸ set_blk h i u

end Go.Proofs.Ytpcgamgjgfdpaaa.Q

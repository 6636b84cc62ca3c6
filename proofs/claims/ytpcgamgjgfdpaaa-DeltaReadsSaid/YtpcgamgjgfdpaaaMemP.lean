/- Words of our own for memory: what a slice reads as, what a step leaves alone, and the laws of append and copy in these words. No program in sight. -/
import Derived.WalkKit
import Derived.WalkSpells
import Derived.WalkLawsBesides
import Derived.Laws.AppendOwnNone
import Derived.Laws.CopyOwn
import Derived.Deep.AppendSrc
import Derived.Laws.BytesArg
import Derived.StillTailTactics
import Derived.BigQuiet
import Derived.Deep.QuietTactic
namespace Go.Cx
open Go.RowKit

theorem hid {p : Prop} (h : p) : Hid p := h

/-- w' is w with new blocks, and with writes to the blocks of S alone. -/
structure Ch (S : Nat → Prop) (w w' : World) : Prop where
  os : w'.os = w.os
  tape : w'.tape = w.tape
  output : w'.output = w.output
  size : w.heap.size ≤ w'.heap.size
  block : ∀ k, k < w.heap.size → ¬ S k → w'.heap[k]? = w.heap[k]?

theorem Ch.refl (S : Nat → Prop) (w : World) : Ch S w w := ⟨rfl, rfl, rfl, Nat.le_refl _, fun _ _ _ => rfl⟩
theorem Ch.trans {S T : Nat → Prop} {a b c : World} (h : Ch S a b) (k : Ch T b c) (hs : ∀ i, i < a.heap.size → T i → S i) : Ch S a c :=
  ⟨k.os.trans h.os, k.tape.trans h.tape, k.output.trans h.output, Nat.le_trans h.size k.size,
    fun i hi hn => (k.block i (Nat.lt_of_lt_of_le hi h.size) (fun ht => hn (hs i hi ht))).trans (h.block i hi hn)⟩
theorem Ch.weaken {S T : Nat → Prop} {a b : World} (h : Ch S a b) (hs : ∀ i, i < a.heap.size → S i → T i) : Ch T a b :=
  (Ch.refl T a).trans h hs
theorem Ch.drew {S : Nat → Prop} {a b : World} (h : Ch S a b) : Ch S a b.drew := ⟨h.os, h.tape, h.output, h.size, h.block⟩
theorem Ch.drewN {S : Nat → Prop} {a b : World} (h : Ch S a b) (n : Nat) : Ch S a (b.drewN n) := ⟨h.os, h.tape, h.output, h.size, h.block⟩
theorem Ch.alloc {S : Nat → Prop} {a b : World} (h : Ch S a b) (o : Obj) : Ch S a (b.alloc o) :=
  ⟨h.os, h.tape, h.output, Nat.le_trans h.size (by simp), fun k hk hn => (Below.heap_alloc _ _ _ (Nat.lt_of_lt_of_le hk h.size)).trans (h.block k hk hn)⟩
theorem Ch.setCell {S : Nat → Prop} {a b : World} (h : Ch S a b) (p : Addr) (u : Value) (hp : p.block < a.heap.size → S p.block) : Ch S a (b.setCell p u) :=
  ⟨h.os, h.tape, h.output, Nat.le_trans h.size (by simp), fun k hk hn => (Below.heap_setCell _ _ _ _ (fun e => hn (by subst e; exact hp hk))).trans (h.block k hk hn)⟩
theorem Ch.set {S : Nat → Prop} {a b : World} (h : Ch S a b) {p i : Nat} {u : Value} (hp : S p ∨ a.heap.size ≤ p := by first | exact Or.inl rfl | exact Or.inl (Or.inl rfl) | exact Or.inl (Or.inr rfl) | exact Or.inr (by omega)) : Ch S a (b.setCell ⟨p, i, none⟩ u) :=
  h.setCell _ _ (fun hl => hp.elim id (fun h' => absurd hl (Nat.not_lt_of_le h')))
theorem Ch.grown {S : Nat → Prop} {a b c : World} {row : Option Nat} (h : Ch S a b) (hg : b.grownBy c row) (hr : ∀ k, row = some k → k < a.heap.size → S k) : Ch S a c :=
  ⟨hg.os.trans h.os, hg.tape.trans h.tape, hg.output.trans h.output, Nat.le_trans h.size hg.size,
    fun k hk hn => (hg.block k (Nat.lt_of_lt_of_le hk h.size) (fun e => hn (hr k e.symm hk))).trans (h.block k hk hn)⟩
theorem Ch.of_grown {b c : World} {row : Option Nat} (hg : b.grownBy c row) : Ch (fun k => row = some k) b c :=
  (Ch.refl _ _).grown hg (fun _ h _ => h)
theorem Ch.of_below {w w' : World} (h : Below w.heap.size w w') : Ch (fun _ => False) w w' :=
  ⟨h.os, h.tape, h.output, h.size, fun k hk _ => h.block k hk⟩
theorem Ch.below {S : Nat → Prop} {w w' : World} (h : Ch S w w') (B : Nat) (hB : B ≤ w.heap.size) (hs : ∀ k, k < B → ¬ S k) : Below B w w' :=
  ⟨h.os, h.tape, h.output, h.size, fun k hk => h.block k (Nat.lt_of_lt_of_le hk hB) (hs k hk)⟩
theorem Ch.below0 {w w' : World} (h : Ch (fun _ => False) w w') : Below w.heap.size w w' := h.below _ (Nat.le_refl _) (fun _ _ => id)
theorem Ch.cell {S : Nat → Prop} {w w' : World} (h : Ch S w w') {p : Addr} {v : Value} (hc : w.cell? p = some v) (hp : ¬ S p.block) : w'.cell? p = some v :=
  (World.cell?_of_block (h.block p.block (World.block_lt_of_cell? w p hc) hp)).trans hc
theorem Ch.heap {S : Nat → Prop} {w w' : World} (h : Ch S w w') {k : Nat} {o : Obj} (hc : w.heap[k]? = some o) (hp : ¬ S k) : w'.heap[k]? = some o :=
  (h.block k (lt_of_block hc) hp).trans hc

/-- What came in and is only read: the slice (a, n, c) reads as the cells xs, 'size' of them an element. -/
def Sl (w : World) (size : Nat) (a : Option Addr) (n c : Nat) (xs : List Value) : Prop :=
  xs.length = n * size ∧ n ≤ c ∧ c ≤ maxLen ∧ (a = none → c = 0) ∧ ∀ b, a = some b → ∀ j u, xs[j]? = some u → w.cell? (b.add j) = some u

theorem Sl.ch {S : Nat → Prop} {w w' : World} {size : Nat} {a : Option Addr} {n c : Nat} {xs : List Value} (h : Sl w size a n c xs) (hc : Ch S w w') (hs : ∀ b, a = some b → ¬ S b.block) : Sl w' size a n c xs :=
  ⟨h.1, h.2.1, h.2.2.1, h.2.2.2.1, fun b hb j u hu => hc.cell (h.2.2.2.2 b hb j u hu) (by
    have : (b.add j).block = b.block := by unfold Addr.add; split <;> rfl
    rw [this]; exact hs b hb)⟩
theorem Sl.below {w w' : World} {size : Nat} {a : Option Addr} {n c : Nat} {xs : List Value} (h : Sl w size a n c xs) (hb : Below w.heap.size w w') : Sl w' size a n c xs :=
  ⟨h.1, h.2.1, h.2.2.1, h.2.2.2.1, fun b hbb j u hu => by
    have := h.2.2.2.2 b hbb j u hu
    exact (hb.cell (World.block_lt_of_cell? w _ this)).trans this⟩
theorem Ch.to_below {S : Nat → Prop} {w0 w w' : World} (hb : Below w0.heap.size w0 w) (h : Ch S w w') (hs : ∀ k, k < w0.heap.size → ¬ S k) : Below w0.heap.size w0 w' :=
  hb.trans (h.below _ hb.size hs)
theorem Sl.none_zero {w : World} {size : Nat} {n c : Nat} {xs : List Value} (h : Sl w size none n c xs) : n = 0 ∧ c = 0 ∧ xs = [] := by
  have h1 := h.2.2.2.1 rfl
  have h2 := h.2.1
  have h3 := h.1
  have h4 : n = 0 := by omega
  subst h4
  exact ⟨rfl, h1, List.eq_nil_of_length_eq_zero (by simpa using h3)⟩
theorem Sl.nil (w : World) (size : Nat) : Sl w size none 0 0 [] := ⟨by simp, Nat.le_refl _, by unfold maxLen; omega, fun _ => rfl, fun _ h => by cases h⟩
theorem add_eq (b : Nat) (o j : Nat) : (⟨b, o, none⟩ : Addr).add j = ⟨b, o + j, none⟩ := by unfold Addr.add; split <;> simp_all
theorem Sl.at_ {w : World} {size : Nat} {b o n c : Nat} {xs : List Value} (h : Sl w size (some ⟨b, o, none⟩) n c xs) {j : Nat} {u : Value} (hu : xs[j]? = some u) : w.cell? ⟨b, o + j, none⟩ = some u := by
  have := h.2.2.2.2 _ rfl j u hu
  rwa [add_eq] at this
/-- An address whose cell is there has no spot. -/
theorem Sl.spot {w : World} {size : Nat} {a : Option Addr} {n c : Nat} {xs : List Value} (h : Sl w size a n c xs) (hx : xs ≠ []) : ∃ b o, a = some ⟨b, o, none⟩ := by
  cases a with
  | none => exact absurd h.none_zero.2.2 hx
  | some b =>
    obtain ⟨b, o, s⟩ := b
    have hl : 0 < xs.length := by
      rcases Nat.eq_zero_or_pos xs.length with h0 | h0
      · exact absurd (List.eq_nil_of_length_eq_zero h0) hx
      · exact h0
    have := h.2.2.2.2 _ rfl 0 _ (List.getElem?_eq_getElem hl)
    have hs : s = none := by simpa [Addr.add] using World.cell?_spot this
    exact ⟨b, o, by rw [hs]⟩

/-- What a call itself made: the slice (a, n, c) owns the cells xs in a row of its own, at 'base' or behind. -/
def Own (w : World) (base : Nat) (e : TypeId) (size : Nat) (a : Option Addr) (n c : Nat) (xs : List Value) : Prop :=
  w.ownsRow base e size (.slice a n c) n xs

theorem Own.sl {w : World} {base : Nat} {e : TypeId} {size : Nat} {a : Option Addr} {n c : Nat} {xs : List Value} (h : Own w base e size a n c xs) : Sl w size a n c xs := by
  obtain ⟨h1, ⟨h2, rfl⟩ | ⟨g, cap, cur, h2, hb, hg, hn, hm, hs, ht⟩⟩ := h
  · simp only [Value.slice.injEq] at h2
    obtain ⟨rfl, _, rfl⟩ := h2
    exact ⟨h1, Nat.le_refl _, by unfold maxLen; omega, fun _ => rfl, fun _ h => by cases h⟩
  · simp only [Value.slice.injEq] at h2
    obtain ⟨rfl, _, rfl⟩ := h2
    refine ⟨h1, hn, hm, fun h => (by cases h), fun b hb' j u hu => ?_⟩
    cases hb'
    rw [add_eq, Nat.zero_add, cell_of_row w g j cur e (0, 0) hg]
    rw [← ht, List.getElem?_take] at hu
    split at hu
    · simpa using hu
    · cases hu
theorem Own.block {w : World} {base : Nat} {e : TypeId} {size : Nat} {a : Option Addr} {n c : Nat} {xs : List Value} (h : Own w base e size a n c xs) : ∀ b, a = some b → base ≤ b.block ∧ b.block < w.heap.size :=
  fun b hb => World.ownsRow.lt h b.block (by subst hb; rfl)
theorem Own.ch {S : Nat → Prop} {w w' : World} {base : Nat} {e : TypeId} {size : Nat} {a : Option Addr} {n c : Nat} {xs : List Value} (h : Own w base e size a n c xs) (hc : Ch S w w') (hs : ∀ b, a = some b → ¬ S b.block) : Own w' base e size a n c xs := by
  obtain ⟨h1, h2 | ⟨g, cap, cur, h2, hb, hg, rest⟩⟩ := h
  · exact ⟨h1, .inl h2⟩
  · refine ⟨h1, .inr ⟨g, cap, cur, h2, hb, ?_, rest⟩⟩
    simp only [Value.slice.injEq] at h2
    exact hc.heap hg (hs ⟨g, 0, none⟩ h2.1)
theorem Own.base_le {w : World} {base base' : Nat} {e : TypeId} {size : Nat} {a : Option Addr} {n c : Nat} {xs : List Value} (h : Own w base e size a n c xs) (hb : base' ≤ base) : Own w base' e size a n c xs := by
  obtain ⟨h1, h2 | ⟨g, cap, cur, h2, hb', rest⟩⟩ := h
  · exact ⟨h1, .inl h2⟩
  · exact ⟨h1, .inr ⟨g, cap, cur, h2, Nat.le_trans hb hb', rest⟩⟩
theorem Own.nil (w : World) (base : Nat) (e : TypeId) (size : Nat) : Own w base e size none 0 0 [] := World.ownsRow_nil w base e size
theorem Own.drew {w : World} {base : Nat} {e : TypeId} {size : Nat} {a : Option Addr} {n c : Nat} {xs : List Value} (h : Own w base e size a n c xs) : Own w.drew base e size a n c xs := h
theorem Own.drewN {w : World} {base : Nat} {e : TypeId} {size : Nat} {a : Option Addr} {n c : Nat} {xs : List Value} (h : Own w base e size a n c xs) (k : Nat) : Own (w.drewN k) base e size a n c xs := h
/-- The form of what is owned. -/
theorem own_form {w : World} {base : Nat} {e : TypeId} {size : Nat} {v : Value} {n : Nat} {xs : List Value} (h : w.ownsRow base e size v n xs) : ∃ a c, v = .slice a n c := by
  obtain ⟨_, ⟨rfl, rfl⟩ | ⟨g, cap, _, rfl, _⟩⟩ := h
  · exact ⟨_, _, rfl⟩
  · exact ⟨_, _, rfl⟩

/-- The element type's row of the table. -/
structure ElemT (P : Program) (t e : TypeId) (size bytes : Nat) (z : Value) : Prop where
  und : P.underlying t = some (.slice e)
  info : ∃ i, P.info? e = some i ∧ i.zero = some z ∧ i.size = size ∧ i.bytes = bytes
  zsize : z.cells.size = size
  pos : 0 < size

theorem ElemT.mk' {P : Program} {t e : TypeId} {size bytes : Nat} {z : Value} (h : P.underlying t = some (.slice e))
    (hi : (P.info? e).map (fun i => (i.zero, i.size, i.bytes)) = some (some z, size, bytes)) (hz : z.cells.size = size) (hp : 0 < size) : ElemT P t e size bytes z := by
  obtain ⟨i, h1, h2, h3, h4⟩ := info_parts hi
  exact ⟨h, ⟨i, h1, h2, h3, h4⟩, hz, hp⟩

section
variable {P : Program}
theorem run_append_room_row (w : World) (t tx ty e : TypeId) (i : TypeInfo) (ht : P.underlying t = some (.slice e)) (hi : P.info? e = some i)
    (g n cap : Nat) (cur : Array Value) (hg : w.heap[g]? = some (.cells cur e (0, 0))) (x : Value) (m : Nat) (news : List Value) (hs : Src P i.size tx x m news w)
    (hroom : n + m ≤ cap) (hfit : n * i.size + news.length ≤ cur.size) :
    (Builtin.append_ #[t, tx] ty #[.slice (some ⟨g, 0, none⟩) n cap, x]).run P w =
      .ok (.slice (some ⟨g, 0, none⟩) (n + m) cap) (w.setRow g (cur.toList.take (n * i.size) ++ news ++ cur.toList.drop (n * i.size + news.length)).toArray) := by
  have hst := run_storeCells_at P g (n * i.size) e news 0 cur w hg (by simpa using hfit) hs.one
  simp only [Nat.add_zero] at hst
  rcases hs.kind with ⟨e', hk⟩ | hk <;> simp [Builtin.append_, run_underlying ht, run_underlying hk, sizeOf, typeInfo, hi, hs.len, hroom, hs.cells, Addr.add_lit, hst]

/-- 'append': what came out owns both; what was appended to still reads as it did; its block alone may have turned. -/
theorem run_app (w : World) (base : Nat) (t tx ty e : TypeId) (size bytes : Nat) (z : Value) (E : ElemT P t e size bytes z)
    (a : Option Addr) (n c : Nat) (xs : List Value) (hown : Own w base e size a n c xs)
    (x : Value) (m : Nat) (news : List Value) (hx : Src P size tx x m news w)
    (h63 : n + m ≤ maxLen) (hbytes : (n + m) * bytes ≤ 140737488355328) (hbase : base ≤ w.heap.size) :
    ∃ a' c' w', (Builtin.append_ #[t, tx] ty #[.slice a n c, x]).run P w = .ok (.slice a' (n + m) c') w' ∧ Own w' base e size a' (n + m) c' (xs ++ news) ∧
      Own w' base e size a n c xs ∧ Ch (fun k => ∃ b, a = some b ∧ b.block = k) w w' ∧ ((a' = a ∧ c' = c) ∨ ∀ b, a' = some b → w.heap.size ≤ b.block) := by
  have hown' := hown
  obtain ⟨i, hi, hz, rfl, rfl⟩ := E.info
  have hsl := hown.sl
  have hsmall : n + m ≤ 9223372036854775807 := by simp only [maxLen] at h63; omega
  have hlen : (xs ++ news).length = (n + m) * i.size := by rw [List.length_append, hown.1, hx.newsLen, Nat.add_mul]
  by_cases hroom : n + m ≤ c
  · obtain ⟨_, ⟨h2, rfl⟩ | ⟨g, cap, cur, h2, hb, hg, hn, hm, hs, ht⟩⟩ := hown
    · simp only [Value.slice.injEq] at h2
      obtain ⟨rfl, _, rfl⟩ := h2
      have hm0 : m = 0 := by omega
      subst hm0
      have hn0 : news = [] := List.eq_nil_of_length_eq_zero (by simpa using hx.newsLen)
      subst hn0
      have hx0 : xs = [] := (Sl.none_zero hsl).2.2
      subst hx0
      refine ⟨none, 0, w, ?_, World.ownsRow_nil _ _ _ _, World.ownsRow_nil _ _ _ _, Ch.refl _ _, .inl ⟨rfl, rfl⟩⟩
      rcases hx.kind with ⟨e', hk⟩ | hk <;> simp [Builtin.append_, run_underlying E.und, run_underlying hk, sizeOf, typeInfo, hi, hx.len, hx.cells]
    · simp only [Value.slice.injEq] at h2
      obtain ⟨rfl, _, rfl⟩ := h2
      have hfit : n * i.size + news.length ≤ cur.size := by rw [hx.newsLen, hs, ← Nat.add_mul]; exact Nat.mul_le_mul_right _ hroom
      have hr := run_append_room_row (P := P) w t tx ty e i E.und hi g n c cur hg x m news hx hroom hfit
      have hO : Own (w.setRow g (cur.toList.take (n * i.size) ++ news ++ cur.toList.drop (n * i.size + news.length)).toArray) base e i.size (some ⟨g, 0, none⟩) (n + m) c (xs ++ news) := by
        refine ⟨hlen, .inr ⟨g, c, _, rfl, hb, setRow_heap w g cur _ e _ hg, hroom, hm, ?_, ?_⟩⟩
        · simp only [List.size_toArray, List.length_append, List.length_take, List.length_drop, Array.length_toList]
          omega
        · rw [ht, ← hlen]
          exact List.take_left
      refine ⟨_, _, _, hr, hO, ⟨hsl.1, .inr ⟨g, c, _, rfl, hb, setRow_heap w g cur _ e _ hg, hn, hm, ?_, ?_⟩⟩, ?_, .inl ⟨rfl, rfl⟩⟩
      · simp only [List.size_toArray, List.length_append, List.length_take, List.length_drop, Array.length_toList]
        omega
      · have hx1 : xs.length = n * i.size := hsl.1
        rw [ht, ← hx1, List.append_assoc]
        exact List.take_left
      · refine ⟨rfl, rfl, rfl, by simp, fun k _ hk => setRow_other w g k _ (fun e => hk ⟨_, rfl, e.symm⟩)⟩
  · have hg : c < n + m := by omega
    have hold : (Builtin.firstCells i.size n (.slice a n c)).run P w.drew = .ok xs.toArray w.drew := by
      cases a with
      | none =>
        obtain ⟨rfl, rfl, rfl⟩ := hsl.none_zero
        exact run_firstCells_none w.drew i.size 0 0 0
      | some b => exact run_firstCells_some w.drew i.size n b n c xs hown.1 (by simpa using hsl.2.2.2.2 b rfl)
    have hr := run_append_grow_src (P := P) w t tx ty e i z E.und hi hz a n c xs hold x m news hx hg (by omega) (growslice_fits hg hbytes)
    have hge := grownCap_ge w (n + m) c e
    have hcm : grownCap w (n + m) c e ≤ maxLen := grownCap_le_maxLen w (n + m) c e h63
    refine ⟨_, _, _, hr, ⟨hlen, .inr ⟨w.heap.size, _, _, rfl, hbase, heap_alloc_new w.drew _, hge, hcm, ?_, ?_⟩⟩, ?_, ?_, .inr fun b hb => by cases hb; exact Nat.le_refl _⟩
    · simp only [Array.size_append, List.size_toArray, size_zeroCells, E.zsize, hlen, ← Nat.add_mul]
      congr 1
      omega
    · simp only [Array.toList_append]
      rw [← hlen]
      exact List.take_left
    · exact hown'.ch (((Ch.refl (fun _ => False) w).drew).alloc _) (fun _ _ => id)
    · exact ((Ch.refl _ w).drew).alloc _

theorem Own.take {w : World} {base : Nat} {e : TypeId} {size : Nat} {a : Option Addr} {n c : Nat} {xs : List Value} (h : Own w base e size a n c xs) (m : Nat) (hm : m ≤ n) (hz : a = none → m = 0) : Own w base e size a m c (xs.take (m * size)) := by
  have hl : (xs.take (m * size)).length = m * size := by rw [List.length_take, h.1]; exact Nat.min_eq_left (Nat.mul_le_mul_right _ hm)
  obtain ⟨h1, ⟨h2, rfl⟩ | ⟨g, cap, cur, h2, hb, hg, hn, hm', hs, ht⟩⟩ := h
  · simp only [Value.slice.injEq] at h2
    obtain ⟨rfl, _, rfl⟩ := h2
    obtain rfl : m = 0 := by omega
    simp only [Nat.zero_mul, List.take_zero]
    exact World.ownsRow_nil _ _ _ _
  · simp only [Value.slice.injEq] at h2
    obtain ⟨rfl, _, rfl⟩ := h2
    refine ⟨hl, .inr ⟨g, c, cur, rfl, hb, hg, by omega, hm', hs, ?_⟩⟩
    rw [← ht, List.take_take, Nat.min_eq_left (Nat.mul_le_mul_right _ hm)]

/-- Several appends, one behind the other, onto a slice that the caller owns: it stays owned as it was. -/
structure App (w0 w : World) (base : Nat) (e : TypeId) (size : Nat) (a : Option Addr) (n c : Nat) (xs : List Value) (a' : Option Addr) (m c' : Nat) (ys : List Value) : Prop where
  own : Own w base e size a' m c' ys
  old : Own w0 base e size a n c xs
  pre : ys.take (n * size) = xs
  le : n ≤ m
  or_ : (a' = a ∧ c' = c) ∨ (Own w base e size a n c xs ∧ ∀ b, a' = some b → w0.heap.size ≤ b.block)
  ch : Ch (fun k => ∃ b, a = some b ∧ b.block = k) w0 w
section
variable {w0 w w' : World} {base : Nat} {e : TypeId} {size : Nat} {a a' a2 : Option Addr} {n c m c' c2 k : Nat} {xs ys news : List Value}
theorem App.start (h : Own w0 base e size a n c xs) : App w0 w0 base e size a n c xs a n c xs :=
  ⟨h, h, by rw [← h.1]; exact List.take_length, Nat.le_refl _, .inl ⟨rfl, rfl⟩, Ch.refl _ _⟩
theorem App.f (h : App w0 w base e size a n c xs a' m c' ys) (hc : Ch (fun _ => False) w w') : App w0 w' base e size a n c xs a' m c' ys :=
  ⟨h.own.ch hc (fun _ _ => id), h.old, h.pre, h.le, h.or_.imp id (fun g => ⟨g.1.ch hc (fun _ _ => id), g.2⟩), h.ch.trans hc (fun _ _ g => g.elim)⟩
theorem App.keep (h : App w0 w base e size a n c xs a' m c' ys) : Own w base e size a n c xs := by
  rcases h.or_ with ⟨rfl, rfl⟩ | g
  · have := h.own.take n h.le (fun e => by subst e; have := h.old.sl.none_zero; omega)
    rwa [h.pre] at this
  · exact g.1
theorem App.step (h : App w0 w base e size a n c xs a' m c' ys) (hO : Own w' base e size a2 (m + k) c2 (ys ++ news)) (hS : Own w' base e size a' m c' ys)
    (hC : Ch (fun k => ∃ b, a' = some b ∧ b.block = k) w w') (hN : (a2 = a' ∧ c2 = c') ∨ ∀ b, a2 = some b → w.heap.size ≤ b.block) : App w0 w' base e size a n c xs a2 (m + k) c2 (ys ++ news) := by
  have hl : n * size ≤ ys.length := by rw [h.own.1]; exact Nat.mul_le_mul_right _ h.le
  have hlt : ∀ b, a = some b → b.block < w0.heap.size := fun b hb => (h.old.block b hb).2
  have hs := h.ch.size
  refine ⟨hO, h.old, by rw [List.take_append_of_le_length hl]; exact h.pre, by have := h.le; omega, ?_, ?_⟩
  · rcases h.or_ with ⟨rfl, rfl⟩ | ⟨g1, g2⟩
    · rcases hN with hN | hN
      · exact .inl hN
      · refine .inr ⟨?_, fun b hb => Nat.le_trans hs (hN b hb)⟩
        have := hS.take n h.le (fun e => by subst e; have := h.old.sl.none_zero; omega)
        rwa [h.pre] at this
    · refine .inr ⟨g1.ch hC (fun b hb ⟨b', hb', he⟩ => by have := g2 b' hb'; have := hlt b hb; omega), ?_⟩
      rcases hN with ⟨rfl, rfl⟩ | hN
      · exact g2
      · exact fun b hb => Nat.le_trans hs (hN b hb)
  · refine h.ch.trans hC (fun i hi ⟨b, hb, he⟩ => ?_)
    rcases h.or_ with ⟨rfl, rfl⟩ | ⟨_, g2⟩
    · exact ⟨b, hb, he⟩
    · have := g2 b hb; omega
end

/-- The law for the walk. -/
theorem wpList_app {w : World} {ops : Array Oper} {rest : List Oper} {o : Oper} {a : Act} {Q : Exit → Act → World → Prop} (hgd : o.guard = none) (s x : Operand) (t tx : TypeId)
    (ho : o.op = .call { callee := .builtin .append, args := #[s, x], argTypes := #[t, tx] })
    (base : Nat) (e : TypeId) (size bytes : Nat) (z : Value) (E : ElemT P t e size bytes z)
    (sa : Option Addr) (n c : Nat) (xs : List Value) (hs : a.eval s = .slice sa n c) (hown : Own w base e size sa n c xs)
    (v : Value) (m : Nat) (news : List Value) (hv : a.eval x = v) (hx : Src P size tx v m news w)
    (h63 : n + m ≤ maxLen) (hbytes : (n + m) * bytes ≤ 140737488355328) (hbase : base ≤ w.heap.size)
    (h : ∀ a' c' w', Own w' base e size a' (n + m) c' (xs ++ news) → Own w' base e size sa n c xs → Ch (fun k => ∃ b, sa = some b ∧ b.block = k) w w' → ((a' = sa ∧ c' = c) ∨ ∀ b, a' = some b → w.heap.size ≤ b.block) →
      wpList P ops Q rest (a.put o.dst (.slice a' (n + m) c')) w') : wpList P ops Q (o :: rest) a w := by
  refine wpList_plain hgd fun K hK => ?_
  obtain ⟨a', c', w', hr, h2, h3, h4, h5⟩ := run_app (P := P) w base t tx o.type e size bytes z E sa n c xs hown v m news hx h63 hbytes hbase
  unfold Oper.wp
  simp [execOp, ho, resolve, invoke, builtin, hs, hv, hr, Result.andThen]
  exact hK _ _ (h a' c' w' h2 h3 h4 h5)
/-- What a slice yields as the second argument. -/
theorem Sl.src {w : World} {size : Nat} {tx e' : TypeId} (hk : P.underlying tx = some (.slice e')) {a : Option Addr} {n c : Nat} {xs : List Value} (h : Sl w size a n c xs) (h1 : ∀ u ∈ xs, u.oneCell' = true) : Src P size tx (.slice a n c) n xs w := by
  cases a with
  | none =>
    obtain ⟨rfl, rfl, rfl⟩ := h.none_zero
    exact Src.ofNil w hk 0
  | some b => exact Src.ofSlice w hk b n c xs h.1 (h.2.2.2.2 b rfl) h1
end

/-! Blocks known whole. -/
theorem cell_blk {w : World} {p : Nat} {cs : Array Value} {T : TypeId} (h : w.heap[p]? = some (.cells cs T (0, 0))) (i : Nat) : w.cell? ⟨p, i, none⟩ = cs[i]? := by
  simp [World.cell?, h]
theorem frozen_blk {w : World} {p : Nat} {cs : Array Value} {T : TypeId} (h : w.heap[p]? = some (.cells cs T (0, 0))) (i : Nat) : w.frozen? ⟨p, i, none⟩ = false := by
  simp [World.frozen?, h]
theorem set_blk {w : World} {p : Nat} {cs : Array Value} {T : TypeId} {f : Nat × Nat} (h : w.heap[p]? = some (.cells cs T f)) (i : Nat) (v : Value) :
    (w.setCell ⟨p, i, none⟩ v).heap[p]? = some (.cells (cs.setIfInBounds i v) T f) := by
  simp [World.setCell, Array.getElem?_modify, h]
theorem set_blk_ne {w : World} {p q : Nat} {o : Obj} (h : w.heap[q]? = some o) (i : Nat) (v : Value) (hne : p ≠ q) :
    (w.setCell ⟨p, i, none⟩ v).heap[q]? = some o := by
  rw [Below.heap_setCell _ _ _ _ (fun e => hne e.symm)]; exact h
theorem alloc_blk_new {w : World} (o : Obj) {n : Nat} (hn : n = w.heap.size) : (w.alloc o).heap[n]? = some o := by subst hn; exact heap_alloc_new w o
theorem alloc_blk_old {w : World} {q : Nat} {x : Obj} (o : Obj) (h : w.heap[q]? = some x) : (w.alloc o).heap[q]? = some x := by
  rw [Below.heap_alloc _ _ _ (lt_of_block h)]; exact h

/-- Bytes as cells. -/
def bv (l : List UInt8) : List Value := l.map fun b => Value.int .u8 (b.toNat : Int)
theorem bv_length (l : List UInt8) : (bv l).length = l.length := by simp [bv]
theorem bv_append (a b : List UInt8) : bv (a ++ b) = bv a ++ bv b := by simp [bv]
theorem bv_take (n : Nat) (l : List UInt8) : bv (l.take n) = (bv l).take n := by simp [bv, List.map_take]
theorem bv_drop (n : Nat) (l : List UInt8) : bv (l.drop n) = (bv l).drop n := by simp [bv, List.map_drop]
theorem bv_get (l : List UInt8) (j : Nat) : (bv l)[j]? = (l[j]?).map fun b => Value.int .u8 (b.toNat : Int) := by simp [bv]
theorem bv_one (l : List UInt8) : ∀ u ∈ bv l, u.oneCell' = true := by
  intro u hu
  obtain ⟨_, _, rfl⟩ := List.mem_map.1 hu
  rfl
theorem bv_inj {a b : List UInt8} (h : bv a = bv b) : a = b := by
  refine (List.map_inj_right ?_).1 h
  intro x y hxy
  simp only [Value.int.injEq, true_and] at hxy
  exact UInt8.toNat_inj.1 (by omega)


theorem Ch.setRow {S : Nat → Prop} {a b : World} (h : Ch S a b) {g : Nat} (cs : Array Value) (hp : S g ∨ a.heap.size ≤ g) : Ch S a (b.setRow g cs) :=
  ⟨h.os, h.tape, h.output, Nat.le_trans h.size (by simp [World.setRow]), fun k hk hn => (setRow_other b g k cs (fun e => by subst e; exact hp.elim hn (fun h' => absurd hk (Nat.not_lt_of_le h')))).trans (h.block k hk hn)⟩

/-- 'copy', into a row known whole. -/
theorem wpList_cp {P : Program} {w : World} {ops : Array Oper} {rest : List Oper} {o : Oper} {a : Act} {Q : Exit → Act → World → Prop} (hgd : o.guard = none) (d s : Operand) (dT sT : TypeId)
    (ho : o.op = .call { callee := .builtin .copy, args := #[d, s], argTypes := #[dT, sT] }) (elem : TypeId) (hu : P.underlying dT = some (.slice elem)) (hsz : (P.info? elem).map (·.size) = some 1)
    (dp sp : Option Addr) (dLen dCap sLen sCap : Nat) (hd : a.eval d = .slice dp dLen dCap) (hs : a.eval s = .slice sp sLen sCap)
    (g off : Nat) (cur : List Value) (t : TypeId) (hg : w.heap[g]? = some (.cells cur.toArray t (0, 0))) (cs : List Value) (hn : cs.length = Nat.min sLen dLen)
    (hpos : 0 < cs.length → dp = some ⟨g, off, none⟩ ∧ ∃ ad, sp = some ad ∧ ∀ j v, cs[j]? = some v → w.cell? (ad.add j) = some v)
    (hfit : off + cs.length ≤ cur.length) (h1 : ∀ v ∈ cs, v.oneCell' = true)
    (h : ∀ w', Hid (w'.heap[g]? = some (.cells (splice cur off cs).toArray t (0, 0))) → Ch (fun k => k = g) w w' → wpList P ops Q rest (a.put o.dst (goInt cs.length)) w') :
    wpList P ops Q (o :: rest) a w := by
  by_cases h0 : cs.length = 0
  · obtain rfl : cs = [] := List.eq_nil_of_length_eq_zero h0
    refine wpList_copy_nothing hgd d s dT sT ho elem hu hsz dp sp dLen dCap sLen sCap hd hs (by simpa using hn.symm) ?_
    exact h w (show _ = _ by simpa [splice] using hg) (Ch.refl _ _)
  · obtain ⟨rfl, ad, rfl, hsrc⟩ := hpos (by omega)
    refine wpList_copy_own hgd d s dT sT ho elem hu hsz g off dLen dCap ad sLen sCap hd hs cur.toArray t hg cs hn hsrc (by simpa using hfit) h1 ?_
    exact h _ (show _ = _ by simpa [splice] using setRow_heap w g _ _ t _ hg) ((Ch.refl _ _).setRow _ (.inl rfl))

/-- 'make([]T, n)', all of it zero. -/
theorem wpList_mk {P : Program} {w : World} {ops : Array Oper} {rest : List Oper} {o : Oper} {a : Act} {Q : Exit → Act → World → Prop}
    (hg : o.guard = none) (l c : Operand) (t : TypeId) (hop : o.op = Op.makeSlice t l c) (e : TypeId) (bytes : Nat) (z : Value) (E : ElemT P t e 1 bytes z) (hz1 : z.cells = #[z])
    (L : Int) (n : Nat) (hl : a.eval l = .int .i64 L) (hc : a.eval c = .int .i64 L) (hL : L = (n : Int)) (b2 : bytes * n ≤ 281474976710656) (b3 : n ≤ maxLen)
    (hK : ∀ w', Own w' w.heap.size e 1 (some ⟨w.heap.size, 0, none⟩) n n (List.replicate n z) → Ch (fun _ => False) w w' → wpList P ops Q rest (a.put o.dst (.slice (some ⟨w.heap.size, 0, none⟩) n n)) w') :
    wpList P ops Q (o :: rest) a w := by
  obtain ⟨i, hi, hz, hs, rfl⟩ := E.info
  refine wpList_make_full w hg l c t hop w.heap.size e i z 1 E.und hi hz hs .i64 .i64 L L n hl hc hL hL b2 b3 (Nat.le_refl _) ?_
  intro w' h1 h2
  refine hK w' ?_ ((Ch.refl _ _).grown h2 (fun _ h => by cases h))
  rw [hz1, Nat.mul_one, toList_madeCells_one] at h1
  exact h1
/-- The row of what is owned whole (its capacity is its length). -/
theorem Own.row {w : World} {base : Nat} {e : TypeId} {g n : Nat} {xs : List Value} (h : Own w base e 1 (some ⟨g, 0, none⟩) n n xs) : w.heap[g]? = some (.cells xs.toArray e (0, 0)) := by
  obtain ⟨h1, ⟨h2, _⟩ | ⟨g', cap, cur, h2, hb, hg, hn, hm, hs, ht⟩⟩ := h
  · simp at h2
  · simp only [Value.slice.injEq, Option.some.injEq, Addr.mk.injEq, and_true, true_and] at h2
    obtain ⟨rfl, rfl⟩ := h2
    have : cur.toList = xs := by
      rw [← ht, Nat.mul_one]
      exact (List.take_of_length_le (by simp [hs])).symm
    rw [hg, ← this]


/-- A region that draws its order: n operations that leave the world alone, then the others in the text's order. -/
theorem wp_tail {P : Program} {id : Nat} {Q : Exit → Act → World → Prop} {a : Act} {w : World} {l : List Oper} (n : Nat) (hm : P.follows .mixedOrders = true) (hB : Region.lexTailB .any l.toArray n = true)
    (h : wpStill P l.toArray w.drew (fun a' => wpList P l.toArray Q (l.drop n) a' w.drew) (l.take n) a) : (Code.region id l.toArray true).wp P Q a w :=
  wp_region_still_tail n hm hB h


/-- Whole numbers as cells. -/
def iv (l : List Int) : List Value := l.map fun z => Value.int .i64 z
theorem iv_length (l : List Int) : (iv l).length = l.length := by simp [iv]
theorem iv_get (l : List Int) (j : Nat) : (iv l)[j]? = (l[j]?).map fun z => Value.int .i64 z := by simp [iv]
/-- A number that fits. -/
def I64 (x : Int) : Prop := -9223372036854775808 ≤ x ∧ x ≤ 9223372036854775807


/-- A literal's row, just made. -/
theorem Sl.lit (w : World) (cs : Array Value) (e : TypeId) (hn : cs.size ≤ maxLen) : Sl (w.alloc (.cells cs e)) 1 (some ⟨w.heap.size, 0, none⟩) cs.size cs.size cs.toList :=
  ⟨by simp, Nat.le_refl _, hn, (fun h => by cases h), fun b hb j u hu => by
    cases hb
    rw [add_eq, Nat.zero_add]
    simpa using hu⟩
theorem Own.some_ {w : World} {base : Nat} {e : TypeId} {size : Nat} {a : Option Addr} {n c : Nat} {xs : List Value} (h : Own w base e size a n c xs) (hn : 0 < n) : ∃ g, a = some ⟨g, 0, none⟩ := by
  obtain ⟨_, ⟨_, h2⟩ | ⟨g, cap, cur, h2, _⟩⟩ := h
  · omega
  · simp only [Value.slice.injEq] at h2
    exact ⟨g, h2.1⟩
theorem Own.at_ {w : World} {base : Nat} {e : TypeId} {size : Nat} {g n c : Nat} {xs : List Value} (h : Own w base e size (some ⟨g, 0, none⟩) n c xs) {j : Nat} {u : Value} (hu : xs[j]? = some u) : w.cell? ⟨g, j, none⟩ = some u := by
  have := h.sl.at_ hu
  rwa [Nat.zero_add] at this


theorem Ch.f {S : Nat → Prop} {w a b : World} (h : Ch S w a) (k : Ch (fun _ => False) a b) : Ch S w b := h.trans k (fun _ _ h => h.elim)
theorem Ch.far1 {S : Nat → Prop} {w a b : World} {p : Nat} (h : Ch S w a) (k : Ch (fun i => i = p) a b) (hp : w.heap.size ≤ p) : Ch S w b :=
  h.trans k (fun i hi e => by subst e; exact absurd hi (Nat.not_lt_of_le hp))
theorem Ch.far2 {S : Nat → Prop} {w a b : World} {p q : Nat} (h : Ch S w a) (k : Ch (fun i => i = p ∨ i = q) a b) (hp : w.heap.size ≤ p) (hq : w.heap.size ≤ q) : Ch S w b :=
  h.trans k (fun i hi e => by
    rcases e with e | e
    · subst e; exact absurd hi (Nat.not_lt_of_le hp)
    · subst e; exact absurd hi (Nat.not_lt_of_le hq))


/-! max and min of two whole numbers: one way, not two. -/
theorem max_ints (ats : Array TypeId) (ty : TypeId) (k k' : IntKind) (x y : Int) : Builtin.max_ ats ty #[.int k x, .int k' y] = pure (.int k (max x y)) := by
  simp only [Builtin.max_, List.foldlM_cons, List.foldlM_nil, Builtin.max2]
  have : max x y = if y > x then y else x := by split <;> omega
  rw [this]; rfl
theorem min_ints (ats : Array TypeId) (ty : TypeId) (k k' : IntKind) (x y : Int) : Builtin.min_ ats ty #[.int k x, .int k' y] = pure (.int k (min x y)) := by
  simp only [Builtin.min_, List.foldlM_cons, List.foldlM_nil, Builtin.min2]
  have : min x y = if x > y then y else x := by split <;> omega
  rw [this]; rfl


/-! Strings, by their bytes. -/
def str (l : List UInt8) : ByteArray := ⟨l.toArray⟩
@[go_sem, simp] theorem str_toList (l : List UInt8) : (str l).toList = l := ByteArray.toList_mk l
@[go_sem, simp] theorem str_size (l : List UInt8) : (str l).size = l.length := by simp [str, ByteArray.size]
theorem str_data (l : List UInt8) : (str l).data.toList = l := by simp [str]
theorem str_of (s : ByteArray) : ∃ l, s = str l := ⟨s.data.toList, by cases s; simp [str]⟩
theorem str_nums (l : List UInt8) : strOfNums (l.map fun b => (b.toNat : Int)) = str l := by
  unfold strOfNums str
  rw [List.map_map]
  congr 2
  refine (List.map_congr_left (g := id) fun b _ => ?_).trans (List.map_id _)
  simp
theorem Sl.take {w : World} {a : Option Addr} {n c : Nat} {xs : List Value} (h : Sl w 1 a n c xs) (k : Nat) (hk : k ≤ n) : Sl w 1 a k c (xs.take k) := by
  refine ⟨by have := h.1; simp; omega, by have := h.2.1; omega, h.2.2.1, h.2.2.2.1, fun b hb j u hu => h.2.2.2.2 b hb j u ?_⟩
  rw [List.getElem?_take] at hu
  split at hu
  · exact hu
  · cases hu
/-- A slice's bytes, made a string. -/
theorem Sl.str_ {P : Program} {w : World} {src dst e : TypeId} (hs : P.underlying src = some (.slice e)) (he : P.underlying e = some (.int .u8)) (hd : P.underlying dst = some .string) {a : Option Addr} {n c : Nat} {l : List UInt8} (h : Sl w 1 a n c (bv l)) :
    ∀ w' : World, w'.heap = w.heap → (convert src dst (.slice a n c)).run P w' = .ok (.string (str l)) w' := by
  intro w' hw
  have hl : l.length = n := by have := h.1; rw [bv_length] at this; omega
  have hc : ∀ p, w'.cell? p = w.cell? p := fun p => by unfold World.cell?; rw [hw]
  cases a with
  | none =>
    obtain ⟨rfl, rfl, hx⟩ := h.none_zero
    have : l = [] := List.eq_nil_of_length_eq_zero hl
    subst this
    exact run_convert_bytes_nil w' src e hs he 0 0 dst hd
  | some b =>
    obtain ⟨b, o, sp⟩ := b
    have hload : (loadCells ⟨b, o, sp⟩ n).run P w' = .ok (bv l).toArray w' := by
      have := run_loadCells_list (P := P) w' ⟨b, o, sp⟩ (bv l) (fun j v hj => by rw [hc]; exact h.2.2.2.2 _ rfl j v hj)
      rwa [bv_length, hl] at this
    have hb : bv l = (l.map fun b => (b.toNat : Int)).map (Value.int .u8) := by simp [bv, List.map_map]
    rw [run_convert_bytes_string w' src dst e _ n c hs he hd]
    rw [hb] at hload
    rw [run_bytesToString w' _ n c _ hload, foldl_push_bytes, ← str_nums]
    simp [strOfNums, ByteArray.empty, ByteArray.emptyWithCapacity]
    rfl
theorem Own.free {w : World} {base : Nat} {e : TypeId} {size : Nat} {g n c : Nat} {xs : List Value} (h : Own w base e size (some ⟨g, 0, none⟩) n c xs) (j : Nat) : w.frozen? ⟨g, j, none⟩ = false :=
  World.ownsRow.frozenAt h j


theorem Own.far2 {w w' : World} {base : Nat} {e : TypeId} {size : Nat} {a : Option Addr} {n c : Nat} {xs : List Value} {p q : Nat} (h : Own w base e size a n c xs) (hc : Ch (fun k => k = p ∨ k = q) w w') (hp : p < base) (hq : q < base) : Own w' base e size a n c xs :=
  h.ch hc (fun b hb hk => by
    have := (h.block b hb).1
    rcases hk with hk | hk <;> omega)
theorem Own.f {w w' : World} {base : Nat} {e : TypeId} {size : Nat} {a : Option Addr} {n c : Nat} {xs : List Value} (h : Own w base e size a n c xs) (hc : Ch (fun _ => False) w w') : Own w' base e size a n c xs :=
  h.ch hc (fun _ _ => id)


theorem Sl.front {w : World} {a : Option Addr} {n c : Nat} {l l' : List UInt8} (h : Sl w 1 a n c (bv l)) (k : Nat) (hk : k ≤ n) (e : l.take k = l') : Sl w 1 a k c (bv l') := by
  have := h.take k hk
  rw [← bv_take, e] at this
  exact this


/-- An append onto a row just made: nothing that was there has turned. -/
theorem Ch.app_new {w w' : World} {o : Obj} (h : Ch (fun k => ∃ b, some (⟨w.heap.size, 0, none⟩ : Addr) = some b ∧ b.block = k) (w.alloc o) w') : Ch (fun _ => False) w w' :=
  ((Ch.refl _ w).alloc o).trans h (fun i hi ⟨b, hb, he⟩ => by cases hb; have : w.heap.size = i := he; omega)
/-- An append onto a slice of the call's own. -/
theorem Ch.app_own {S : Nat → Prop} {w0 w w' : World} {base : Nat} {e : TypeId} {size : Nat} {a : Option Addr} {n c : Nat} {xs : List Value} (h0 : Ch S w0 w) (ho : Own w base e size a n c xs) (hb : w0.heap.size ≤ base)
    (h : Ch (fun k => ∃ b, a = some b ∧ b.block = k) w w') : Ch S w0 w' :=
  h0.trans h (fun i hi ⟨b, hb', he⟩ => by have := (ho.block b hb').1; omega)

end Go.Cx

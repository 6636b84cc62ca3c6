/- Contracts of Go functions: each call answers what the Lean function of its name answers. Conditions: stand in each theorem. Written by this seat's own program over the kit's printer. -/
import Derived.Test.YtjmnflgicolbdaaQ0
import Derived.Test.YtjmnflgicolbdaaQxcm
import Derived.Test.YtjmnflgicolbdaaQxtransformPair
import Derived.Test.YtjmnflgicolbdaaQxcomitiaref4In
import Derived.Test.YtjmnflgicolbdaaQxcomitiaref4Normal
import Derived.Test.YtjmnflgicolbdaaQX
import Derived.WalkMore
import Derived.Deep.DeepCutAuto
import Derived.Deep.CutBlock
import Derived.Deep.RegionHeld3
import Derived.Deep.QuietTactic
import Derived.StillTailTactics
namespace Go.Proofs.Ytjmnflgicolbdaa.Q
open Go.RowKit Go.Proofs.YtjmnflgicolbdaaW.PrintWords Go.Proofs.YtjmnflgicolbdaaW.PrintLast Go.Proofs.YtjmnflgicolbdaaW.PrintMore
attribute [local go_sem] max2_int min2_int max_two min_two max_three min_three max_four min_four   -- for this text's walks alone
set_option linter.unusedVariables false
set_option linter.unusedSimpArgs false

-- HAND
/-! ### comitiaref7_Pair: function 16 -/
open Go.OpM Go.Cx Go.F64
-- IMPORT Derived.Test.YtjmnflgicolbdaaQX
-- IMPORT Derived.WalkMore
-- IMPORT Derived.Deep.DeepCutAuto
-- IMPORT Derived.Deep.CutBlock
-- IMPORT Derived.Deep.RegionHeld3
-- IMPORT Derived.Deep.QuietTactic
-- IMPORT Derived.StillTailTactics
def comitiaref7_Pair.f (l0 l1 : List (S43)) : Option (List (S43) × List (S43) × Int) :=
  if good2 (cms l0) (cms l1) = true then (if inC (cms l0) = inC (cms l1) then some (scs (nf (pairA (norm (at_ (cms l0))) (norm (at_ (cms l1)))).1), scs (nf (pairA (norm (at_ (cms l0))) (norm (at_ (cms l1)))).2), 0) else some ([], [], 7)) else none
theorem own_of_R {w : World} {base : Nat} {ok : Nat → Prop} {a : Option Addr} {n c : Nat} {l : List S43} (h : Kd.R k43 43 w base ok (.slice a n c) l) : n = l.length ∧ Own w base 43 3 a n c (encs3 l) := by
  obtain ⟨_, inner, ho, hl, hp⟩ := h
  have hl3 : inner.length = l.length * 3 := hl
  have hn : n = l.length := by
    obtain ⟨a', c', e⟩ := own_form ho
    simp only [Value.slice.injEq] at e
    exact e.2.1
  have e : inner = encs3 l := by
    apply List.ext_getElem?
    intro i
    by_cases hi : i < l.length * 3
    · have hj : i / 3 < l.length := by omega
      have h1 : (inner.drop (i / 3 * 3)).take 3 = enc3 l[i / 3] := k43_openM (hp (i / 3) _ (List.getElem?_eq_getElem hj))
      have h2 := encs3_at l (i / 3) _ (List.getElem?_eq_getElem hj)
      have h3 : ((inner.drop (i / 3 * 3)).take 3)[i % 3]? = (((encs3 l).drop (i / 3 * 3)).take 3)[i % 3]? := by rw [h1, h2]
      rw [List.getElem?_take, if_pos (by omega), List.getElem?_drop, List.getElem?_take, if_pos (by omega), List.getElem?_drop, show i / 3 * 3 + i % 3 = i by omega] at h3
      exact h3
    · rw [List.getElem?_eq_none (by omega), List.getElem?_eq_none (by rw [encs3_len]; omega)]
  subst hn
  subst e
  exact ⟨rfl, ho⟩
theorem rem_own {w : World} {base : Nat} {a : Option Addr} {n c : Nat} {l : List S43} (hn : n = l.length) (h : Own w base 43 3 a n c (encs3 l)) : ∃ g, Rem w g (.slice a n c) l ∧ (l ≠ [] → base ≤ g ∧ g < w.heap.size) := by
  by_cases hl : l = []
  · subst hl
    subst hn
    exact ⟨0, rem_nil w 0 a c h.sl.2.2.1, fun h => absurd rfl h⟩
  · have hb : base < w.heap.size := by
      obtain ⟨g, e⟩ := h.some_ (by have := List.length_pos_iff.2 hl; omega)
      have := h.block _ e
      omega
    obtain ⟨g, h1, h2, h3⟩ := rem_of_own hn h hb
    exact ⟨g, h1, fun _ => ⟨h2, h3⟩⟩
theorem rem_ch {S : Nat → Prop} {w w' : World} {g : Nat} {v : Value} {l : List S43} (h : Rem w g v l) (hc : Ch S w w') (hs : l ≠ [] → ¬ S g) : Rem w' g v l := by
  by_cases hl : l = []
  · subst hl
    obtain ⟨A, c, e, h1, h2, h3⟩ := h
    exact ⟨A, c, e, h1, h2, fun h => absurd rfl h⟩
  · exact h.ch hc (hs hl)
/-- What lies in memory, round by round. -/
structure T7S (w wr : World) (ga gb : Nat) (v0 v1 : Value) (la lb : List S43) (bx : Option Addr) (mx cx : Nat) (xs : List S43) (by_ : Option Addr) (my cy : Nat) (ys : List S43) : Prop where
  ra : Rem wr ga v0 la
  rb : Rem wr gb v1 lb
  ox : Own wr w.heap.size 43 3 bx mx cx (encs3 xs)
  oy : Own wr w.heap.size 43 3 by_ my cy (encs3 ys)
  lx : mx = xs.length
  ly : my = ys.length
  ne : la ≠ [] → lb ≠ [] → ga ≠ gb
  ha : la ≠ [] → w.heap.size ≤ ga ∧ ga < wr.heap.size
  hb : lb ≠ [] → w.heap.size ≤ gb ∧ gb < wr.heap.size
  nx : ∀ z, bx = some z → (la ≠ [] → z.block ≠ ga) ∧ (lb ≠ [] → z.block ≠ gb)
  ny : ∀ z, by_ = some z → (la ≠ [] → z.block ≠ ga) ∧ (lb ≠ [] → z.block ≠ gb)
  xy : ∀ a b, bx = some a → by_ = some b → a.block ≠ b.block
  ch : Ch (fun _ => False) w wr
theorem T7S.f {w wr wx : World} {ga gb : Nat} {v0 v1 : Value} {la lb : List S43} {bx : Option Addr} {mx cx : Nat} {xs : List S43} {by_ : Option Addr} {my cy : Nat} {ys : List S43} (h : T7S w wr ga gb v0 v1 la lb bx mx cx xs by_ my cy ys) (hx : Ch (fun _ => False) wr wx) : T7S w wx ga gb v0 v1 la lb bx mx cx xs by_ my cy ys :=
  ⟨h.ra.ch hx id, h.rb.ch hx id, h.ox.f hx, h.oy.f hx, h.lx, h.ly, h.ne, fun e => ⟨(h.ha e).1, Nat.lt_of_lt_of_le (h.ha e).2 hx.size⟩, fun e => ⟨(h.hb e).1, Nat.lt_of_lt_of_le (h.hb e).2 hx.size⟩, h.nx, h.ny, h.xy, h.ch.f hx⟩
theorem T7S.heads {w wr : World} {ga gb : Nat} {v0 v1 v0' v1' : Value} {la lb la' lb' : List S43} {bx : Option Addr} {mx cx : Nat} {xs : List S43} {by_ : Option Addr} {my cy : Nat} {ys : List S43} (h : T7S w wr ga gb v0 v1 la lb bx mx cx xs by_ my cy ys) (ra : Rem wr ga v0' la') (rb : Rem wr gb v1' lb') (ea : la' ≠ [] → la ≠ []) (eb : lb' ≠ [] → lb ≠ []) : T7S w wr ga gb v0' v1' la' lb' bx mx cx xs by_ my cy ys :=
  ⟨ra, rb, h.ox, h.oy, h.lx, h.ly, fun e f => h.ne (ea e) (eb f), fun e => h.ha (ea e), fun e => h.hb (eb e), fun z hz => ⟨fun e => (h.nx z hz).1 (ea e), fun e => (h.nx z hz).2 (eb e)⟩, fun z hz => ⟨fun e => (h.ny z hz).1 (ea e), fun e => (h.ny z hz).2 (eb e)⟩, h.xy, h.ch⟩
theorem T7S.set {w wr wx : World} {ga gb : Nat} {v0 v1 v0' v1' : Value} {la lb la' lb' : List S43} {bx : Option Addr} {mx cx : Nat} {xs : List S43} {by_ : Option Addr} {my cy : Nat} {ys : List S43} (h : T7S w wr ga gb v0 v1 la lb bx mx cx xs by_ my cy ys) (na : la ≠ []) (nb : lb ≠ []) (hx : Ch (fun k => k = ga ∨ k = gb) wr wx) (ra : Rem wx ga v0' la') (rb : Rem wx gb v1' lb') : T7S w wx ga gb v0' v1' la' lb' bx mx cx xs by_ my cy ys :=
  ⟨ra, rb, h.ox.ch hx (fun z hz e => e.elim ((h.nx z hz).1 na) ((h.nx z hz).2 nb)), h.oy.ch hx (fun z hz e => e.elim ((h.ny z hz).1 na) ((h.ny z hz).2 nb)), h.lx, h.ly, fun _ _ => h.ne na nb, fun _ => ⟨(h.ha na).1, Nat.lt_of_lt_of_le (h.ha na).2 hx.size⟩, fun _ => ⟨(h.hb nb).1, Nat.lt_of_lt_of_le (h.hb nb).2 hx.size⟩, fun z hz => ⟨fun _ => (h.nx z hz).1 na, fun _ => (h.nx z hz).2 nb⟩, fun z hz => ⟨fun _ => (h.ny z hz).1 na, fun _ => (h.ny z hz).2 nb⟩, h.xy, h.ch.far2 hx (h.ha na).1 (h.hb nb).1⟩
theorem T7S.putX {w wr w3 : World} {ga gb : Nat} {v0 v1 : Value} {la lb : List S43} {bx a3 : Option Addr} {mx cx c3 : Nat} {xs : List S43} {p : S43} {by_ : Option Addr} {my cy : Nat} {ys : List S43} (h : T7S w wr ga gb v0 v1 la lb bx mx cx xs by_ my cy ys)
    (hc : Ch (fun k => ∃ b, bx = some b ∧ b.block = k) wr w3) (ho : Own w3 w.heap.size 43 3 a3 (mx + 1) c3 (encs3 xs ++ enc3 p)) (hn : a3 = bx ∧ c3 = cx ∨ ∀ b, a3 = some b → wr.heap.size ≤ b.block) :
    T7S w w3 ga gb v0 v1 la lb a3 (mx + 1) c3 (xs ++ [p]) by_ my cy ys := by
  have s1 := hc.size
  refine ⟨rem_ch h.ra hc (fun n ⟨b, e, e2⟩ => (h.nx b e).1 n e2), rem_ch h.rb hc (fun n ⟨b, e, e2⟩ => (h.nx b e).2 n e2), by rw [encs3_app]; simpa [encs3] using ho, h.oy.ch hc (fun b hb ⟨a, ha, e⟩ => h.xy a b ha hb e), by rw [h.lx]; simp, h.ly, h.ne, fun e => ⟨(h.ha e).1, Nat.lt_of_lt_of_le (h.ha e).2 s1⟩, fun e => ⟨(h.hb e).1, Nat.lt_of_lt_of_le (h.hb e).2 s1⟩, ?_, h.ny, ?_, Ch.app_own h.ch h.ox (Nat.le_refl _) hc⟩
  · intro z hz
    rcases hn with ⟨rfl, _⟩ | hn
    · exact h.nx z hz
    · have := hn z hz
      exact ⟨fun e => by have := h.ha e; omega, fun e => by have := h.hb e; omega⟩
  · intro a b ha hb
    rcases hn with ⟨rfl, _⟩ | hn
    · exact h.xy a b ha hb
    · have := hn a ha
      have := (h.oy.block b hb).2
      omega
theorem T7S.putY {w wr w3 : World} {ga gb : Nat} {v0 v1 : Value} {la lb : List S43} {bx a3 : Option Addr} {mx cx c3 : Nat} {xs : List S43} {p : S43} {by_ : Option Addr} {my cy : Nat} {ys : List S43} (h : T7S w wr ga gb v0 v1 la lb bx mx cx xs by_ my cy ys)
    (hc : Ch (fun k => ∃ b, by_ = some b ∧ b.block = k) wr w3) (ho : Own w3 w.heap.size 43 3 a3 (my + 1) c3 (encs3 ys ++ enc3 p)) (hn : a3 = by_ ∧ c3 = cy ∨ ∀ b, a3 = some b → wr.heap.size ≤ b.block) :
    T7S w w3 ga gb v0 v1 la lb bx mx cx xs a3 (my + 1) c3 (ys ++ [p]) := by
  have s1 := hc.size
  refine ⟨rem_ch h.ra hc (fun n ⟨b, e, e2⟩ => (h.ny b e).1 n e2), rem_ch h.rb hc (fun n ⟨b, e, e2⟩ => (h.ny b e).2 n e2), h.ox.ch hc (fun b hb ⟨a, ha, e⟩ => h.xy b a hb ha e.symm), by rw [encs3_app]; simpa [encs3] using ho, h.lx, by rw [h.ly]; simp, h.ne, fun e => ⟨(h.ha e).1, Nat.lt_of_lt_of_le (h.ha e).2 s1⟩, fun e => ⟨(h.hb e).1, Nat.lt_of_lt_of_le (h.hb e).2 s1⟩, h.nx, ?_, ?_, Ch.app_own h.ch h.oy (Nat.le_refl _) hc⟩
  · intro z hz
    rcases hn with ⟨rfl, _⟩ | hn
    · exact h.ny z hz
    · have := hn z hz
      exact ⟨fun e => by have := h.ha e; omega, fun e => by have := h.hb e; omega⟩
  · intro a b ha hb
    rcases hn with ⟨rfl, _⟩ | hn
    · exact h.xy a b ha hb
    · have := hn b hb
      have := (h.ox.block a ha).2
      omega
def J7 (w : World) (a b : List A) (k : Nat) (v0 v1 v7 v8 : Value) (wr : World) : Prop :=
  ∃ (ga gb : Nat) (la lb : List S43) (bx : Option Addr) (mx cx : Nat) (xs : List S43) (by_ : Option Addr) (my cy : Nat) (ys : List S43), v7 = .slice bx mx cx ∧ v8 = .slice by_ my cy ∧ T7S w wr ga gb v0 v1 la lb bx mx cx xs by_ my cy ys ∧ PM a b k (cms la) (cms lb) xs ys
theorem s6_ch {S : Nat → Prop} {w w' : World} {G H : Nat} {a b c d e f : Value} (hc : Ch S w w') (hG : ¬ S G) (hH : ¬ S H) (h : w.cell? ⟨G, 0, none⟩ = some a ∧ w.cell? ⟨G, 1, none⟩ = some b ∧ w.cell? ⟨G, 2, none⟩ = some c ∧ w.cell? ⟨H, 0, none⟩ = some d ∧ w.cell? ⟨H, 1, none⟩ = some e ∧ w.cell? ⟨H, 2, none⟩ = some f) : w'.cell? ⟨G, 0, none⟩ = some a ∧ w'.cell? ⟨G, 1, none⟩ = some b ∧ w'.cell? ⟨G, 2, none⟩ = some c ∧ w'.cell? ⟨H, 0, none⟩ = some d ∧ w'.cell? ⟨H, 1, none⟩ = some e ∧ w'.cell? ⟨H, 2, none⟩ = some f :=
  ⟨hc.cell h.1 hG, hc.cell h.2.1 hG, hc.cell h.2.2.1 hG, hc.cell h.2.2.2.1 hH, hc.cell h.2.2.2.2.1 hH, hc.cell h.2.2.2.2.2 hH⟩
theorem two_blk (w : World) (a b : Obj) : ((w.alloc a).alloc b).drew.drew.heap[w.heap.size]? = some a ∧ ((w.alloc a).alloc b).drew.drew.heap[w.heap.size + 1]? = some b := by
  constructor
  · exact alloc_blk_old b (alloc_blk_new a rfl)
  · exact alloc_blk_new b (show w.heap.size + 1 = (w.heap.push a).size from (Array.size_push _).symm)
theorem src3b {w : World} (c : S43) {g : Nat} (h : w.heap[g]? = some (.cells #[.int .i64 c.f0, .int .i64 c.f1, .string c.f2] 43 (0, 0))) : Src Try.prog 3 27 (.slice (some ⟨g, 0, none⟩) 1 1) 1 (enc3 c) w :=
  Src.ofSlice _ Try.underlying27 _ 1 1 (enc3 c) rfl (fun j u hu => by
    rw [add_eq, Nat.zero_add, cell_blk h j]
    simpa [enc3] using hu) (by intro u hu; simp only [enc3, List.mem_cons, List.not_mem_nil, or_false] at hu; rcases hu with rfl | rfl | rfl <;> rfl)
theorem set_same {W : World} {g : Nat} {cs : Array Value} {t : TypeId} (h : W.heap[g]? = some (.cells cs t (0, 0))) (i : Nat) (u : Value) (e : cs[i]? = some u) : (W.setCell ⟨g, i, none⟩ u).heap[g]? = W.heap[g]? := by
  rw [set_blk h, h]
  have : cs.setIfInBounds i u = cs := by
    apply Array.ext_getElem?
    intro j
    rw [Array.getElem?_setIfInBounds]
    split
    · next hj => subst hj; rw [e]; split <;> simp_all
    · rfl
  rw [this]
theorem Rem.setN {w w' : World} {g o n c : Nat} {x : S43} {l : List S43} (h : Rem w g (.slice (some ⟨g, o, none⟩) n c) (x :: l)) (v : Int) (e : w'.heap[g]? = (w.setCell ⟨g, o + 1, none⟩ (.int .i64 v)).heap[g]?) : Rem w' g (.slice (some ⟨g, o, none⟩) n c) (⟨x.f0, v, x.f2⟩ :: l) := by
  have h' := h
  obtain ⟨A, c', ev, _, _, h3⟩ := h'
  obtain ⟨o2, cur, eA, hg, _, _⟩ := h3 (by simp)
  obtain ⟨o', c2, e1, _, z0, z1, z2, _, _, hset⟩ := h.cells
  simp only [Value.slice.injEq, Option.some.injEq, Addr.mk.injEq] at e1
  obtain ⟨⟨_, rfl, _⟩, _, rfl⟩ := e1
  rw [cell_blk hg] at z0 z1 z2
  refine hset ⟨x.f0, v, x.f2⟩ w' (e.trans ?_)
  have a1 := set_same hg o _ z0
  have a2 : ((w.setCell ⟨g, o, none⟩ (.int .i64 x.f0)).setCell ⟨g, o + 1, none⟩ (.int .i64 v)).heap[g]? = some (.cells (cur.setIfInBounds (o + 1) (.int .i64 v)) 43 (0, 0)) := set_blk (a1.trans hg) _ _
  have a3 := set_same a2 (o + 2) (.string x.f2) (by rw [Array.getElem?_setIfInBounds_ne (by omega)]; exact z2)
  rw [a3, a2, set_blk hg]
theorem kc_form {x : S43} (h : (cm x).ok) (h2 : x.f0 ≠ 2) : ∃ (k : Int) (n : Nat), (k = 1 ∨ k = 3) ∧ 1 ≤ n ∧ x = ⟨k, (n : Int), ⟨#[]⟩⟩ := by
  rcases Cm.cases h with ⟨n, hn, e⟩ | ⟨t, ht, e⟩ | ⟨n, hn, e⟩
  · exact ⟨1, n, .inl rfl, hn, by rw [← sc_cm x, e]; rfl⟩
  · exact absurd (show (cm x).k = 2 by rw [e]) h2
  · exact ⟨3, n, .inr rfl, hn, by rw [← sc_cm x, e]; rfl⟩
theorem kc_parts {k : Int} {n m : Nat} (hk : k = 1 ∨ k = 3) : csz (cm ⟨k, (n : Int), ⟨#[]⟩⟩) = n ∧ fr m (cm ⟨k, (n : Int), ⟨#[]⟩⟩) = cm ⟨k, (m : Int), ⟨#[]⟩⟩ ∧ bk m (cm ⟨k, (n : Int), ⟨#[]⟩⟩) = cm ⟨k, (n : Int) - (m : Int), ⟨#[]⟩⟩ := by
  have h2 : k ≠ 2 := by omega
  refine ⟨?_, ?_, ?_⟩
  · unfold csz; rw [if_neg (show (cm ⟨k, (n : Int), ⟨#[]⟩⟩).k ≠ 2 from h2)]; rfl
  · unfold fr; rw [if_neg (show (cm ⟨k, (n : Int), ⟨#[]⟩⟩).k ≠ 2 from h2)]; rfl
  · unfold bk; rw [if_neg (show (cm ⟨k, (n : Int), ⟨#[]⟩⟩).k ≠ 2 from h2)]; rfl
theorem kc_step {k j : Int} {L1 L2 : Nat} (hk : k = 1 ∨ k = 3) (hj : j = 1 ∨ j = 3) (la lb : List S43) :
    PStep (cms (⟨k, (L1 : Int), ⟨#[]⟩⟩ :: la)) (cms (⟨j, (L2 : Int), ⟨#[]⟩⟩ :: lb)) (cms (if j = 1 then [⟨k, ((min L1 L2 : Nat) : Int), ⟨#[]⟩⟩] else [])) (cms (if k = 1 then [⟨j, ((min L1 L2 : Nat) : Int), ⟨#[]⟩⟩] else [])) (cms (if min L1 L2 < L1 then ⟨k, (L1 : Int) - ((min L1 L2 : Nat) : Int), ⟨#[]⟩⟩ :: la else la)) (cms (if min L1 L2 < L2 then ⟨j, (L2 : Int) - ((min L1 L2 : Nat) : Int), ⟨#[]⟩⟩ :: lb else lb)) := by
  have h := PStep.both (cm ⟨k, (L1 : Int), ⟨#[]⟩⟩) (cms la) (cm ⟨j, (L2 : Int), ⟨#[]⟩⟩) (cms lb) (by show k ≠ 2; omega) (by show j ≠ 2; omega)
  have e1 := kc_parts (n := L1) (m := min L1 L2) hk
  have e2 := kc_parts (n := L2) (m := min L1 L2) hj
  rw [e1.1, e2.1, e1.2.1, e2.2.1] at h
  have p1 : pairX (cm ⟨k, ((min L1 L2 : Nat) : Int), ⟨#[]⟩⟩) (cm ⟨j, ((min L1 L2 : Nat) : Int), ⟨#[]⟩⟩) = cms (if j = 1 then [⟨k, ((min L1 L2 : Nat) : Int), ⟨#[]⟩⟩] else []) := by
    unfold pairX
    show (if j = 1 then _ else _) = _
    split <;> rfl
  have p2 : pairY (cm ⟨k, ((min L1 L2 : Nat) : Int), ⟨#[]⟩⟩) (cm ⟨j, ((min L1 L2 : Nat) : Int), ⟨#[]⟩⟩) = cms (if k = 1 then [⟨j, ((min L1 L2 : Nat) : Int), ⟨#[]⟩⟩] else []) := by
    unfold pairY
    show (if k = 1 then _ else _) = _
    split <;> rfl
  have b1 : bks (min L1 L2) (cm ⟨k, (L1 : Int), ⟨#[]⟩⟩) (cms la) = cms (if min L1 L2 < L1 then ⟨k, (L1 : Int) - ((min L1 L2 : Nat) : Int), ⟨#[]⟩⟩ :: la else la) := by
    unfold bks
    rw [e1.1, e1.2.2]
    split <;> rfl
  have b2 : bks (min L1 L2) (cm ⟨j, (L2 : Int), ⟨#[]⟩⟩) (cms lb) = cms (if min L1 L2 < L2 then ⟨j, (L2 : Int) - ((min L1 L2 : Nat) : Int), ⟨#[]⟩⟩ :: lb else lb) := by
    unfold bks
    rw [e2.1, e2.2.2]
    split <;> rfl
  rw [p1, p2, b1, b2] at h
  exact h
theorem kc_small {X0 X1 : List A} {k : Nat} {p q : Int} {L1 L2 : Nat} {la lb xs ys : List S43} (h : PM X0 X1 k (cms (⟨p, (L1 : Int), ⟨#[]⟩⟩ :: la)) (cms (⟨q, (L2 : Int), ⟨#[]⟩⟩ :: lb)) xs ys) (hp : p = 1 ∨ p = 3) (hq : q = 1 ∨ q = 3) : L1 ≤ 200000 ∧ L2 ≤ 200000 := by
  have e1 := csz_at h.va.head
  have e2 := csz_at h.vb.head
  have c1 := (kc_parts (n := L1) (m := 0) hp).1
  have c2 := (kc_parts (n := L2) (m := 0) hq).1
  rw [c1] at e1
  rw [c2] at e2
  have hl := h.left
  have hx := h.lx
  simp only [cms, List.map_cons, at_cons, List.length_append] at hl
  rw [e1, e2] at hl
  omega
theorem pair_small (l0 l1 : List S43) (hs : inC (cms l0) = inC (cms l1)) (hb : inC (cms l0) + outC (cms l0) + inC (cms l1) + outC (cms l1) ≤ 50000) :
    ins (pairA (norm (at_ (cms l0))) (norm (at_ (cms l1)))).1 + outs (pairA (norm (at_ (cms l0))) (norm (at_ (cms l1)))).1 ≤ 100000 ∧ ins (pairA (norm (at_ (cms l0))) (norm (at_ (cms l1)))).2 + outs (pairA (norm (at_ (cms l0))) (norm (at_ (cms l1)))).2 ≤ 100000 := by
  have hIO : ins (norm (at_ (cms l0))) = ins (norm (at_ (cms l1))) := by rw [ins_norm, ins_norm]; exact hs
  have hpi := pair_ins _ _ hIO
  have hpo := pair_outs _ _ hIO
  have hpn := pair_nput _ _ hIO
  have q1 := outs_ins (pairA (norm (at_ (cms l0))) (norm (at_ (cms l1)))).1
  have q2 := nput_le (norm (at_ (cms l0)))
  have i0 : ins (norm (at_ (cms l0))) = inC (cms l0) := ins_norm _
  have i1 : ins (norm (at_ (cms l1))) = inC (cms l1) := ins_norm _
  have o0 : outs (norm (at_ (cms l0))) = outC (cms l0) := outs_norm _
  have o1 : outs (norm (at_ (cms l1))) = outC (cms l1) := outs_norm _
  rw [hpi.1, hpn.1] at q1
  rw [hpi.1, hpi.2, ← hpo]
  constructor <;> omega
theorem rem_at {w : World} {g o n c : Nat} {x : S43} {l : List S43} (h : Rem w g (.slice (some ⟨g, o, none⟩) n c) (x :: l)) : w.cell? ⟨g, o, none⟩ = some (.int .i64 x.f0) ∧ w.cell? ⟨g, o + 1, none⟩ = some (.int .i64 x.f1) ∧ w.cell? ⟨g, o + 2, none⟩ = some (.string x.f2) ∧ (∀ j, w.frozen? ⟨g, j, none⟩ = false) ∧ Rem w g (.slice (some ⟨g, o + 3, none⟩) l.length (c - 1)) l := by
  obtain ⟨o', c', e, _, z0, z1, z2, z3, z4, _⟩ := h.cells
  simp only [Value.slice.injEq, Option.some.injEq, Addr.mk.injEq] at e
  obtain ⟨⟨_, rfl, _⟩, _, rfl⟩ := e
  exact ⟨z0, z1, z2, z3, z4⟩
theorem nf_start (l0 l1 : List S43) (hv0 : Vl (cms l0)) (hv1 : Vl (cms l1)) (hs : inC (cms l0) = inC (cms l1)) (hb : inC (cms l0) + outC (cms l0) + inC (cms l1) + outC (cms l1) ≤ 50000) :
    ∃ k, PM (norm (at_ (cms l0))) (norm (at_ (cms l1))) k (cms (scs (nf (at_ (cms l0))))) (cms (scs (nf (at_ (cms l1))))) [] [] := by
  rw [cms_scs, cms_scs]
  have e0 := at_nf (at_ (cms l0))
  have e1 := at_nf (at_ (cms l1))
  have h1 := at_len (norm (at_ (cms l0)))
  have h2 := at_len (norm (at_ (cms l1)))
  rw [ins_norm, outs_norm] at h1 h2
  refine ⟨_, nf_ok (at_ (cms l0)) 0 [] 0, nf_ok (at_ (cms l1)) 0 [] 0, Vl.nil, Vl.nil, ?_, ?_, ?_, rfl, ?_, ?_⟩
  · rw [e0, e1, ins_norm, ins_norm]; exact hs
  · rw [e0, e1]; rfl
  · rw [e0, e1]; rfl
  · rw [e0, e1]; unfold inC outC at hb; simp only [List.length_nil]; omega
  · rw [e0, e1]; unfold inC outC at hb; simp only [List.length_nil]; omega
/-! ### The walk -/
attribute [local go_sem high] max_ints min_ints
set_option maxRecDepth 100000 in
set_option maxHeartbeats 1000000 in
theorem pair7_bad (A0 A1 : Option Addr) (c0 c1 : Nat) (l0 l1 : List (S43)) (w : World) (hr0 : Kd.C k43 w A0 l0.length l0) (hc0 : l0.length ≤ c0) (hr1 : Kd.C k43 w A1 l1.length l1) (hc1 : l1.length ≤ c1) (hg : good2 (cms l0) (cms l1) = true) (hs : ¬ inC (cms l0) = inC (cms l1)) :
    Calls Try.prog 16 #[.slice A0 l0.length c0, .slice A1 l1.length c1] w (PairPost w [] [] 7) := by
  obtain ⟨hv0, hv1, hb⟩ := good2_iff.1 hg
  have hg0 : good (cms l0) = true := good_iff.2 ⟨hv0, by omega⟩
  have hg1 : good (cms l1) = true := good_iff.2 ⟨hv1, by omega⟩
  have t1 : ((inC (cms l0) : Int) != (inC (cms l1) : Int)) = true := by rw [bne_iff_ne]; omega
  have HI0 := Go.Cx.hid (ref_in l0 hg0 (l0.length + 1) (by omega))
  have HI1 := Go.Cx.hid (ref_in l1 hg1 (l1.length + 1) (by omega))
  have HR0 := Go.Cx.hid hr0
  have HR1 := Go.Cx.hid hr1
  have HC0 := Go.Cx.hid hc0
  have HC1 := Go.Cx.hid hc1
  have K0 : Hid (0 = 0) := Go.Cx.hid rfl
  clear hr0 hr1 hg hs hc0 hc1 hv0 hv1 hb hg0 hg1
  go_enter Try.func16, Try.ntmps16
  go_wp2_with (first
    | (have K0' := K0; go_at_call 22; refine (comitiaref4_In.calls _ A0 c0 l0 _ _ HR0.out HC0.out HI0.out).mono ?_; clear K0 K0'; rintro e w1 ⟨rfl, ⟨n1, rfl⟩⟩)
    | (go_at_call 22; refine (comitiaref4_In.calls _ A1 c1 l1 _ _ (by exact HR1.out) HC1.out HI1.out).mono ?_; rintro e w2 ⟨rfl, ⟨n2, rfl⟩⟩))
  go_ret3
  exact ⟨_, _, rfl, Kd.R_nil _ _ _ _ _, Kd.R_nil _ _ _ _ _, ((Ch.refl (fun _ => False) w).drewN (n1 + n2)).below0⟩
set_option maxRecDepth 100000 in
set_option maxHeartbeats 4000000 in
theorem pair7_any (A0 A1 : Option Addr) (c0 c1 : Nat) (l0 l1 : List (S43)) (w : World) (hr0 : Kd.C k43 w A0 l0.length l0) (hc0 : l0.length ≤ c0) (hr1 : Kd.C k43 w A1 l1.length l1) (hc1 : l1.length ≤ c1) (hg : good2 (cms l0) (cms l1) = true) (hs : inC (cms l0) = inC (cms l1)) :
    Calls Try.prog 16 #[.slice A0 l0.length c0, .slice A1 l1.length c1] w (PairPost w (scs (nf (pairA (norm (at_ (cms l0))) (norm (at_ (cms l1)))).1)) (scs (nf (pairA (norm (at_ (cms l0))) (norm (at_ (cms l1)))).2)) 0) := by
  obtain ⟨hv0, hv1, hb⟩ := good2_iff.1 hg
  have hg0 : good (cms l0) = true := good_iff.2 ⟨hv0, by omega⟩
  have hg1 : good (cms l1) = true := good_iff.2 ⟨hv1, by omega⟩
  have t1 : ((inC (cms l0) : Int) != (inC (cms l1) : Int)) = false := bne_eq_false_iff_eq.2 (by rw [hs])
  have HI0 := Go.Cx.hid (ref_in l0 hg0 (l0.length + 1) (by omega))
  have HI1 := Go.Cx.hid (ref_in l1 hg1 (l1.length + 1) (by omega))
  have HN0 := Go.Cx.hid (ref_normal l0 hg0 (2 * l0.length + 4) (Nat.le_refl _))
  have HN1 := Go.Cx.hid (ref_normal l1 hg1 (2 * l1.length + 4) (Nat.le_refl _))
  have HR0 := Go.Cx.hid hr0
  have HR1 := Go.Cx.hid hr1
  have HC0 := Go.Cx.hid hc0
  have HC1 := Go.Cx.hid hc1
  have HS := Go.Cx.hid hs
  have HBD := Go.Cx.hid hb
  have K0 : Hid (0 = 0) := Go.Cx.hid rfl
  have K1 : Hid (1 = 1) := Go.Cx.hid rfl
  have NV := Go.Cx.hid (nf_start l0 l1 hv0 hv1 hs hb)
  have SZX := Go.Cx.hid (pair_small l0 l1 hs hb).1
  have SZY := Go.Cx.hid (pair_small l0 l1 hs hb).2
  clear hr0 hr1 hg hs hc0 hc1 hv0 hv1 hb hg0 hg1
  obtain ⟨L0, hL0⟩ : ∃ L, L = scs (nf (at_ (cms l0))) := ⟨_, rfl⟩
  obtain ⟨L1, hL1⟩ : ∃ L, L = scs (nf (at_ (cms l1))) := ⟨_, rfl⟩
  rw [← hL0, ← hL1] at NV
  rw [← hL0] at HN0
  rw [← hL1] at HN1
  clear hL0 hL1
  obtain ⟨X0, hX0⟩ : ∃ X, X = norm (at_ (cms l0)) := ⟨_, rfl⟩
  obtain ⟨X1, hX1⟩ : ∃ X, X = norm (at_ (cms l1)) := ⟨_, rfl⟩
  rw [← hX0, ← hX1] at NV SZX SZY ⊢
  clear hX0 hX1
  go_enter Try.func16, Try.ntmps16
  go_upto_region 5 with (first
    | (have K0' := K0; go_at_call 22; refine (comitiaref4_In.calls _ A0 c0 l0 _ _ HR0.out HC0.out HI0.out).mono ?_; clear K0 K0'; rintro e w1 ⟨rfl, ⟨n1, rfl⟩⟩)
    | (go_at_call 22; refine (comitiaref4_In.calls _ A1 c1 l1 _ _ (by exact HR1.out) HC1.out HI1.out).mono ?_; rintro e w2 ⟨rfl, ⟨n2, rfl⟩⟩; have CD := Go.Cx.hid ((Ch.refl (fun _ => False) w).drewN (n1 + n2)))
    | (have K1' := K1; go_at_call 23; refine (comitiaref4_Normal.calls _ A0 c0 l0 _ _ (Kd.C_below HR0.out CD.out.below0) HC0.out HN0.out).mono ?_; clear K1 K1'; rintro e w3 ⟨v0, rfl, hv0, hb⟩; have V0 := Go.Cx.hid hv0; have C3 := Go.Cx.hid (CD.out.f (Ch.of_below hb)); clear hv0 hb)
    | (go_at_call 23; refine (comitiaref4_Normal.calls _ A1 c1 l1 _ _ (Kd.C_below HR1.out C3.out.below0) HC1.out HN1.out).mono ?_; rintro e w4 ⟨v1, rfl, hv1, hb⟩; have V1 := Go.Cx.hid hv1; have C34 := Go.Cx.hid (Ch.of_below hb); have C4 := Go.Cx.hid (C3.out.f (Ch.of_below hb)); clear hv1 hb))
  obtain ⟨Z0, e0, rfl⟩ := form3 V0.out
  obtain ⟨Z1, e1, rfl⟩ := form3 V1.out
  have O0 := (own_of_R V0.out).2
  have O1 := (own_of_R V1.out).2
  obtain ⟨ga, RA3, pa⟩ := rem_own rfl O0
  obtain ⟨gb, RB, pb⟩ := rem_own rfl O1
  have RA := RA3.ch C34.out id
  have s3 := C3.out.size
  have s34 := C34.out.size
  obtain ⟨k0, hpm⟩ := NV.out
  have HI : Hid (J7 w X0 X1 k0 (.slice Z0 L0.length e0) (.slice Z1 L1.length e1) (.slice none 0 0) (.slice none 0 0) w4) := Go.Cx.hid
    ⟨ga, gb, L0, L1, none, 0, 0, [], none, 0, 0, [], rfl, rfl, ⟨RA, RB, Own.nil _ _ _ _, Own.nil _ _ _ _, rfl, rfl, fun h1 h2 => by have := pa h1; have := pb h2; omega, fun h => ⟨(pa h).1, by have := (pa h).2; omega⟩, fun h => ⟨by have := (pb h).1; omega, (pb h).2⟩, (fun _ h => by cases h), (fun _ h => by cases h), (fun _ _ h => by cases h), C4.out⟩, hpm⟩
  clear V0 V1 O0 O1 RA3 RB RA pa pb s3 s34 hpm NV C3 C34 C4 CD HN0 HN1 HI0 HI1
  go_loopg [0, 1, 7, 8] k0 (fun k v0 v1 v7 v8 wr => Hid (J7 w X0 X1 k v0 v1 v7 v8 wr))
  case atStart => exact HI
  case round =>
    clear HI
    obtain ⟨ga, gb, la, lb, bx, mx, cx, xs, by_, my, cy, ys, rfl, rfl, hT, hM⟩ := hrel.out
    have hxz : mx + 1 ≤ maxLen := by have := hM.lx; have := hT.lx; unfold maxLen; by_cases h0 : gk = 0 <;> omega
    have hxz2 : (mx + 1) * 32 ≤ 140737488355328 := by have := hM.lx; have := hT.lx; omega
    have hyz : my + 1 ≤ maxLen := by have := hM.ly; have := hT.ly; unfold maxLen; omega
    have hyz2 : (my + 1) * 32 ≤ 140737488355328 := by have := hM.ly; have := hT.ly; omega
    have T := Go.Cx.hid hT
    have PMH := Go.Cx.hid hM
    by_cases hA : ∃ x la', la = x :: la' ∧ x.f0 = 2
-- [DEV
    · as_aux_lemma =>
      obtain ⟨x, la', rfl, hx⟩ := hA
      obtain ⟨o, c, rfl, hcc, x0, x1, x2, hfz, hrem, hset⟩ := hT.ra.cells
      obtain ⟨f0, f1, f2⟩ := x
      simp only at hx x0 x1 x2
      subst hx
      have HST := Go.Cx.hid (PStep.left (cm ⟨2, f1, f2⟩) (cms la') (cms lb) rfl)
      have ecs := Go.Cx.hid (show (csz (cm ⟨2, f1, f2⟩) : Int) = (f2.size : Int) by unfold csz; rw [if_pos (show (cm ⟨2, f1, f2⟩).k = 2 from rfl)]; show ((f2.data.toList.length : Nat) : Int) = _; rw [Array.length_toList]; rfl)
      obtain ⟨na, hna⟩ : ∃ na, na = la'.length := ⟨_, rfl⟩
      rw [← hna] at hcc ⊢
      have HNA := Go.Cx.hid hna
      have hn1 : (0 : Int) < ((na + 1 : Nat) : Int) := by omega
      have hn2 : (1 : Int) ≤ ((na + 1 : Nat) : Int) := by omega
      have hcc2 : ((na + 1 : Nat) : Int) ≤ (c : Int) := by omega
      have tk : True := trivial
      clear hrel hT hM hset hrem hna hfz
      go_wp2_with (first
        | (have tk2 := tk; at_builtin; refine wpList_app rfl _ _ _ _ rfl w.heap.size 43 3 32 _ et_comp bx mx cx _ rfl (T.out.f ((Ch.refl _ wr).alloc _)).ox _ 1 _ rfl (src3 _ ⟨2, f1, f2⟩ _ rfl) hxz hxz2 (T.out.f ((Ch.refl _ wr).alloc _)).ch.size ?_; intro a3 c3 w3 hO hS hC hN; have T3 := Go.Cx.hid ((T.out.f ((Ch.refl _ wr).alloc _)).putX hC hO hN); obtain ⟨z0, z1, z2, _, _⟩ := rem_at T3.out.ra; clear tk tk2; clear hO hS hC hN)
        | (at_builtin; refine wpList_app rfl _ _ _ _ rfl w.heap.size 43 3 32 _ et_comp by_ my cy _ rfl (T3.out.f ((Ch.refl _ w3).alloc _)).oy _ 1 _ rfl (src3 _ ⟨1, (f2.size : Int), ⟨#[]⟩⟩ _ rfl) hyz hyz2 (T3.out.f ((Ch.refl _ w3).alloc _)).ch.size ?_; intro a5 c5 w5 hO hS hC hN; have T5 := Go.Cx.hid ((T3.out.f ((Ch.refl _ w3).alloc _)).putY hC hO hN); clear hO hS hC hN))
      all_goals (
        obtain ⟨k', hk', hM'⟩ := PMH.out.step (ox := [⟨2, f1, f2⟩]) (oy := [⟨1, (f2.size : Int), ⟨#[]⟩⟩]) (ra' := cms la') (rb' := cms lb) (by have h := HST.out; rw [ecs.out] at h; exact h)
        go_roundg k'
        case measure => exact hk'
        case rel => exact Go.Cx.hid ⟨ga, gb, la', lb, a3, mx + 1, c3, _, a5, my + 1, c5, _, rfl, rfl, T5.out.heads (by have hq := (rem_at T5.out.ra).2.2.2.2; rw [← HNA.out] at hq; first | exact hq | exact rem_next hq HNA.out hcc (by assumption)) T5.out.rb (fun _ h => by cases h) id, hM'⟩)
-- DEV]
    have hA1 : ∀ x la', la = x :: la' → x.f0 ≠ 2 := fun x la' e h => hA ⟨x, la', e, h⟩
    clear hA
    by_cases hB : ∃ y lb', lb = y :: lb' ∧ y.f0 = 2
-- [DEV
    · as_aux_lemma =>
      obtain ⟨y, lb', rfl, hy⟩ := hB
      obtain ⟨o, c, rfl, hcc, y0, y1, y2, hfz, hrem, hset⟩ := hT.rb.cells
      obtain ⟨f0, f1, f2⟩ := y
      simp only at hy y0 y1 y2
      subst hy
      have HST := Go.Cx.hid (PStep.right (cms la) (cm ⟨2, f1, f2⟩) (cms lb') rfl (by
        intro d m e
        cases la with
        | nil => cases e
        | cons x la' => have := hA1 x la' rfl; simp only [cms, List.map_cons, List.cons.injEq] at e; rw [← e.1]; exact this))
      have ecs := Go.Cx.hid (show (csz (cm ⟨2, f1, f2⟩) : Int) = (f2.size : Int) by unfold csz; rw [if_pos (show (cm ⟨2, f1, f2⟩).k = 2 from rfl)]; show ((f2.data.toList.length : Nat) : Int) = _; rw [Array.length_toList]; rfl)
      obtain ⟨nb, hnb⟩ : ∃ nb, nb = lb'.length := ⟨_, rfl⟩
      rw [← hnb] at hcc ⊢
      have HNB := Go.Cx.hid hnb
      have hn1 : (0 : Int) < ((nb + 1 : Nat) : Int) := by omega
      have hn2 : (1 : Int) ≤ ((nb + 1 : Nat) : Int) := by omega
      have hcc2 : ((nb + 1 : Nat) : Int) ≤ (c : Int) := by omega
      have tk : True := trivial
      cases la with
      | nil =>
        obtain ⟨Aa, cca, rfl, _⟩ := hT.ra
        clear hrel hT hM hset hrem hnb hfz hA1
        simp only [List.length_nil]
        go_wp2_with (first
          | (have tk2 := tk; at_builtin; refine wpList_app rfl _ _ _ _ rfl w.heap.size 43 3 32 _ et_comp bx mx cx _ rfl (T.out.f ((Ch.refl _ wr).alloc _)).ox _ 1 _ rfl (src3 _ ⟨1, (f2.size : Int), ⟨#[]⟩⟩ _ rfl) hxz hxz2 (T.out.f ((Ch.refl _ wr).alloc _)).ch.size ?_; intro a3 c3 w3 hO hS hC hN; have T3 := Go.Cx.hid ((T.out.f ((Ch.refl _ wr).alloc _)).putX hC hO hN); obtain ⟨z0, z1, z2, _, _⟩ := rem_at T3.out.rb; clear tk tk2; clear hO hS hC hN)
          | (at_builtin; refine wpList_app rfl _ _ _ _ rfl w.heap.size 43 3 32 _ et_comp by_ my cy _ rfl (T3.out.f ((Ch.refl _ w3).alloc _)).oy _ 1 _ rfl (src3 _ ⟨2, f1, f2⟩ _ rfl) hyz hyz2 (T3.out.f ((Ch.refl _ w3).alloc _)).ch.size ?_; intro a5 c5 w5 hO hS hC hN; have T5 := Go.Cx.hid ((T3.out.f ((Ch.refl _ w3).alloc _)).putY hC hO hN); clear hO hS hC hN))
        all_goals (
          obtain ⟨k', hk', hM'⟩ := PMH.out.step (ox := [⟨1, (f2.size : Int), ⟨#[]⟩⟩]) (oy := [⟨2, f1, f2⟩]) (ra' := cms []) (rb' := cms lb') (by have h := HST.out; rw [ecs.out] at h; exact h)
          go_roundg k'
          case measure => exact hk'
          case rel => exact Go.Cx.hid ⟨ga, gb, [], lb', a3, mx + 1, c3, _, a5, my + 1, c5, _, rfl, rfl, T5.out.heads T5.out.ra (by have hq := (rem_at T5.out.rb).2.2.2.2; rw [← HNB.out] at hq; first | exact hq | exact rem_next hq HNB.out hcc (by assumption)) id (fun _ h => by cases h), hM'⟩)
      | cons x la' =>
        have hx := hA1 x la' rfl
        obtain ⟨oa, ca', rfl, hca, x0, x1, x2, hfza, hrema, hseta⟩ := hT.ra.cells
        obtain ⟨p0, p1, p2⟩ := x
        simp only at hx x0 x1 x2
        have tx : (p0 == 2) = false := beq_eq_false_iff_ne.2 hx
        obtain ⟨na, hna⟩ : ∃ na, na = la'.length := ⟨_, rfl⟩
        rw [← hna] at hca ⊢
        have HNA := Go.Cx.hid hna
        have hm1 : (0 : Int) < ((na + 1 : Nat) : Int) := by omega
        clear hrel hT hM hset hrem hnb hfz hA1 hrema hseta hna hx hfza
        go_wp2_with (first
          | (have tk2 := tk; at_builtin; refine wpList_app rfl _ _ _ _ rfl w.heap.size 43 3 32 _ et_comp bx mx cx _ rfl (T.out.f ((Ch.refl _ wr).alloc _)).ox _ 1 _ rfl (src3 _ ⟨1, (f2.size : Int), ⟨#[]⟩⟩ _ rfl) hxz hxz2 (T.out.f ((Ch.refl _ wr).alloc _)).ch.size ?_; intro a3 c3 w3 hO hS hC hN; have T3 := Go.Cx.hid ((T.out.f ((Ch.refl _ wr).alloc _)).putX hC hO hN); obtain ⟨z0, z1, z2, _, _⟩ := rem_at T3.out.rb; clear tk tk2; clear hO hS hC hN)
          | (at_builtin; refine wpList_app rfl _ _ _ _ rfl w.heap.size 43 3 32 _ et_comp by_ my cy _ rfl (T3.out.f ((Ch.refl _ w3).alloc _)).oy _ 1 _ rfl (src3 _ ⟨2, f1, f2⟩ _ rfl) hyz hyz2 (T3.out.f ((Ch.refl _ w3).alloc _)).ch.size ?_; intro a5 c5 w5 hO hS hC hN; have T5 := Go.Cx.hid ((T3.out.f ((Ch.refl _ w3).alloc _)).putY hC hO hN); clear hO hS hC hN))
        all_goals (
          obtain ⟨k', hk', hM'⟩ := PMH.out.step (ox := [⟨1, (f2.size : Int), ⟨#[]⟩⟩]) (oy := [⟨2, f1, f2⟩]) (ra' := cms (⟨p0, p1, p2⟩ :: la')) (rb' := cms lb') (by have h := HST.out; rw [ecs.out] at h; exact h)
          go_roundg k'
          case measure => exact hk'
          case rel => exact Go.Cx.hid ⟨ga, gb, (⟨p0, p1, p2⟩ :: la'), lb', a3, mx + 1, c3, _, a5, my + 1, c5, _, rfl, rfl, T5.out.heads (by rw [HNA.out]; exact T5.out.ra) (by have hq := (rem_at T5.out.rb).2.2.2.2; rw [← HNB.out] at hq; first | exact hq | exact rem_next hq HNB.out hcc (by assumption)) id (fun _ h => by cases h), hM'⟩)
-- DEV]
    have hB1 : ∀ y lb', lb = y :: lb' → y.f0 ≠ 2 := fun y lb' e h => hB ⟨y, lb', e, h⟩
    clear hB
    by_cases hD : la = [] ∨ lb = []
-- [DEV
    · as_aux_lemma =>
      have hh := pstep_end hM.va hM.vb hM.fits (by
          intro d m e
          cases la with
          | nil => cases e
          | cons x la' => have := hA1 x la' rfl; simp only [cms, List.map_cons, List.cons.injEq] at e; rw [← e.1]; exact this) (by
          intro d m e
          cases lb with
          | nil => cases e
          | cons y lb' => have := hB1 y lb' rfl; simp only [cms, List.map_cons, List.cons.injEq] at e; rw [← e.1]; exact this) (by rcases hD with rfl | rfl; exact .inl rfl; exact .inr rfl)
      obtain rfl : la = [] := by cases la with
        | nil => rfl
        | cons x l => cases hh.1
      obtain rfl : lb = [] := by cases lb with
        | nil => rfl
        | cons x l => cases hh.2
      obtain ⟨Aa, caa, rfl, _⟩ := hT.ra
      obtain ⟨Ab, cbb, rfl, _⟩ := hT.rb
      have hsx : at_ (cms xs) = (pairA X0 X1).1 := by have := hM.s1; simpa [cms, pairA] using this
      have hsy : at_ (cms ys) = (pairA X0 X1).2 := by have := hM.s2; simpa [cms, pairA] using this
      have hgx : good (cms xs) = true := good_iff.2 ⟨hM.vx, by unfold inC outC; rw [hsx]; exact SZX.out⟩
      have hgy : good (cms ys) = true := good_iff.2 ⟨hM.vy, by unfold inC outC; rw [hsy]; exact SZY.out⟩
      have hnx := ref_normal xs hgx (2 * xs.length + 4) (Nat.le_refl _)
      have hny := ref_normal ys hgy (2 * ys.length + 4) (Nat.le_refl _)
      rw [hsx] at hnx
      rw [hsy] at hny
      have hrx := (Kd.R_reads' (own3 hT.lx hT.ox)).2.2
      have hry := (Kd.R_reads' (own3 hT.ly hT.oy)).2.2
      have HNX := Go.Cx.hid hnx
      have HNY := Go.Cx.hid hny
      have HRX := Go.Cx.hid hrx
      have HRY := Go.Cx.hid hry
      have HCX := Go.Cx.hid hT.ox.sl.2.1
      have HCY := Go.Cx.hid hT.oy.sl.2.1
      have HLX := Go.Cx.hid hT.lx
      have HLY := Go.Cx.hid hT.ly
      have K2 : Hid (2 = 2) := Go.Cx.hid rfl
      have hsw := hT.ch.size
      clear hrel hh hsx hsy hgx hgy hnx hny hrx hry hA1 hB1 hD hM hT
      simp only [List.length_nil]
      go_wp2_with (first
        | (have K2' := K2; go_at_call 23; rw [HLX.out]; refine (comitiaref4_Normal.calls _ bx cx xs _ _ HRX.out (by rw [← HLX.out]; exact HCX.out) HNX.out).mono ?_; clear K2 K2'; rintro e w7 ⟨v0, rfl, ho, hb⟩; have HV0' := Go.Cx.hid ho; have C7 := Go.Cx.hid (Ch.of_below hb); clear ho hb)
        | (go_at_call 23; rw [HLY.out]; refine (comitiaref4_Normal.calls _ by_ cy ys _ _ (Kd.C_below HRY.out C7.out.below0) (by rw [← HLY.out]; exact HCY.out) HNY.out).mono ?_; rintro e w8 ⟨v1, rfl, ho, hb⟩; have HV1' := Go.Cx.hid ho; have HB8 := Go.Cx.hid hb; clear ho hb))
      go_ret3
      obtain ⟨Z0, e0, rfl⟩ := form3 HV0'.out
      obtain ⟨Z1, e1, rfl⟩ := form3 HV1'.out
      have f0 := row_block HV0'.out
      have f1 := row_block HV1'.out
      have s7 := C7.out.size
      refine ⟨_, _, rfl, Kd.R_lower (Kd.R_below (Kd.R_mono (Kd.R_bound HV0'.out) (fun x hx e => ?_)) HB8.out) hsw, Kd.R_lower (Kd.R_mono (Kd.R_bound HV1'.out) (fun x hx e => ?_)) (Nat.le_trans hsw s7), (T.out.ch.f (C7.out.f (Ch.of_below HB8.out))).below0⟩
      · have q := own_at e.symm
        obtain ⟨ad, e2, e3⟩ := q
        have := f1 ad e2
        have := hx.2.2.1
        omega
      · have q := own_at e.symm
        obtain ⟨ad, e2, e3⟩ := q
        have := f0 ad e2
        have := hx.2.1
        omega
-- DEV]
    obtain ⟨x, la', rfl⟩ : ∃ x la', la = x :: la' := by
      cases la with
      | nil => exact absurd (.inl rfl) hD
      | cons x l => exact ⟨_, _, rfl⟩
    obtain ⟨y, lb', rfl⟩ : ∃ y lb', lb = y :: lb' := by
      cases lb with
      | nil => exact absurd (.inr rfl) hD
      | cons x l => exact ⟨_, _, rfl⟩
    obtain ⟨oa, ca, rfl, hca, x0, x1, x2, hfza, hrema, hseta⟩ := hT.ra.cells
    obtain ⟨ob, cb, rfl, hcb, y0, y1, y2, hfzb, hremb, hsetb⟩ := hT.rb.cells
    obtain ⟨p0, L1, hp0, hL1, rfl⟩ := kc_form (hM.va.head) (hA1 _ _ rfl)
    obtain ⟨q0, L2, hq0, hL2, rfl⟩ := kc_form (hM.vb.head) (hB1 _ _ rfl)
    simp only at x0 x1 x2 y0 y1 y2
    have HST := Go.Cx.hid (kc_step (L1 := L1) (L2 := L2) hp0 hq0 la' lb')
    obtain ⟨mn, hmn⟩ : ∃ mn, mn = min L1 L2 := ⟨_, rfl⟩
    rw [← hmn] at HST
    have hmin : min (L1 : Int) (L2 : Int) = (mn : Int) := by omega
    have tx : (p0 == 2) = false := beq_eq_false_iff_ne.2 (by omega)
    have ty : (q0 == 2) = false := beq_eq_false_iff_ne.2 (by omega)
    obtain ⟨na, hna⟩ : ∃ na, na = la'.length := ⟨_, rfl⟩
    obtain ⟨nb, hnb⟩ : ∃ nb, nb = lb'.length := ⟨_, rfl⟩
    rw [← hna] at hca ⊢
    rw [← hnb] at hcb ⊢
    have hn1 : (0 : Int) < ((na + 1 : Nat) : Int) := by omega
    have hm1 : (0 : Int) < ((nb + 1 : Nat) : Int) := by omega
    have HNA := Go.Cx.hid hna
    have HNB := Go.Cx.hid hnb
    have HP0 := Go.Cx.hid hp0
    have HQ0 := Go.Cx.hid hq0
    have HMN := Go.Cx.hid hmn
    have HL1 := Go.Cx.hid hL1
    have HL2 := Go.Cx.hid hL2
    have HCA := Go.Cx.hid hca
    have HCB := Go.Cx.hid hcb
    have HSA := Go.Cx.hid hseta
    have HSB := Go.Cx.hid hsetb
    have HFA := Go.Cx.hid hfza
    have HFB := Go.Cx.hid hfzb
    have NE : ga ≠ gb := hT.ne (by simp) (by simp)
    have GA := Go.Cx.hid (hT.ha (by simp))
    have GB := Go.Cx.hid (hT.hb (by simp))
    clear hrel hT hM hA1 hB1 hD hna hnb hp0 hq0 hmn hL1 hL2 hca hcb hseta hsetb hfza hfzb hrema hremb
    go_upto_region 14 with fail
    go_region_held3 (fun w' => w'.cell? ⟨ga, oa + 1, none⟩ = some (.int .i64 (L1 : Int)) ∧ w'.cell? ⟨gb, ob + 1, none⟩ = some (.int .i64 (L2 : Int))) (go_keep) (fail)
    go_upto_region 15 with fail
    go_cut [10, 11] (fun v10 v11 wc => ∃ G H, v10 = .pointer (some ⟨G, 0, none⟩) ∧ v11 = .pointer (some ⟨H, 0, none⟩) ∧ G ≠ H ∧ wr.heap.size ≤ G ∧ wr.heap.size ≤ H ∧ wc.heap[G]? = some (.cells #[.int .i64 p0, .int .i64 mn, .string ⟨#[]⟩] 43 (0, 0)) ∧ wc.heap[H]? = some (.cells #[.int .i64 q0, .int .i64 mn, .string ⟨#[]⟩] 43 (0, 0)) ∧ Ch (fun _ => False) wr wc)
    case first =>
-- [DEV6
      go_region_held3 (fun w' => w'.cell? ⟨ga, oa, none⟩ = some (.int .i64 p0) ∧ w'.cell? ⟨gb, ob, none⟩ = some (.int .i64 q0)) (go_keep) (fail)
      · go_wp2
        go_meet
        case rel => exact ⟨_, _, rfl, rfl, by omega, Nat.le_refl _, by omega, (two_blk wr _ _).1, (two_blk wr _ _).2, (((Ch.refl _ wr).alloc _).alloc _).drew.drew⟩
      · go_wp2
        go_meet
        case rel => exact ⟨_, _, rfl, rfl, by omega, by omega, Nat.le_refl _, (two_blk wr _ _).2, (two_blk wr _ _).1, (((Ch.refl _ wr).alloc _).alloc _).drew.drew⟩
-- DEV]
    case rest =>
      obtain ⟨G, H, rfl, rfl, NGH, hG, hH, bG, bH, hCh⟩ := hcut
      have T15 := Go.Cx.hid (T.out.f hCh)
      have NX := Go.Cx.hid (show ∀ b : Addr, bx = some b → b.block ≠ G ∧ b.block ≠ H from fun b hb => by have := (T.out.ox.block b hb).2; omega)
      have NY := Go.Cx.hid (show ∀ b : Addr, by_ = some b → b.block ≠ G ∧ b.block ≠ H from fun b hb => by have := (T.out.oy.block b hb).2; omega)
      have hsw := T15.out.ch.size
      have g0 : wc.cell? ⟨G, 0, none⟩ = some (.int .i64 p0) := (cell_blk bG 0).trans rfl
      have g1 : wc.cell? ⟨G, 1, none⟩ = some (.int .i64 mn) := (cell_blk bG 1).trans rfl
      have g2 : wc.cell? ⟨G, 2, none⟩ = some (.string ⟨#[]⟩) := (cell_blk bG 2).trans rfl
      have h0 : wc.cell? ⟨H, 0, none⟩ = some (.int .i64 q0) := (cell_blk bH 0).trans rfl
      have h1 : wc.cell? ⟨H, 1, none⟩ = some (.int .i64 mn) := (cell_blk bH 1).trans rfl
      have h2 : wc.cell? ⟨H, 2, none⟩ = some (.string ⟨#[]⟩) := (cell_blk bH 2).trans rfl
      clear T x0 x1 x2 y0 y1 y2 hG hH bG bH hCh HSA HSB HFA HFB GA GB
      go_upto_block 2 with fail
      go_cut [7, 8] (fun v7 v8 wd => ∃ bx' mx' cx' by' my' cy', v7 = .slice bx' mx' cx' ∧ v8 = .slice by' my' cy' ∧ Hid (T7S w wd ga gb (.slice (some ⟨ga, oa, none⟩) (na + 1) ca) (.slice (some ⟨gb, ob, none⟩) (nb + 1) cb) (⟨p0, (L1 : Int), ⟨#[]⟩⟩ :: la') (⟨q0, (L2 : Int), ⟨#[]⟩⟩ :: lb') bx' mx' cx' (xs ++ (if q0 = 1 then [⟨p0, (mn : Int), ⟨#[]⟩⟩] else [])) by' my' cy' (ys ++ (if p0 = 1 then [⟨q0, (mn : Int), ⟨#[]⟩⟩] else []))))
      case first =>
-- [DEV8
        rw [← HNA.out, ← HNB.out] at T15
        have HX := Go.Cx.hid hxz
        have HX2 := Go.Cx.hid hxz2
        have HY := Go.Cx.hid hyz
        have HY2 := Go.Cx.hid hyz2
        clear HST PMH HMN HL1 HL2 HCA HCB hmin
        by_cases hq : q0 = 1
        · subst hq
          by_cases hp : p0 = 1
          · as_aux_lemma =>
            subst hp
            go_upto_region 17 with fail
            have tk : True := trivial
            go_region_held3 (fun w' => w'.cell? ⟨G, 0, none⟩ = some (.int .i64 1) ∧ w'.cell? ⟨G, 1, none⟩ = some (.int .i64 mn) ∧ w'.cell? ⟨G, 2, none⟩ = some (.string ⟨#[]⟩) ∧ w'.cell? ⟨H, 0, none⟩ = some (.int .i64 1) ∧ w'.cell? ⟨H, 1, none⟩ = some (.int .i64 mn) ∧ w'.cell? ⟨H, 2, none⟩ = some (.string ⟨#[]⟩)) (first
                | exact s6_ch H3.out (by rintro ⟨b, hb, e⟩; exact (NX.out b hb).1 e) (by rintro ⟨b, hb, e⟩; exact (NX.out b hb).2 e) (by assumption)
                | exact s6_ch H5.out (by rintro ⟨b, hb, e⟩; exact (NY.out b hb).1 e) (by rintro ⟨b, hb, e⟩; exact (NY.out b hb).2 e) (by assumption)
                | go_keep)
              (first
                | (have tk2 := tk
                   refine step_app2 rfl _ _ _ _ rfl w.heap.size 43 3 32 _ et_comp bx mx cx _ rfl (T15.out.f (by first | exact (Ch.refl _ _).drew.alloc _ | exact ((Ch.refl _ _).drew.alloc _).alloc _ | exact (Ch.refl _ _).alloc _ | exact ((Ch.refl _ _).alloc _).alloc _)).ox _ 1 _ rfl (src3b ⟨1, (mn : Int), ⟨#[]⟩⟩ (by first | exact alloc_blk_new _ rfl | exact alloc_blk_new _ (Array.size_push _).symm | exact alloc_blk_old _ (alloc_blk_new _ rfl))) HX.out HX2.out (T15.out.f (by first | exact (Ch.refl _ _).drew.alloc _ | exact ((Ch.refl _ _).drew.alloc _).alloc _ | exact (Ch.refl _ _).alloc _ | exact ((Ch.refl _ _).alloc _).alloc _)).ch.size ?_
                   intro a3 c3 w3 hO hC hN
                   have T3 := Go.Cx.hid ((T15.out.f (by first | exact (Ch.refl _ _).drew.alloc _ | exact ((Ch.refl _ _).drew.alloc _).alloc _ | exact (Ch.refl _ _).alloc _ | exact ((Ch.refl _ _).alloc _).alloc _)).putX hC hO hN)
                   have H3 := Go.Cx.hid hC
                   clear hO hC hN tk tk2)
                | (refine step_app2 rfl _ _ _ _ rfl w.heap.size 43 3 32 _ et_comp by_ my cy _ rfl (T3.out.f (by first | exact Ch.refl _ _ | exact (Ch.refl _ _).alloc _)).oy _ 1 _ rfl (src3b ⟨1, (mn : Int), ⟨#[]⟩⟩ (by first | exact alloc_blk_new _ rfl | exact H3.out.heap (alloc_blk_new _ (Array.size_push _).symm) (by rintro ⟨b, hb, e⟩; exact absurd (e ▸ (T15.out.ox.block b hb).2) (by first | exact Nat.lt_irrefl _ | exact Nat.not_lt.2 (Nat.le_succ _))) | exact H3.out.heap (alloc_blk_new _ rfl) (by rintro ⟨b, hb, e⟩; exact absurd (e ▸ (T15.out.ox.block b hb).2) (by first | exact Nat.lt_irrefl _ | exact Nat.not_lt.2 (Nat.le_succ _))) | exact H3.out.heap (alloc_blk_old _ (alloc_blk_new _ rfl)) (by rintro ⟨b, hb, e⟩; exact absurd (e ▸ (T15.out.ox.block b hb).2) (by first | exact Nat.lt_irrefl _ | exact Nat.not_lt.2 (Nat.le_succ _))))) HY.out HY2.out (T3.out.f (by first | exact Ch.refl _ _ | exact (Ch.refl _ _).alloc _)).ch.size ?_
                   intro a5 c5 w5 hO hC hN
                   have T5 := Go.Cx.hid ((T3.out.f (by first | exact Ch.refl _ _ | exact (Ch.refl _ _).alloc _)).putY hC hO hN)
                   have H5 := Go.Cx.hid hC
                   clear hO hC hN H3))
            all_goals (
              go_wp2
              go_meet
              case rel => exact ⟨_, _, _, _, _, _, rfl, rfl, by first | exact T5 | (rw [if_pos rfl]; exact T5) | (rw [if_pos rfl, if_pos rfl]; exact T5)⟩)
          · as_aux_lemma =>
            have tp : (p0 == 1) = false := beq_eq_false_iff_ne.2 hp
            go_wp2_with (at_builtin; refine wpList_app rfl _ _ _ _ rfl w.heap.size 43 3 32 _ et_comp bx mx cx _ rfl (T15.out.f ((Ch.refl _ wc).alloc _)).ox _ 1 _ rfl (src3 _ ⟨p0, (mn : Int), ⟨#[]⟩⟩ _ rfl) HX.out HX2.out (T15.out.f ((Ch.refl _ wc).alloc _)).ch.size ?_; intro a3 c3 w3 hO hS hC hN; have T3 := Go.Cx.hid ((T15.out.f ((Ch.refl _ wc).alloc _)).putX hC hO hN); clear hO hS hC hN)
            go_meet
            case rel => exact ⟨_, _, _, _, _, _, rfl, rfl, by rw [if_neg hp, List.append_nil]; first | exact T3 | (rw [if_pos rfl]; exact T3)⟩
        · have tq : (q0 == 1) = false := beq_eq_false_iff_ne.2 hq
          by_cases hp : p0 = 1
          · as_aux_lemma =>
            subst hp
            go_wp2_with (at_builtin; refine wpList_app rfl _ _ _ _ rfl w.heap.size 43 3 32 _ et_comp by_ my cy _ rfl (T15.out.f ((Ch.refl _ wc).alloc _)).oy _ 1 _ rfl (src3 _ ⟨q0, (mn : Int), ⟨#[]⟩⟩ _ rfl) HY.out HY2.out (T15.out.f ((Ch.refl _ wc).alloc _)).ch.size ?_; intro a5 c5 w5 hO hS hC hN; have T5 := Go.Cx.hid ((T15.out.f ((Ch.refl _ wc).alloc _)).putY hC hO hN); clear hO hS hC hN)
            go_meet
            case rel => exact ⟨_, _, _, _, _, _, rfl, rfl, by rw [if_neg hq, List.append_nil]; first | exact T5 | (rw [if_pos rfl]; exact T5)⟩
          · as_aux_lemma =>
            have tp : (p0 == 1) = false := beq_eq_false_iff_ne.2 hp
            go_wp2
            go_meet
            case rel => exact ⟨_, _, _, _, _, _, rfl, rfl, by rw [if_neg hq, if_neg hp, List.append_nil, List.append_nil]; exact T15⟩
-- DEV]
      case rest =>
        clear T15
        obtain ⟨bx2, mx2, cx2, by2, my2, cy2, rfl, rfl, T22⟩ := hcut
        obtain ⟨z0, z1, z2, zf, _⟩ := rem_at T22.out.ra
        obtain ⟨y0, y1, y2, yf, _⟩ := rem_at T22.out.rb
        simp only at z0 z1 z2 y0 y1 y2
        have hsm := kc_small PMH.out HP0.out HQ0.out
        have hm0 := HMN.out
        have hb1 : -9223372036854775808 ≤ (L1 : Int) - (mn : Int) ∧ (L1 : Int) - (mn : Int) ≤ 9223372036854775807 := by omega
        have hb2 : -9223372036854775808 ≤ (L2 : Int) - (mn : Int) ∧ (L2 : Int) - (mn : Int) ≤ 9223372036854775807 := by omega
        have hw1 : IntKind.i64.wrap ((L1 : Int) - (mn : Int)) = (L1 : Int) - (mn : Int) := by rw [i64_w]; exact w64 hb1.1 hb1.2
        have hw2 : IntKind.i64.wrap ((L2 : Int) - (mn : Int)) = (L2 : Int) - (mn : Int) := by rw [i64_w]; exact w64 hb2.1 hb2.2
        have ED := Go.Cx.hid ((Ch.refl (fun _ => False) wc).drew)
        have z1d := ED.out.cell z1 id
        have y1d := ED.out.cell y1 id
        have zfd : wc.drew.frozen? ⟨ga, oa + 1, none⟩ = false := zf _
        have yfd : wc.drew.frozen? ⟨gb, ob + 1, none⟩ = false := yf _
        have zf1 := zf (oa + 1)
        have yf1 := yf (ob + 1)
        have NEs : gb ≠ ga := NE.symm
        clear hsm hm0 hb1 hb2 g0 g1 g2 h0 h1 h2 zf yf
        go_upto_region 22 with fail
        go_cut [] (fun we => Hid (we.heap[ga]? = (wc.setCell ⟨ga, oa + 1, none⟩ (.int .i64 ((L1 : Int) - (mn : Int)))).heap[ga]?) ∧ Hid (we.heap[gb]? = (wc.setCell ⟨gb, ob + 1, none⟩ (.int .i64 ((L2 : Int) - (mn : Int)))).heap[gb]?) ∧ Hid (Ch (fun k => k = ga ∨ k = gb) wc we))
        case first =>
-- [DEV10
          go_region_with fail
          all_goals (
            go_wp2
            go_meet
            case rel => exact ⟨Go.Cx.hid (far_set _ NE _ _), Go.Cx.hid (set_congr (far_set _ NEs _ _) _ _), Go.Cx.hid (((Ch.refl _ _).set (.inl (.inl rfl))).set (.inl (.inr rfl))).drew⟩)
-- DEV]
        case rest =>
          obtain ⟨he1, he2, hce⟩ := hcut
          have T26 := Go.Cx.hid (T7S.set T22.out (by simp) (by simp) hce.out (Rem.setN T22.out.ra _ he1.out) (Rem.setN T22.out.rb _ he2.out))
          clear T22 z0 z1 z2 y0 y1 y2 hw1 hw2 ED z1d y1d zfd yfd zf1 yf1 he1 he2 hce
          obtain ⟨_, z1, _, _, hqa⟩ := rem_at T26.out.ra
          obtain ⟨_, y1, _, _, hqb⟩ := rem_at T26.out.rb
          simp only at z1 y1
          rw [← HNA.out] at hqa
          rw [← HNB.out] at hqb
          have HQA := Go.Cx.hid hqa
          have HQB := Go.Cx.hid hqb
          obtain ⟨k', hk', hM'⟩ := PMH.out.step HST.out
          have HM' := Go.Cx.hid hM'
          have hm0 := HMN.out
          have hca := HCA.out
          have hcb := HCB.out
          have hn2 : (1 : Int) ≤ ((na + 1 : Nat) : Int) := by omega
          have hcc2 : ((na + 1 : Nat) : Int) ≤ (ca : Int) := by omega
          have hm2 : (1 : Int) ≤ ((nb + 1 : Nat) : Int) := by omega
          have hdd2 : ((nb + 1 : Nat) : Int) ≤ (cb : Int) := by omega
          by_cases ha : mn < L1
          · have ta : ((L1 : Int) - (mn : Int) == 0) = false := beq_eq_false_iff_ne.2 (by omega)
            have hb : ¬ mn < L2 := by omega
            have tb : ((L2 : Int) - (mn : Int) == 0) = true := beq_iff_eq.2 (by omega)
            as_aux_lemma =>
            clear hM' hqa hqb hca hcb hm0
            go_wp2
            all_goals (
              go_roundg k'
              case measure => exact hk'
              case rel => exact Go.Cx.hid ⟨ga, gb, _ :: la', lb', bx2, mx2, cx2, _, by2, my2, cy2, _, rfl, rfl, T26.out.heads T26.out.ra (by first | exact HQB.out | exact rem_next HQB.out HNB.out HCB.out (by assumption)) (fun _ h => by cases h) (fun _ h => by cases h), by have h := HM'.out; rw [if_pos ha, if_neg hb] at h; exact h⟩)
          · have ta : ((L1 : Int) - (mn : Int) == 0) = true := beq_iff_eq.2 (by omega)
            by_cases hb : mn < L2
            · have tb : ((L2 : Int) - (mn : Int) == 0) = false := beq_eq_false_iff_ne.2 (by omega)
              as_aux_lemma =>
              clear hM' hqa hqb hca hcb hm0
              go_wp2
              all_goals (
                go_roundg k'
                case measure => exact hk'
                case rel => exact Go.Cx.hid ⟨ga, gb, la', _ :: lb', bx2, mx2, cx2, _, by2, my2, cy2, _, rfl, rfl, T26.out.heads (by first | exact HQA.out | exact rem_next HQA.out HNA.out HCA.out (by assumption)) T26.out.rb (fun _ h => by cases h) (fun _ h => by cases h), by have h := HM'.out; rw [if_neg ha, if_pos hb] at h; exact h⟩)
            · have tb : ((L2 : Int) - (mn : Int) == 0) = true := beq_iff_eq.2 (by omega)
              as_aux_lemma =>
              clear hM' hqa hqb hca hcb hm0
              go_wp2
              all_goals (
                go_roundg k'
                case measure => exact hk'
                case rel => exact Go.Cx.hid ⟨ga, gb, la', lb', bx2, mx2, cx2, _, by2, my2, cy2, _, rfl, rfl, T26.out.heads (by first | exact HQA.out | exact rem_next HQA.out HNA.out HCA.out (by assumption)) (by first | exact HQB.out | exact rem_next HQB.out HNB.out HCB.out (by assumption)) (fun _ h => by cases h) (fun _ h => by cases h), by have h := HM'.out; rw [if_neg ha, if_neg hb] at h; exact h⟩)
theorem comitiaref7_Pair.calls (A0 : Option Addr) (c0 : Nat) (l0 : List (S43)) (A1 : Option Addr) (c1 : Nat) (l1 : List (S43)) (r1 : List (S43)) (r2 : List (S43)) (r3 : Int) (w : World) (hr0 : Kd.C k43 w A0 l0.length l0) (hc0 : l0.length ≤ c0) (hr1 : Kd.C k43 w A1 l1.length l1) (hc1 : l1.length ≤ c1) (h : comitiaref7_Pair.f l0 l1 = some (r1, r2, r3)) :
    Calls Try.prog 16 #[.slice A0 l0.length c0, .slice A1 l1.length c1] w fun e w' => ∃ v0_ v1_ : Value, e = .returned (.tuple #[v0_, v1_, .int .i64 r3]) ∧ Kd.R k43 43 w' w.heap.size (fun k_ => some k_ ≠ (v1_ : Value).ownBlock) v0_ r1 ∧ Kd.R k43 43 w' w.heap.size (fun k_ => some k_ ≠ (v0_ : Value).ownBlock) v1_ r2 ∧ Below w.heap.size w w' := by
  unfold comitiaref7_Pair.f at h
  by_cases hg : good2 (cms l0) (cms l1) = true
  · rw [if_pos hg] at h
    by_cases hs : inC (cms l0) = inC (cms l1)
    · rw [if_pos hs] at h
      simp only [Option.some.injEq, Prod.mk.injEq] at h
      obtain ⟨rfl, rfl, rfl⟩ := h
      exact pair7_any A0 A1 c0 c1 l0 l1 w hr0 hc0 hr1 hc1 hg hs
    · rw [if_neg hs] at h
      simp only [Option.some.injEq, Prod.mk.injEq] at h
      obtain ⟨rfl, rfl, rfl⟩ := h
      exact pair7_bad A0 A1 c0 c1 l0 l1 w hr0 hc0 hr1 hc1 hg hs
  · rw [if_neg hg] at h
    cases h

end Go.Proofs.Ytjmnflgicolbdaa.Q

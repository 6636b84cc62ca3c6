/- Contracts of Go functions: each call answers what the Lean function of its name answers. Conditions: stand in each theorem. Written by this seat's own program over the kit's printer. -/
import Derived.Test.YtjmnflgicolbdaaQ0
import Derived.Test.YtjmnflgicolbdaaQxcm
import Derived.Test.YtjmnflgicolbdaaQxopIn
import Derived.Test.YtjmnflgicolbdaaQxopNormal
import Derived.Test.YtjmnflgicolbdaaQxtransformkeep
import Derived.Test.YtjmnflgicolbdaaQN
import Derived.WalkMore
import Derived.Deep.RegionLaw
namespace Go.Proofs.Ytjmnflgicolbdaa.Q
open Go.RowKit Go.Proofs.YtjmnflgicolbdaaW.PrintWords Go.Proofs.YtjmnflgicolbdaaW.PrintLast Go.Proofs.YtjmnflgicolbdaaW.PrintMore
attribute [local go_sem] max2_int min2_int max_two min_two max_three min_three max_four min_four   -- for this text's walks alone
set_option linter.unusedVariables false
set_option linter.unusedSimpArgs false

-- HAND
/-! ### transform_Pair: function 15 -/
open Go.OpM Go.Cx Go.F64
-- IMPORT Derived.Test.YtjmnflgicolbdaaQN
-- IMPORT Derived.WalkMore
-- IMPORT Derived.Deep.RegionLaw
def transform_Pair.f (l0 l1 : List (S43)) : Option (List (S43) × List (S43) × Int) :=
  if good2 (cms l0) (cms l1) = true then (if inC (cms l0) = inC (cms l1) then some (scs (nf (pairA (norm (at_ (cms l0))) (norm (at_ (cms l1)))).1), scs (nf (pairA (norm (at_ (cms l0))) (norm (at_ (cms l1)))).2), 0) else some ([], [], 7)) else none
theorem C_ch {S : Nat → Prop} {w w' : World} {A : Option Addr} {l : List S43} (h : Kd.C k43 w A l.length l) (hc : Ch S w w') (hs : ∀ ad, A = some ad → ¬ S ad.block) : Kd.C k43 w' A l.length l := by
  refine ⟨h.1, h.2.1, fun hl => ?_⟩
  obtain ⟨ad, e, hx⟩ := h.2.2 hl
  refine ⟨ad, e, fun j p hp => ?_⟩
  obtain ⟨c, hcl, hK, hcell⟩ := hx j p hp
  obtain rfl := k43_open hK
  refine ⟨_, hcl, k43_mk w' p, fun i u hu => ?_⟩
  exact hc.cell (hcell i u hu) (by
    have e2 : (ad.add (j * (k43).sz + i)).block = ad.block := by unfold Addr.add; split <;> rfl
    rw [e2]; exact hs ad e)
/-- The plain side of the walk. -/
structure PM (a b : List A) (n : Nat) (ra rb : List Cm) (xs ys : List S43) : Prop where
  va : Vl ra
  vb : Vl rb
  vx : Vl (cms xs)
  vy : Vl (cms ys)
  fits : ins (at_ ra) = ins (at_ rb)
  s1 : at_ (cms xs) ++ (pairA (at_ ra) (at_ rb)).1 = (pairA a b).1
  s2 : at_ (cms ys) ++ (pairA (at_ ra) (at_ rb)).2 = (pairA a b).2
  left : n = (at_ ra).length + (at_ rb).length
  lx : xs.length + n ≤ 200000
  ly : ys.length + n ≤ 200000
theorem PM.step {a b : List A} {n : Nat} {ra rb ra' rb' : List Cm} {xs ys ox oy : List S43} (h : PM a b n ra rb xs ys) (s : PStep ra rb (cms ox) (cms oy) ra' rb') : ∃ n', n' < n ∧ PM a b n' ra' rb' (xs ++ ox) (ys ++ oy) := by
  obtain ⟨v1, v2, v3, v4⟩ := s.vl h.va h.vb
  have h1 := s.less h.va h.vb
  obtain ⟨h2, h2'⟩ := s.len
  have h3 := s.pair h.va h.vb
  have e : (cms ox).length = ox.length := by simp [cms]
  have e' : (cms oy).length = oy.length := by simp [cms]
  rw [e] at h2
  rw [e'] at h2'
  have hl := h.left
  have hx := h.lx
  have hy := h.ly
  refine ⟨_, by rw [hl]; exact h1, v3, v4, ?_, ?_, s.fits h.va h.vb h.fits, ?_, ?_, rfl, ?_, ?_⟩
  · unfold cms; rw [List.map_append]; exact h.vx.append v1
  · unfold cms; rw [List.map_append]; exact h.vy.append v2
  · rw [← h.s1, h3]; unfold cms; rw [List.map_append]; simp
  · rw [← h.s2, h3]; unfold cms; rw [List.map_append]; simp
  · simp only [List.length_append]; omega
  · simp only [List.length_append]; omega
/-- What lies in memory at the label: the base is the world with both cursors made. -/
structure P7S (wb wr : World) (A0 A1 : Option Addr) (c0 c1 : Nat) (l0 l1 : List S43) (B1 B2 k1 g1 k2 g2 : Nat) (bx : Option Addr) (mx cx : Nat) (xs : List S43) (by_ : Option Addr) (my cy : Nat) (ys : List S43) : Prop where
  ca : Cur wr B1 A0 c0 l0 k1 g1
  cb : Cur wr B2 A1 c1 l1 k2 g2
  ox : Own wr wb.heap.size 43 3 bx mx cx (encs3 xs)
  oy : Own wr wb.heap.size 43 3 by_ my cy (encs3 ys)
  lx : mx = xs.length
  ly : my = ys.length
  xy : ∀ a b, bx = some a → by_ = some b → a.block ≠ b.block
  ka : k1 ≤ l0.length
  kb : k2 ≤ l1.length
  ch : Ch (fun i => i = B1 ∨ i = B2) wb wr
/-- What stays as it is all the while. -/
structure P7B (wb : World) (A0 A1 : Option Addr) (l0 l1 : List S43) (B1 B2 : Nat) : Prop where
  ra : Kd.C k43 wb A0 l0.length l0
  rb : Kd.C k43 wb A1 l1.length l1
  na : ∀ ad, A0 = some ad → ¬ (ad.block = B1 ∨ ad.block = B2)
  nb : ∀ ad, A1 = some ad → ¬ (ad.block = B1 ∨ ad.block = B2)
  ne : B1 ≠ B2
  h1 : B1 < wb.heap.size
  h2 : B2 < wb.heap.size
theorem P7B.rowA {wb wr : World} {A0 A1 : Option Addr} {l0 l1 : List S43} {B1 B2 : Nat} (h : P7B wb A0 A1 l0 l1 B1 B2) (c : Ch (fun i => i = B1 ∨ i = B2) wb wr) : Kd.C k43 wr A0 l0.length l0 := C_ch h.ra c h.na
theorem P7B.rowB {wb wr : World} {A0 A1 : Option Addr} {l0 l1 : List S43} {B1 B2 : Nat} (h : P7B wb A0 A1 l0 l1 B1 B2) (c : Ch (fun i => i = B1 ∨ i = B2) wb wr) : Kd.C k43 wr A1 l1.length l1 := C_ch h.rb c h.nb
theorem own_ne {w : World} {base : Nat} {e : TypeId} {size : Nat} {a : Option Addr} {n c : Nat} {xs : List Value} (h : Own w base e size a n c xs) {B : Nat} (hB : B < base) : ∀ x, a = some x → x.block ≠ B := fun x hx => by have := (h.block x hx).1; omega
/-- A step that appends nothing. -/
theorem P7S.keep {wb wr wx : World} {A0 A1 : Option Addr} {c0 c1 : Nat} {l0 l1 : List S43} {B1 B2 k1 g1 k2 g2 k1' g1' k2' g2' : Nat} {bx : Option Addr} {mx cx : Nat} {xs : List S43} {by_ : Option Addr} {my cy : Nat} {ys : List S43} (HB : P7B wb A0 A1 l0 l1 B1 B2) (h : P7S wb wr A0 A1 c0 c1 l0 l1 B1 B2 k1 g1 k2 g2 bx mx cx xs by_ my cy ys)
    (ca : Cur wx B1 A0 c0 l0 k1' g1') (cb : Cur wx B2 A1 c1 l1 k2' g2') (ka : k1' ≤ l0.length) (kb : k2' ≤ l1.length) (hx : Ch (fun i => i = B1 ∨ i = B2) wr wx) :
    P7S wb wx A0 A1 c0 c1 l0 l1 B1 B2 k1' g1' k2' g2' bx mx cx xs by_ my cy ys := by
  have no : ∀ {a : Option Addr} {n c : Nat} {xs : List Value}, Own wr wb.heap.size 43 3 a n c xs → Own wx wb.heap.size 43 3 a n c xs := fun ho => ho.ch hx (fun b hb hk => by
    rcases hk with hk | hk
    · exact own_ne ho HB.h1 b hb hk
    · exact own_ne ho HB.h2 b hb hk)
  exact ⟨ca, cb, no h.ox, no h.oy, h.lx, h.ly, h.xy, ka, kb, h.ch.trans hx (fun _ _ e => e)⟩
theorem P7S.mono {wb wr wx : World} {A0 A1 : Option Addr} {c0 c1 : Nat} {l0 l1 : List S43} {B1 B2 k1 g1 k2 g2 : Nat} {bx : Option Addr} {mx cx : Nat} {xs : List S43} {by_ : Option Addr} {my cy : Nat} {ys : List S43} (HB : P7B wb A0 A1 l0 l1 B1 B2) (h : P7S wb wr A0 A1 c0 c1 l0 l1 B1 B2 k1 g1 k2 g2 bx mx cx xs by_ my cy ys) (hx : Ch (fun _ => False) wr wx) :
    P7S wb wx A0 A1 c0 c1 l0 l1 B1 B2 k1 g1 k2 g2 bx mx cx xs by_ my cy ys :=
  h.keep HB (h.ca.ch hx id (C_ch h.ca.row hx (fun _ _ => id))) (h.cb.ch hx id (C_ch h.cb.row hx (fun _ _ => id))) h.ka h.kb (Ch.weaken (T := fun i => i = B1 ∨ i = B2) hx (fun _ _ h => h.elim))
/-- A take from the first cursor. -/
theorem P7S.takeA {wb wr wx : World} {A0 A1 : Option Addr} {c0 c1 : Nat} {l0 l1 : List S43} {B1 B2 k1 g1 k2 g2 m : Nat} {bx : Option Addr} {mx cx : Nat} {xs : List S43} {by_ : Option Addr} {my cy : Nat} {ys : List S43} (HB : P7B wb A0 A1 l0 l1 B1 B2) (h : P7S wb wr A0 A1 c0 c1 l0 l1 B1 B2 k1 g1 k2 g2 bx mx cx xs by_ my cy ys)
    (hz : ∀ h : k1 < l0.length, csz (cm l0[k1]) ≤ 100000) (hk : k1 < l0.length) (hk2 : k1 ≤ 100000) (hx : Ch (fun i => i = B1) wr wx) (hb : wx.heap[B1]? = some (.cells #[.slice A0 l0.length c0, .complex .f64 (fl (nextK (cms l0) k1 g1 m : Nat)) (fl (nextG (cms l0) k1 g1 m : Nat))] 62 (0, 0))) :
    P7S wb wx A0 A1 c0 c1 l0 l1 B1 B2 (nextK (cms l0) k1 g1 m) (nextG (cms l0) k1 g1 m) k2 g2 bx mx cx xs by_ my cy ys :=
  h.keep HB (cur_next h.ca hz hk hk2 hb (C_ch h.ca.row hx (fun ad e => fun e2 => HB.na ad e (.inl e2)))) (h.cb.ch hx (fun e => HB.ne e.symm) (C_ch h.cb.row hx (fun ad e => fun e2 => HB.nb ad e (.inl e2)))) (by unfold nextK; have := h.ka; split <;> (first | omega | (split <;> omega))) h.kb (hx.weaken (fun _ _ e => .inl e))
theorem P7S.takeB {wb wr wx : World} {A0 A1 : Option Addr} {c0 c1 : Nat} {l0 l1 : List S43} {B1 B2 k1 g1 k2 g2 m : Nat} {bx : Option Addr} {mx cx : Nat} {xs : List S43} {by_ : Option Addr} {my cy : Nat} {ys : List S43} (HB : P7B wb A0 A1 l0 l1 B1 B2) (h : P7S wb wr A0 A1 c0 c1 l0 l1 B1 B2 k1 g1 k2 g2 bx mx cx xs by_ my cy ys)
    (hz : ∀ h : k2 < l1.length, csz (cm l1[k2]) ≤ 100000) (hk : k2 < l1.length) (hk2 : k2 ≤ 100000) (hx : Ch (fun i => i = B2) wr wx) (hb : wx.heap[B2]? = some (.cells #[.slice A1 l1.length c1, .complex .f64 (fl (nextK (cms l1) k2 g2 m : Nat)) (fl (nextG (cms l1) k2 g2 m : Nat))] 62 (0, 0))) :
    P7S wb wx A0 A1 c0 c1 l0 l1 B1 B2 k1 g1 (nextK (cms l1) k2 g2 m) (nextG (cms l1) k2 g2 m) bx mx cx xs by_ my cy ys :=
  h.keep HB (h.ca.ch hx (fun e => HB.ne e) (C_ch h.ca.row hx (fun ad e => fun e2 => HB.na ad e (.inr e2)))) (cur_next h.cb hz hk hk2 hb (C_ch h.cb.row hx (fun ad e => fun e2 => HB.nb ad e (.inr e2)))) h.ka (by unfold nextK; have := h.kb; split <;> (first | omega | (split <;> omega))) (hx.weaken (fun _ _ e => .inr e))
theorem keep_any (n : Nat) (w : World) : Calls Try.prog 34 #[.int .i64 (n : Int)] w fun e w' => e = .returned (.agg #[.int .i64 1, .int .i64 (n : Int), .string ⟨#[]⟩]) ∧ Ch (fun _ => False) w w' :=
  (transform_keep.calls (n : Int) 1 (n : Int) ⟨#[]⟩ w rfl).mono (fun e w' h => ⟨h.1, Ch.of_below h.2⟩)
/-- An append to the first row. -/
theorem P7S.putX {wb wr w3 : World} {A0 A1 : Option Addr} {c0 c1 : Nat} {l0 l1 : List S43} {B1 B2 k1 g1 k2 g2 : Nat} {bx a3 : Option Addr} {mx m' cx c3 : Nat} {xs o : List S43} {by_ : Option Addr} {my cy : Nat} {ys : List S43} (HB : P7B wb A0 A1 l0 l1 B1 B2) (h : P7S wb wr A0 A1 c0 c1 l0 l1 B1 B2 k1 g1 k2 g2 bx mx cx xs by_ my cy ys)
    (hc : Ch (fun k => ∃ b, bx = some b ∧ b.block = k) wr w3) (hm : m' = mx + o.length) (ho : Own w3 wb.heap.size 43 3 a3 m' c3 (encs3 xs ++ encs3 o)) (hn : a3 = bx ∧ c3 = cx ∨ ∀ b, a3 = some b → wr.heap.size ≤ b.block) :
    P7S wb w3 A0 A1 c0 c1 l0 l1 B1 B2 k1 g1 k2 g2 a3 m' c3 (xs ++ o) by_ my cy ys := by
  have n1 : ¬ ∃ b, bx = some b ∧ b.block = B1 := fun ⟨b, hb, e⟩ => own_ne h.ox HB.h1 b hb e
  have n2 : ¬ ∃ b, bx = some b ∧ b.block = B2 := fun ⟨b, hb, e⟩ => own_ne h.ox HB.h2 b hb e
  have hb3 : Ch (fun i => i = B1 ∨ i = B2) wb w3 := Ch.app_own h.ch h.ox (Nat.le_refl _) hc
  refine ⟨h.ca.ch hc n1 (HB.rowA hb3), h.cb.ch hc n2 (HB.rowB hb3), by rw [encs3_app]; exact ho, h.oy.ch hc (fun b hb ⟨a, ha, e⟩ => h.xy a b ha hb e), ?_, h.ly, ?_, h.ka, h.kb, hb3⟩
  · have := h.lx; simp; omega
  · intro a b ha hb
    rcases hn with ⟨rfl, _⟩ | hn
    · exact h.xy a b ha hb
    · have := hn a ha
      have := (h.oy.block b hb).2
      omega
/-- An append to the second row. -/
theorem P7S.putY {wb wr w3 : World} {A0 A1 : Option Addr} {c0 c1 : Nat} {l0 l1 : List S43} {B1 B2 k1 g1 k2 g2 : Nat} {by_ a3 : Option Addr} {my m' cy c3 : Nat} {ys o : List S43} {bx : Option Addr} {mx cx : Nat} {xs : List S43} (HB : P7B wb A0 A1 l0 l1 B1 B2) (h : P7S wb wr A0 A1 c0 c1 l0 l1 B1 B2 k1 g1 k2 g2 bx mx cx xs by_ my cy ys)
    (hc : Ch (fun k => ∃ b, by_ = some b ∧ b.block = k) wr w3) (hm : m' = my + o.length) (ho : Own w3 wb.heap.size 43 3 a3 m' c3 (encs3 ys ++ encs3 o)) (hn : a3 = by_ ∧ c3 = cy ∨ ∀ b, a3 = some b → wr.heap.size ≤ b.block) :
    P7S wb w3 A0 A1 c0 c1 l0 l1 B1 B2 k1 g1 k2 g2 bx mx cx xs a3 m' c3 (ys ++ o) := by
  have n1 : ¬ ∃ b, by_ = some b ∧ b.block = B1 := fun ⟨b, hb, e⟩ => own_ne h.oy HB.h1 b hb e
  have n2 : ¬ ∃ b, by_ = some b ∧ b.block = B2 := fun ⟨b, hb, e⟩ => own_ne h.oy HB.h2 b hb e
  have hb3 : Ch (fun i => i = B1 ∨ i = B2) wb w3 := Ch.app_own h.ch h.oy (Nat.le_refl _) hc
  refine ⟨h.ca.ch hc n1 (HB.rowA hb3), h.cb.ch hc n2 (HB.rowB hb3), h.ox.ch hc (fun b hb ⟨a, ha, e⟩ => h.xy b a hb ha e.symm), by rw [encs3_app]; exact ho, h.lx, ?_, ?_, h.ka, h.kb, hb3⟩
  · have := h.ly; simp; omega
  · intro a b ha hb
    rcases hn with ⟨rfl, _⟩ | hn
    · exact h.xy a b ha hb
    · have := hn b hb
      have := (h.ox.block a ha).2
      omega
structure P7W (w wb : World) (B1 B2 : Nat) : Prop where
  ch : Ch (fun _ => False) w wb
  b1 : w.heap.size ≤ B1
  b2 : w.heap.size ≤ B2
inductive PJ (w : World) (Z0 Z1 : Value) (l0 l1 : List S43) (a b : List A) : Nat → Act → World → Prop where
  | mk {n : Nat} {wr wb : World} {A0 A1 : Option Addr} {c0 c1 B1 B2 k1 g1 k2 g2 : Nat} {bx : Option Addr} {mx cx : Nat} {xs : List S43} {by_ : Option Addr} {my cy : Nat} {ys : List S43} {u2 u3 u6 u9 u10 u11 u12 u13 u14 u15 u16 u17 u18 u19 u20 u21 u22 u23 u24 u25 u26 u27 u28 u29 u30 u31 u32 u33 u34 u35 u36 u37 u38 u39 u40 u41 u42 u43 u44 u45 u46 u47 u48 u49 u50 u51 u52 u53 u54 u55 u56 u57 u58 u59 u60 u61 u62 u63 u64 u65 u66 u67 u68 u69 u70 u71 u72 u73 u74 u75 u76 u77 u78 u79 u80 u81 u82 u83 u84 u85 u86 u87 u88 u89 u90 u91 u92 u93 u94 u95 u96 u97 u98 u99 u100 u101 u102 u103 u104 u105 u106 : Value} (h1 : Hid (P7W w wb B1 B2)) (h2 : Hid (P7B wb A0 A1 l0 l1 B1 B2)) (h3 : Hid (P7S wb wr A0 A1 c0 c1 l0 l1 B1 B2 k1 g1 k2 g2 bx mx cx xs by_ my cy ys)) (h4 : Hid (PM a b n (restS l0 k1 g1) (restS l1 k2 g2) xs ys)) :
    PJ w Z0 Z1 l0 l1 a b n { tmps := #[Z0, Z1, u2, u3, .slice bx mx cx, .slice by_ my cy, u6, .pointer (some ⟨B1, 0, none⟩), .pointer (some ⟨B2, 0, none⟩), u9, u10, u11, u12, u13, u14, u15, u16, u17, u18, u19, u20, u21, u22, u23, u24, u25, u26, u27, u28, u29, u30, u31, u32, u33, u34, u35, u36, u37, u38, u39, u40, u41, u42, u43, u44, u45, u46, u47, u48, u49, u50, u51, u52, u53, u54, u55, u56, u57, u58, u59, u60, u61, u62, u63, u64, u65, u66, u67, u68, u69, u70, u71, u72, u73, u74, u75, u76, u77, u78, u79, u80, u81, u82, u83, u84, u85, u86, u87, u88, u89, u90, u91, u92, u93, u94, u95, u96, u97, u98, u99, u100, u101, u102, u103, u104, u105, u106], defers := [] } wr
theorem PJ.elim {w : World} {Z0 Z1 : Value} {l0 l1 : List S43} {a b : List A} {n : Nat} {a' : Act} {wr : World} {C : Act → World → Prop} (h : PJ w Z0 Z1 l0 l1 a b n a' wr)
    (k : ∀ (wb : World) (A0 A1 : Option Addr) (c0 c1 B1 B2 k1 g1 k2 g2 : Nat) (bx : Option Addr) (mx cx : Nat) (xs : List S43) (by_ : Option Addr) (my cy : Nat) (ys : List S43) (u2 u3 u6 u9 u10 u11 u12 u13 u14 u15 u16 u17 u18 u19 u20 u21 u22 u23 u24 u25 u26 u27 u28 u29 u30 u31 u32 u33 u34 u35 u36 u37 u38 u39 u40 u41 u42 u43 u44 u45 u46 u47 u48 u49 u50 u51 u52 u53 u54 u55 u56 u57 u58 u59 u60 u61 u62 u63 u64 u65 u66 u67 u68 u69 u70 u71 u72 u73 u74 u75 u76 u77 u78 u79 u80 u81 u82 u83 u84 u85 u86 u87 u88 u89 u90 u91 u92 u93 u94 u95 u96 u97 u98 u99 u100 u101 u102 u103 u104 u105 u106 : Value), Hid (P7W w wb B1 B2) → Hid (P7B wb A0 A1 l0 l1 B1 B2) → Hid (P7S wb wr A0 A1 c0 c1 l0 l1 B1 B2 k1 g1 k2 g2 bx mx cx xs by_ my cy ys) → Hid (PM a b n (restS l0 k1 g1) (restS l1 k2 g2) xs ys) →
      C { tmps := #[Z0, Z1, u2, u3, .slice bx mx cx, .slice by_ my cy, u6, .pointer (some ⟨B1, 0, none⟩), .pointer (some ⟨B2, 0, none⟩), u9, u10, u11, u12, u13, u14, u15, u16, u17, u18, u19, u20, u21, u22, u23, u24, u25, u26, u27, u28, u29, u30, u31, u32, u33, u34, u35, u36, u37, u38, u39, u40, u41, u42, u43, u44, u45, u46, u47, u48, u49, u50, u51, u52, u53, u54, u55, u56, u57, u58, u59, u60, u61, u62, u63, u64, u65, u66, u67, u68, u69, u70, u71, u72, u73, u74, u75, u76, u77, u78, u79, u80, u81, u82, u83, u84, u85, u86, u87, u88, u89, u90, u91, u92, u93, u94, u95, u96, u97, u98, u99, u100, u101, u102, u103, u104, u105, u106], defers := [] } wr) : C a' wr := by
  cases h with
  | mk h1 h2 h3 h4 => exact k _ _ _ _ _ _ _ _ _ _ _ _ _ _ _ _ _ _ _ _ _ _ _ _ _ _ _ _ _ _ _ _ _ _ _ _ _ _ _ _ _ _ _ _ _ _ _ _ _ _ _ _ _ _ _ _ _ _ _ _ _ _ _ _ _ _ _ _ _ _ _ _ _ _ _ _ _ _ _ _ _ _ _ _ _ _ _ _ _ _ _ _ _ _ _ _ _ _ _ _ _ _ _ _ _ _ _ _ _ _ _ _ _ _ _ _ _ _ _ _ h1 h2 h3 h4
def PairPost (w : World) (r1 r2 : List S43) (r3 : Int) (e : Ending) (w' : World) : Prop := ∃ v0_ v1_ : Value, e = .returned (.tuple #[v0_, v1_, .int .i64 r3]) ∧ Kd.R k43 43 w' w.heap.size (fun k_ => some k_ ≠ (v1_ : Value).ownBlock) v0_ r1 ∧ Kd.R k43 43 w' w.heap.size (fun k_ => some k_ ≠ (v0_ : Value).ownBlock) v1_ r2 ∧ Below w.heap.size w w'
theorem own_at {a : Option Addr} {n c k : Nat} (h : (Value.slice a n c).ownBlock = some k) : ∃ ad, a = some ad ∧ ad.block = k := by
  cases a with
  | none => simp [Value.ownBlock] at h
  | some ad => exact ⟨ad, rfl, by simpa [Value.ownBlock] using h⟩
theorem row_block {w : World} {base : Nat} {ok : Nat → Prop} {a : Option Addr} {n c : Nat} {l : List S43} (h : Kd.R k43 43 w base ok (.slice a n c) l) : ∀ ad, a = some ad → base ≤ ad.block ∧ ad.block < w.heap.size := by
  obtain ⟨inner, hi⟩ := Kd.R_own h
  exact fun ad e => World.ownsRow.lt hi ad.block (by subst e; rfl)
theorem form3 {w : World} {base : Nat} {ok : Nat → Prop} {v : Value} {l : List S43} (h : Kd.R k43 43 w base ok v l) : ∃ a c, v = .slice a l.length c := by
  obtain ⟨inner, hi⟩ := Kd.R_own h
  obtain ⟨a, c, e⟩ := own_form hi
  subst e
  exact ⟨a, c, rfl⟩
attribute [local go_sem high] max_ints min_ints
set_option maxRecDepth 100000 in
set_option maxHeartbeats 1000000 in
theorem pair_bad (A0 A1 : Option Addr) (c0 c1 : Nat) (l0 l1 : List (S43)) (w : World) (hr0 : Kd.C k43 w A0 l0.length l0) (hc0 : l0.length ≤ c0) (hr1 : Kd.C k43 w A1 l1.length l1) (hc1 : l1.length ≤ c1) (hg : good2 (cms l0) (cms l1) = true) (hs : ¬ inC (cms l0) = inC (cms l1)) :
    Calls Try.prog 15 #[.slice A0 l0.length c0, .slice A1 l1.length c1] w (PairPost w [] [] 7) := by
  obtain ⟨hv0, hv1, hb⟩ := good2_iff.1 hg
  have hg0 : good (cms l0) = true := good_iff.2 ⟨hv0, by omega⟩
  have hg1 : good (cms l1) = true := good_iff.2 ⟨hv1, by omega⟩
  have t1 : ((inC (cms l0) : Int) != (inC (cms l1) : Int)) = true := by rw [bne_iff_ne]; omega
  have HI0 : Hid (op_In.f l0 = some ((inC (cms l0) : Nat) : Int)) := Go.Cx.hid (by unfold op_In.f; rw [if_pos hg0])
  have HI1 : Hid (op_In.f l1 = some ((inC (cms l1) : Nat) : Int)) := Go.Cx.hid (by unfold op_In.f; rw [if_pos hg1])
  have HR0 := Go.Cx.hid hr0
  have HR1 := Go.Cx.hid hr1
  have HC0 := Go.Cx.hid hc0
  have HC1 := Go.Cx.hid hc1
  have K0 : Hid (0 = 0) := Go.Cx.hid rfl
  clear hr0 hr1 hg hs hc0 hc1 hv0 hv1 hb hg0 hg1
  go_enter Try.func15, Try.ntmps15
  go_wp2
  refine wp_scope_straight ?_
  go_wp2_with (first
      | (have K0' := K0; go_at_call 30; refine (op_In.calls A0 c0 l0 _ _ HR0.out HC0.out HI0.out).mono ?_; clear K0 K0'; rintro e w1 ⟨rfl, hb⟩; have E1 := Go.Cx.hid (Ch.of_below hb); clear hb)
      | (go_at_call 30; refine (op_In.calls A1 c1 l1 _ _ (Kd.C_below HR1.out E1.out.below0) HC1.out HI1.out).mono ?_; rintro e w2 ⟨rfl, hb⟩; have E2 := Go.Cx.hid (E1.out.f (Ch.of_below hb)); clear hb))
  rw [Exit.noGoto_ret]
  go_ret3
  exact ⟨_, _, rfl, Kd.R_nil _ _ _ _ _, Kd.R_nil _ _ _ _ _, E2.out.below0⟩
set_option maxRecDepth 100000 in
set_option maxHeartbeats 4000000 in
theorem pair_any (A0 A1 : Option Addr) (c0 c1 : Nat) (l0 l1 : List (S43)) (w : World) (hr0 : Kd.C k43 w A0 l0.length l0) (hc0 : l0.length ≤ c0) (hr1 : Kd.C k43 w A1 l1.length l1) (hc1 : l1.length ≤ c1) (hg : good2 (cms l0) (cms l1) = true) (hs : inC (cms l0) = inC (cms l1)) :
    Calls Try.prog 15 #[.slice A0 l0.length c0, .slice A1 l1.length c1] w (PairPost w (scs (nf (pairA (norm (at_ (cms l0))) (norm (at_ (cms l1)))).1)) (scs (nf (pairA (norm (at_ (cms l0))) (norm (at_ (cms l1)))).2)) 0) := by
  obtain ⟨hv0, hv1, hb⟩ := good2_iff.1 hg
  have hg0 : good (cms l0) = true := good_iff.2 ⟨hv0, by omega⟩
  have hg1 : good (cms l1) = true := good_iff.2 ⟨hv1, by omega⟩
  have t1 : ((inC (cms l0) : Int) != (inC (cms l1) : Int)) = false := bne_eq_false_iff_eq.2 (by rw [hs])
  have HI0 : Hid (op_In.f l0 = some ((inC (cms l0) : Nat) : Int)) := Go.Cx.hid (by unfold op_In.f; rw [if_pos hg0])
  have HI1 : Hid (op_In.f l1 = some ((inC (cms l1) : Nat) : Int)) := Go.Cx.hid (by unfold op_In.f; rw [if_pos hg1])
  have HN0 := Go.Cx.hid (normal_eq l0 hg0 (l0.length + 1) (by omega))
  have HN1 := Go.Cx.hid (normal_eq l1 hg1 (l1.length + 1) (by omega))
  obtain ⟨a, ha⟩ : ∃ a, a = norm (at_ (cms l0)) := ⟨_, rfl⟩
  obtain ⟨b, hb'⟩ : ∃ b, b = norm (at_ (cms l1)) := ⟨_, rfl⟩
  have hai : ins a = inC (cms l0) := by rw [ha, ins_norm]; rfl
  have hao : outs a = outC (cms l0) := by rw [ha, outs_norm]; rfl
  have hbi : ins b = inC (cms l1) := by rw [hb', ins_norm]; rfl
  have hbo : outs b = outC (cms l1) := by rw [hb', outs_norm]; rfl
  rw [← ha, ← hb']
  obtain ⟨m0, hm0⟩ : ∃ m0, m0 = scs (nf (at_ (cms l0))) := ⟨_, rfl⟩
  obtain ⟨m1, hm1⟩ : ∃ m1, m1 = scs (nf (at_ (cms l1))) := ⟨_, rfl⟩
  rw [← hm0] at HN0
  rw [← hm1] at HN1
  have hv0' : Vl (cms m0) := by rw [hm0, cms_scs]; exact nf_ok _ 0 [] 0
  have hv1' : Vl (cms m1) := by rw [hm1, cms_scs]; exact nf_ok _ 0 [] 0
  have ha0 : at_ (cms m0) = a := by rw [hm0, cms_scs, at_nf, ha]
  have ha1 : at_ (cms m1) = b := by rw [hm1, cms_scs, at_nf, hb']
  have hza : a.length ≤ 50000 := by have := at_len a; omega
  have hzb : b.length ≤ 50000 := by have := at_len b; omega
  have hz0 : m0.length ≤ 50000 := by have := vl_len hv0'; rw [ha0, cms_length] at this; omega
  have hz1 : m1.length ≤ 50000 := by have := vl_len hv1'; rw [ha1, cms_length] at this; omega
  have HZ0 : Hid (∀ (k : Nat) (h : k < m0.length), csz (cm m0[k]) ≤ 50000) := Go.Cx.hid (fun k h => csz_le hv0' (by rw [ha0]; exact hza) h)
  have HZ1 : Hid (∀ (k : Nat) (h : k < m1.length), csz (cm m1[k]) ≤ 50000) := Go.Cx.hid (fun k h => csz_le hv1' (by rw [ha1]; exact hzb) h)
  have HV0 := Go.Cx.hid hv0'
  have HV1 := Go.Cx.hid hv1'
  have HA0 := Go.Cx.hid ha0
  have HA1 := Go.Cx.hid ha1
  have HR0 := Go.Cx.hid hr0
  have HR1 := Go.Cx.hid hr1
  have HC0 := Go.Cx.hid hc0
  have HC1 := Go.Cx.hid hc1
  have HIO : Hid (ins a = ins b) := Go.Cx.hid (by rw [hai, hbi, hs])
  have HSZ : Hid (ins a + outs a + ins b + outs b ≤ 50000) := Go.Cx.hid (by rw [hai, hao, hbi, hbo]; exact hb)
  have HLA := Go.Cx.hid hza
  have HLB := Go.Cx.hid hzb
  clear hr0 hr1 hg hs hc0 hc1 hv0 hv1 hb hg0 hg1 ha hb' hai hao hbi hbo hm0 hm1 hv0' hv1' ha0 ha1 hza hzb
  have K0 : Hid (0 = 0) := Go.Cx.hid rfl
  have K1 : Hid (1 = 1) := Go.Cx.hid rfl
  go_enter Try.func15, Try.ntmps15
  go_wp2
  refine wp_scope_ghost 0 (PJ w (.slice A0 l0.length c0) (.slice A1 l1.length c1) m0 m1 a b) rfl ?pass ?first
  case first =>
    intro PASS
    have HP := Go.Cx.hid PASS
    clear PASS
    go_wp2_with (first
      | (have K0' := K0; go_at_call 30; refine (op_In.calls A0 c0 l0 _ _ HR0.out HC0.out HI0.out).mono ?_; clear K0 K0'; rintro e w1 ⟨rfl, hb⟩; have E1 := Go.Cx.hid (Ch.of_below hb); clear hb)
      | (go_at_call 30; refine (op_In.calls A1 c1 l1 _ _ (Kd.C_below HR1.out E1.out.below0) HC1.out HI1.out).mono ?_; rintro e w2 ⟨rfl, hb⟩; have E2 := Go.Cx.hid (E1.out.f (Ch.of_below hb)); clear hb)
      | (have K1' := K1; go_at_call 31; refine (op_Normal.calls _ A0 c0 l0 _ _ (Kd.C_below HR0.out E2.out.below0) HC0.out HN0.out).mono ?_; clear K1 K1'; rintro e w3 ⟨v0, rfl, hv, hb⟩; obtain ⟨R0, d0, rfl⟩ := form3 hv; have HV3 := Go.Cx.hid hv; have E3 := Go.Cx.hid (E2.out.f (Ch.of_below hb)); clear hb hv)
      | ((with_reducible refine gate_dst (N := 22) rfl ?_); refine box_event ?hg (N := 22) ?hd (cs := #[.slice R0 m0.length d0, .complex .f64 0 0]) (t := 62) ?hr ?_; (case hd => rfl); (case hg => rfl); (case hr => first | (go_simp; done) | (go_simp; rfl)); intro B1 hgq w4 hbox hb; have hb := Ch.of_below hb; have D4 := Go.Cx.hid hb; have E4 := Go.Cx.hid (E3.out.f hb); have HB1 := Go.Cx.hid hbox; have eB1 : Hid (B1 = w3.heap.size) := Go.Cx.hid hgq; have GB1 : w.heap.size ≤ B1 := (by rw [hgq]; exact E3.out.size); clear hbox hgq hb)
      | (go_at_call 31; refine (op_Normal.calls _ A1 c1 l1 _ _ (Kd.C_below HR1.out E4.out.below0) HC1.out HN1.out).mono ?_; rintro e w5 ⟨v1, rfl, hv, hb⟩; obtain ⟨R1, d1, rfl⟩ := form3 hv; have HV5 := Go.Cx.hid hv; have D5 := Go.Cx.hid (Ch.of_below hb); have E5 := Go.Cx.hid (E4.out.f D5.out); clear hb hv)
      | ((with_reducible refine gate_dst (N := 26) rfl ?_); refine box_event ?hg (N := 26) ?hd (cs := #[.slice R1 m1.length d1, .complex .f64 0 0]) (t := 62) ?hr ?_; (case hd => rfl); (case hg => rfl); (case hr => first | (go_simp; done) | (go_simp; rfl)); intro B2 hgq w6 hbox hb; have hb := Ch.of_below hb; have D6 := Go.Cx.hid hb; have E6 := Go.Cx.hid (E5.out.f hb); have HB2 := Go.Cx.hid hbox; have eB2 : Hid (B2 = w5.heap.size) := Go.Cx.hid hgq; have GB2 : w.heap.size ≤ B2 := (by rw [hgq]; exact E5.out.size); have HB1n := Go.Cx.hid ((D5.out.f hb).heap HB1.out id); have NB : B1 < w4.heap.size := lt_of_block HB1.out; clear hbox hgq hb))
    refine wp_label ?_
    simp only [Exit.then]
    refine (show ∀ (a : Act) (w : World), Code.wp Try.prog _ _ a w → _ from by assumption) _ _ ?_
    -- the rows, and where they lie
    have hr0' : Kd.C k43 w3 R0 m0.length m0 := (Kd.R_reads' HV3.out).2.2
    have hr1' : Kd.C k43 w5 R1 m1.length m1 := (Kd.R_reads' HV5.out).2.2
    have o0 := row_block HV3.out
    have o1 := row_block HV5.out
    have eB1' := eB1.out
    have eB2' := eB2.out
    have z4 := D4.out.size
    have z5 := D5.out.size
    have z6 := D6.out.size
    have z2 := E2.out.size
    have z3 := E3.out.size
    have hb1 : w6.heap[B1]? = some (.cells #[.slice R0 m0.length d0, .complex .f64 (fl ((0 : Nat) : Int)) (fl ((0 : Nat) : Int))] 62 (0, 0)) := by rw [Int.natCast_zero, fl_zero]; exact HB1n.out
    have hb2 : w6.heap[B2]? = some (.cells #[.slice R1 m1.length d1, .complex .f64 (fl ((0 : Nat) : Int)) (fl ((0 : Nat) : Int))] 62 (0, 0)) := by rw [Int.natCast_zero, fl_zero]; exact HB2.out
    have hra : restS m0 0 0 = cms m0 := by unfold restS; rw [rest_next HV0.out]; rfl
    have hrb : restS m1 0 0 = cms m1 := by unfold restS; rw [rest_next HV1.out]; rfl
    have HB : P7B w6 R0 R1 m0 m1 B1 B2 := ⟨C_ch (C_ch (C_ch hr0' D4.out (fun _ _ => id)) D5.out (fun _ _ => id)) D6.out (fun _ _ => id), C_ch hr1' D6.out (fun _ _ => id), (fun ad h => by have := o0 ad h; omega), (fun ad h => by have := o1 ad h; omega), by omega, lt_of_block hb1, lt_of_block hb2⟩
    refine HP.out ((at_ (cms m0)).length + (at_ (cms m1)).length) _ _ (PJ.mk (xs := []) (ys := []) (Go.Cx.hid ⟨E6.out, GB1, GB2⟩) (Go.Cx.hid HB) (Go.Cx.hid ⟨⟨hb1, HB.ra, HV0.out, Nat.zero_le _, Nat.zero_le _, fun h => csz_pos (HV0.out _ (List.mem_map.2 ⟨_, List.getElem_mem h, rfl⟩))⟩, ⟨hb2, HB.rb, HV1.out, Nat.zero_le _, Nat.zero_le _, fun h => csz_pos (HV1.out _ (List.mem_map.2 ⟨_, List.getElem_mem h, rfl⟩))⟩, Own.nil _ _ _ _, Own.nil _ _ _ _, rfl, rfl, (fun _ _ h => by cases h), Nat.zero_le _, Nat.zero_le _, Ch.refl _ _⟩) (Go.Cx.hid ?_))
    rw [hra, hrb]
    have hla := HLA.out
    have hlb := HLB.out
    refine ⟨HV0.out, HV1.out, Vl.nil, Vl.nil, ?_, by rw [HA0.out, HA1.out]; rfl, by rw [HA0.out, HA1.out]; rfl, rfl, ?_, ?_⟩
    · rw [HA0.out, HA1.out]; exact HIO.out
    · rw [HA0.out, HA1.out]; simp; omega
    · rw [HA0.out, HA1.out]; simp; omega
  case pass =>
    intro n a' wr hJ
    refine PJ.elim hJ ?_
    clear hJ a'
    intro wb R0 R1 d0 d1 B1 B2 k1 g1 k2 g2 bx mx cx xs by_ my cy ys u2 u3 u6 u9 u10 u11 u12 u13 u14 u15 u16 u17 u18 u19 u20 u21 u22 u23 u24 u25 u26 u27 u28 u29 u30 u31 u32 u33 u34 u35 u36 u37 u38 u39 u40 u41 u42 u43 u44 u45 u46 u47 u48 u49 u50 u51 u52 u53 u54 u55 u56 u57 u58 u59 u60 u61 u62 u63 u64 u65 u66 u67 u68 u69 u70 u71 u72 u73 u74 u75 u76 u77 u78 u79 u80 u81 u82 u83 u84 u85 u86 u87 u88 u89 u90 u91 u92 u93 u94 u95 u96 u97 u98 u99 u100 u101 u102 u103 u104 u105 u106 HW HB HS5 HM5
    have hlx := HS5.out.lx
    have hly := HS5.out.ly
    have hmx := HM5.out.lx
    have hmy := HM5.out.ly
    have hszx : mx + 1 ≤ maxLen := by unfold maxLen; omega
    have hszx2 : (mx + 1) * 32 ≤ 140737488355328 := by omega
    have hszy : my + 1 ≤ maxLen := by unfold maxLen; omega
    have hszy2 : (my + 1) * 32 ≤ 140737488355328 := by omega
    have BS := Go.Cx.hid HS5.out.ch.size
    have hka := HS5.out.ka
    have hkb := HS5.out.kb
    obtain ⟨p0, p1, p2, hp⟩ : ∃ p0 p1 p2, (⟨p0, p1, p2⟩ : S43) = ptS m0 k1 g1 := ⟨_, _, _, rfl⟩
    obtain ⟨q0, q1, q2, hq⟩ : ∃ p0 p1 p2, (⟨p0, p1, p2⟩ : S43) = ptS m1 k2 g2 := ⟨_, _, _, rfl⟩
    have HPA := Go.Cx.hid (part_any HS5.out.ca (fun h => by have := HZ0.out _ h; omega) hp)
    have HPB := Go.Cx.hid (fun (w' : World) (hc : Ch (fun _ => False) wr w') => part_any (HS5.out.cb.ch hc id (C_ch HS5.out.cb.row hc (fun _ _ => id))) (fun h => by have := HZ1.out _ h; omega) hq)
    have HPP := Go.Cx.hid hp
    have HQQ := Go.Cx.hid hq
    have HLX := Go.Cx.hid hlx
    have HLY := Go.Cx.hid hly
    have HMX := Go.Cx.hid hmx
    have HMY := Go.Cx.hid hmy
    clear hp hq hlx hly hmx hmy
    go_upto_region 11 with (first
      | (go_at_call 32; refine HPA.out.mono ?_; clear HPA; rintro e w1 ⟨rfl, hb⟩; have E1 := Go.Cx.hid hb; clear hb)
      | (go_at_call 32; refine (HPB.out _ E1.out).mono ?_; clear HPB; rintro e w2 ⟨rfl, hb⟩; have E2 := Go.Cx.hid (E1.out.f hb); clear hb)
      | ((with_reducible refine gate_dst (N := 9) rfl ?_); refine box_event ?hg (N := 9) ?hd (cs := #[.int .i64 0, .int .i64 0, .string ⟨#[]⟩]) (t := 43) ?hr ?_; (case hd => rfl); (case hg => rfl); (case hr => first | (go_simp; done) | (go_simp; rfl)); intro g9 hgq w3 hbox hb; have hb := Ch.of_below hb; have E3 := Go.Cx.hid (E2.out.f hb); have BG9 := Go.Cx.hid hbox; have GE9 : wr.heap.size ≤ g9 := (by rw [hgq]; exact E2.out.size); clear hbox hgq hb)
      | ((with_reducible refine gate_dst (N := 10) rfl ?_); refine box_event ?hg (N := 10) ?hd (cs := #[.int .i64 0, .int .i64 0, .string ⟨#[]⟩]) (t := 43) ?hr ?_; (case hd => rfl); (case hg => rfl); (case hr => first | (go_simp; done) | (go_simp; rfl)); intro g10 hgq w4 hbox hb; have hb := Ch.of_below hb; have E4 := Go.Cx.hid (E3.out.f hb); have BG10 := Go.Cx.hid hbox; have BG9n := Go.Cx.hid (hb.heap BG9.out id); have GE10 : wr.heap.size ≤ g10 := (by rw [hgq]; exact E3.out.size); have NE : g9 ≠ g10 := (by have := lt_of_block BG9.out; have e : g10 = w3.heap.size := hgq; omega); have NEs := NE.symm; have z90 : w4.cell? ⟨g9, 0, none⟩ = some (.int .i64 0) := (blk_cell BG9n.out 0).trans rfl; have z91 : w4.cell? ⟨g9, 1, none⟩ = some (.int .i64 0) := (blk_cell BG9n.out 1).trans rfl; have z92 : w4.cell? ⟨g9, 2, none⟩ = some (.string ⟨#[]⟩) := (blk_cell BG9n.out 2).trans rfl; have z9f := blk_frozen BG9n.out; have z100 : w4.cell? ⟨g10, 0, none⟩ = some (.int .i64 0) := (blk_cell BG10.out 0).trans rfl; have z101 : w4.cell? ⟨g10, 1, none⟩ = some (.int .i64 0) := (blk_cell BG10.out 1).trans rfl; have z102 : w4.cell? ⟨g10, 2, none⟩ = some (.string ⟨#[]⟩) := (blk_cell BG10.out 2).trans rfl; have z10f := blk_frozen BG10.out; clear hbox hgq hb))
    have E5 : Hid (Ch (fun _ => False) wr ((((((w4.setCell ⟨g9, 0, none⟩ (.int .i64 p0)).setCell ⟨g9, 1, none⟩ (.int .i64 p1)).setCell ⟨g9, 2, none⟩ (.string p2)).setCell ⟨g10, 0, none⟩ (.int .i64 q0)).setCell ⟨g10, 1, none⟩ (.int .i64 q1)).setCell ⟨g10, 2, none⟩ (.string q2))) := Go.Cx.hid (chn3 (chn3 E4.out GE9 0 1 2 _ _ _) GE10 0 1 2 _ _ _)
    have BP : Hid (((((((w4.setCell ⟨g9, 0, none⟩ (.int .i64 p0)).setCell ⟨g9, 1, none⟩ (.int .i64 p1)).setCell ⟨g9, 2, none⟩ (.string p2)).setCell ⟨g10, 0, none⟩ (.int .i64 q0)).setCell ⟨g10, 1, none⟩ (.int .i64 q1)).setCell ⟨g10, 2, none⟩ (.string q2)).heap[g9]? = some (.cells #[.int .i64 p0, .int .i64 p1, .string p2] 43 (0, 0))) := Go.Cx.hid ((far3 _ NE _ _ _ _ _ _).trans (put3 BG9n.out _ _ _))
    have BQ : Hid (((((((w4.setCell ⟨g9, 0, none⟩ (.int .i64 p0)).setCell ⟨g9, 1, none⟩ (.int .i64 p1)).setCell ⟨g9, 2, none⟩ (.string p2)).setCell ⟨g10, 0, none⟩ (.int .i64 q0)).setCell ⟨g10, 1, none⟩ (.int .i64 q1)).setCell ⟨g10, 2, none⟩ (.string q2)).heap[g10]? = some (.cells #[.int .i64 q0, .int .i64 q1, .string q2] 43 (0, 0))) := Go.Cx.hid (put3 ((far3 _ NE.symm _ _ _ _ _ _).trans BG10.out) _ _ _)
    generalize ((((((w4.setCell ⟨g9, 0, none⟩ (.int .i64 p0)).setCell ⟨g9, 1, none⟩ (.int .i64 p1)).setCell ⟨g9, 2, none⟩ (.string p2)).setCell ⟨g10, 0, none⟩ (.int .i64 q0)).setCell ⟨g10, 1, none⟩ (.int .i64 q1)).setCell ⟨g10, 2, none⟩ (.string q2)) = w5 at E5 BP BQ ⊢
    clear z90 z91 z92 z9f z100 z101 z102 z10f BG9 BG9n BG10 E4 E3
    have pc0 : w5.cell? ⟨g9, 0, none⟩ = some (.int .i64 p0) := (blk_cell BP.out 0).trans rfl
    have pc1 : w5.cell? ⟨g9, 1, none⟩ = some (.int .i64 p1) := (blk_cell BP.out 1).trans rfl
    have pc2 : w5.cell? ⟨g9, 2, none⟩ = some (.string p2) := (blk_cell BP.out 2).trans rfl
    have qc0 : w5.cell? ⟨g10, 0, none⟩ = some (.int .i64 q0) := (blk_cell BQ.out 0).trans rfl
    have qc1 : w5.cell? ⟨g10, 1, none⟩ = some (.int .i64 q1) := (blk_cell BQ.out 1).trans rfl
    have qc2 : w5.cell? ⟨g10, 2, none⟩ = some (.string q2) := (blk_cell BQ.out 2).trans rfl
    have qc00 := qc0
    have qc10 := qc1
    have qc20 := qc2
    -- all that is known at the label, at this world
    have T5 := Go.Cx.hid (HS5.out.keep HB.out (HS5.out.ca.ch E5.out id (C_ch HS5.out.ca.row E5.out (fun _ _ => id))) (HS5.out.cb.ch E5.out id (C_ch HS5.out.cb.row E5.out (fun _ _ => id))) hka hkb (Ch.weaken (T := fun i => i = B1 ∨ i = B2) E5.out (fun _ _ h => h.elim)))
    have SZ5 := Go.Cx.hid E5.out.size
    have LB1 := lt_of_block HS5.out.ca.blk
    have LB2 := lt_of_block HS5.out.cb.blk
    have NP9 : ¬ g9 = B1 := by omega
    have NQ9 : ¬ g9 = B2 := by omega
    have NP10 : ¬ g10 = B1 := by omega
    have NQ10 : ¬ g10 = B2 := by omega
    clear LB1 LB2 NE NEs
    have NX9 : Hid (∀ b : Addr, bx = some b → b.block ≠ g9 ∧ b.block ≠ g10) := Go.Cx.hid (fun b hb => by have := (HS5.out.ox.block b hb).2; omega)
    by_cases hA : k1 < m0.length ∧ p0 = 2
    · obtain ⟨hk, hp2⟩ := hA
      have hpe : (⟨p0, p1, p2⟩ : S43) = sc (bk g1 (cm m0[k1])) := by rw [HPP.out, ptS_at hk]
      have hbo1 := (bk_ok (HS5.out.ca.ok hk) (HS5.out.ca.gin hk)).1
      have hk3 : (bk g1 (cm m0[k1])).k = 2 := by rw [← hp2]; exact (congrArg S43.f0 hpe).symm
      have hst := PStep.left (bk g1 (cm m0[k1])) ((cms m0).drop (k1 + 1)) (restS m1 k2 g2) hk3
      rw [← rest_atS hk] at hst
      obtain ⟨s, hs, hsl⟩ : ∃ s, p2 = str s ∧ s.length = csz (bk g1 (cm m0[k1])) := by
        have e := congrArg S43.f2 hpe
        rcases Cm.cases hbo1 with ⟨x, hx, e2⟩ | ⟨x, hx, e2⟩ | ⟨x, hx, e2⟩
        · rw [e2] at hk3; cases hk3
        · rw [e2] at e; exact ⟨x, by simpa [sc, str] using e, by rw [e2]; simp [csz]⟩
        · rw [e2] at hk3; cases hk3
      have hs1 : 1 ≤ s.length := by rw [hsl]; exact csz_pos hbo1
      have hfr : (⟨p0, p1, p2⟩ : S43) = sc (fr s.length (bk g1 (cm m0[k1]))) := by rw [hsl, (fr_whole hbo1 (Nat.le_refl _)).1]; exact hpe
      have hgo := rest_goS (m := s.length) HS5.out.ca hk
      have hbk : bks s.length (bk g1 (cm m0[k1])) ((cms m0).drop (k1 + 1)) = (cms m0).drop (k1 + 1) := by unfold bks; rw [if_neg (by omega)]
      rw [hbk] at hgo
      rw [← hgo] at hst
      have ho : cms [(⟨p0, p1, p2⟩ : S43)] = [bk g1 (cm m0[k1])] := by simp only [cms, List.map_cons, List.map_nil, hpe, cm_sc]
      have ho2 : cms [(⟨1, (s.length : Int), ⟨#[]⟩⟩ : S43)] = [⟨1, csz (bk g1 (cm m0[k1])), []⟩] := by rw [← hsl]; rfl
      rw [← ho, ← ho2] at hst
      have HT := Go.Cx.hid (fun (w' : World) (hc : Ch (fun _ => False) w5 w') => take_any (T5.out.ca.ch hc id (C_ch T5.out.ca.row hc (fun _ _ => id))) (fun h => by have := HZ0.out _ h; omega) (by omega) hk hs1 (by rw [hsl]; exact Nat.le_refl _) hfr)
      have HNA := Go.Cx.hid (fun (w' : World) hx hb => P7S.takeA (wx := w') (m := s.length) HB.out (T5.out.mono HB.out (Ch.refl (fun _ => False) _).drew) (fun h => by have := HZ0.out _ h; omega) hk (by omega) hx hb)
      have HST := Go.Cx.hid hst
      subst hp2
      subst hs
      clear hst ho ho2 hbk hgo hfr hpe hk3 hbo1 hsl
      go_upto_region 12 with fail
      refine start_ (n := 17) (S := fun w' => w'.cell? ⟨g9, 2, none⟩ = some (.string (str s))) (ds := [14]) #[false, false, false, false, false, false, false, false, false, false, false, false, false, false, false, false, false] (by kernel_rfl) rfl rfl (pc2) (fun hHeld => ?_)
      refine pure_ (i := 0) (N := some 60) (v := ?_) (a' := ?_) #[true, false, false, false, false, false, false, false, false, false, false, false, false, false, false, false, false] rfl rfl (by kernel_rfl) (fun _ _ _ h => h) (Or.inl ⟨by rfl, ?_⟩) ?_ ?_
      rotate_left
      · intro w'
        go_simp
        with_reducible rfl
      rotate_left
      · simp only [Act.put, List.setIfInBounds_toArray, List.set_cons_zero, List.set_cons_succ, i64_w, i32_w]
        rfl
      refine pure_ (i := 1) (N := some 61) (v := ?_) (a' := ?_) #[true, true, false, false, false, false, false, false, false, false, false, false, false, false, false, false, false] rfl rfl (by kernel_rfl) (fun _ _ _ h => h) (Or.inl ⟨by rfl, ?_⟩) ?_ ?_
      rotate_left
      · intro w'
        go_simp
        with_reducible rfl
      rotate_left
      · simp only [Act.put, List.setIfInBounds_toArray, List.set_cons_zero, List.set_cons_succ, i64_w, i32_w]
        rfl
      refine pure_ (i := 2) (N := some 62) (v := ?_) (a' := ?_) #[true, true, true, false, false, false, false, false, false, false, false, false, false, false, false, false, false] rfl rfl (by kernel_rfl) (fun _ _ _ h => h) (Or.inl ⟨by rfl, ?_⟩) ?_ ?_
      rotate_left
      · intro w'
        go_simp
        with_reducible rfl
      rotate_left
      · simp only [Act.put, List.setIfInBounds_toArray, List.set_cons_zero, List.set_cons_succ, i64_w, i32_w]
        rfl
      refine pure_ (i := 8) (N := some 68) (v := ?_) (a' := ?_) #[true, true, true, false, false, false, false, false, true, false, false, false, false, false, false, false, false] rfl rfl (by kernel_rfl) (fun _ _ _ h => h) (Or.inl ⟨by rfl, ?_⟩) ?_ ?_
      rotate_left
      · intro w'
        go_simp
        with_reducible rfl
      rotate_left
      · simp only [Act.put, List.setIfInBounds_toArray, List.set_cons_zero, List.set_cons_succ, i64_w, i32_w]
        rfl
      refine pure_ (i := 9) (N := some 69) (v := ?_) (a' := ?_) #[true, true, true, false, false, false, false, false, true, true, false, false, false, false, false, false, false] rfl rfl (by kernel_rfl) (fun _ _ _ h => h) (Or.inl ⟨by rfl, ?_⟩) ?_ ?_
      rotate_left
      · intro w'
        go_simp
        with_reducible rfl
      rotate_left
      · simp only [Act.put, List.setIfInBounds_toArray, List.set_cons_zero, List.set_cons_succ, i64_w, i32_w]
        rfl
      refine take_ (i := 3) (N := some 63) (v := ?_) (a' := ?_) #[true, true, true, true, false, false, false, false, true, true, false, false, false, false, false, false, false] rfl rfl (by kernel_rfl) (fun _ _ _ h => h) (Or.inl ⟨by rfl, ?_⟩) hHeld ?_ ?_
      rotate_left
      · intro w' s0
        go_simp
        with_reducible rfl
      rotate_left
      · simp only [Act.put, List.setIfInBounds_toArray, List.set_cons_zero, List.set_cons_succ, i64_w, i32_w]
        rfl
      refine pure_ (i := 4) (N := some 64) (v := ?_) (a' := ?_) #[true, true, true, true, true, false, false, false, true, true, false, false, false, false, false, false, false] rfl rfl (by kernel_rfl) (fun _ _ _ h => h) (Or.inl ⟨by rfl, ?_⟩) ?_ ?_
      rotate_left
      · intro w'
        go_simp
        with_reducible rfl
      rotate_left
      · simp only [Act.put, List.setIfInBounds_toArray, List.set_cons_zero, List.set_cons_succ, i64_w, i32_w]
        rfl
      refine take_ (i := 10) (N := some 70) (v := ?_) (a' := ?_) #[true, true, true, true, true, false, false, false, true, true, true, false, false, false, false, false, false] rfl rfl (by kernel_rfl) (fun _ _ _ h => h) (Or.inl ⟨by rfl, ?_⟩) hHeld ?_ ?_
      rotate_left
      · intro w' s0
        go_simp
        with_reducible rfl
      rotate_left
      · simp only [Act.put, List.setIfInBounds_toArray, List.set_cons_zero, List.set_cons_succ, i64_w, i32_w]
        rfl
      refine pure_ (i := 11) (N := some 71) (v := ?_) (a' := ?_) #[true, true, true, true, true, false, false, false, true, true, true, true, false, false, false, false, false] rfl rfl (by kernel_rfl) (fun _ _ _ h => h) (Or.inl ⟨by rfl, ?_⟩) ?_ ?_
      rotate_left
      · intro w'
        go_simp
        with_reducible rfl
      rotate_left
      · simp only [Act.put, List.setIfInBounds_toArray, List.set_cons_zero, List.set_cons_succ, i64_w, i32_w]
        rfl
      refine one_ (i := 5) (N := some 65) #[true, true, true, true, true, true, false, false, true, true, true, true, false, false, false, false, false] rfl rfl (by kernel_rfl) (by decide) (fun K hK => ?_)
      refine goes_ Try.func33 (by kernel_rfl) rfl #[.pointer (some ⟨B1, 0, none⟩), .int .i64 (s.length : Int)] (by rfl) rfl rfl (by simp only [List.map_toArray, List.map_cons, List.map_nil]; rfl) ?_
      with_reducible refine (HT.out _ (Ch.refl (fun _ => False) w5).drew).mono ?_
      rintro e w6 ⟨rfl, hc, hbk⟩
      refine ⟨_, rfl, ?_⟩
      have T6 := Go.Cx.hid (HNA.out _ hc hbk)
      refine hK.out _ _ ((hc.cell hHeld NP9)) (fun hHeld => ?_)
      clear hK K
      refine norm_ (a' := ?_) ?_ ?_
      rotate_left
      · show Act.put _ (some 65) _ = _
        simp only [Act.put, List.setIfInBounds_toArray, List.set_cons_zero, List.set_cons_succ, i64_w, i32_w]
        rfl
      refine one_ (i := 6) (N := some 66) #[true, true, true, true, true, true, true, false, true, true, true, true, false, false, false, false, false] rfl rfl (by kernel_rfl) (by decide) (fun K hK => ?_)
      refine value_ (w1 := ?_) (v := ?_) (by rfl) rfl ?_ ?_
      rotate_left 2
      · go_simp
        constructor
        · rfl
        · rfl
      refine hK.out _ _ ((((Ch.refl (fun _ => False) _).alloc _).cell hHeld id)) (fun hHeld => ?_)
      clear hK K
      refine norm_ (a' := ?_) ?_ ?_
      rotate_left
      · show Act.put _ (some 66) _ = _
        simp only [Act.put, List.setIfInBounds_toArray, List.set_cons_zero, List.set_cons_succ, i64_w, i32_w]
        rfl
      refine one_ (i := 7) (N := some 67) #[true, true, true, true, true, true, true, true, true, true, true, true, false, false, false, false, false] rfl rfl (by kernel_rfl) (by decide) (fun K hK => ?_)
      refine step_app2 (by rfl) _ _ _ _ (by rfl) wb.heap.size 43 3 32 _ et_comp bx mx cx _ (by rfl) ((T6.out.mono HB.out ((Ch.refl (fun _ => False) _).alloc _)).ox) _ 1 _ (by rfl) (src3 _ ⟨2, p1, str s⟩ _ rfl) hszx hszx2 (by have h_ := T6.out.ch.size; simp; omega) ?_
      intro xa xc w8 hO hC hN
      have T8 := Go.Cx.hid ((T6.out.mono HB.out ((Ch.refl (fun _ => False) _).alloc _)).putX HB.out hC (o := [⟨2, p1, str s⟩]) rfl (by simpa [encs3] using hO) hN)
      refine hK.out _ _ ((hC.cell hHeld (fun ⟨b, hb, e⟩ => (NX9.out b hb).1 e))) (fun hHeld => ?_)
      clear hK K
      refine norm_ (a' := ?_) ?_ ?_
      rotate_left
      · show Act.put _ (some 67) _ = _
        simp only [Act.put, List.setIfInBounds_toArray, List.set_cons_zero, List.set_cons_succ, i64_w, i32_w]
        rfl
      refine one_ (i := 12) (N := some 72) #[true, true, true, true, true, true, true, true, true, true, true, true, true, false, false, false, false] rfl rfl (by kernel_rfl) (by decide) (fun K hK => ?_)
      refine goes_ Try.func34 (by kernel_rfl) rfl #[.int .i64 (s.length : Int)] (by rfl) rfl rfl (by simp only [List.map_toArray, List.map_cons, List.map_nil]; rfl) ?_
      with_reducible refine (keep_any s.length _).mono ?_
      rintro e w9 ⟨rfl, hk9⟩
      refine ⟨_, rfl, ?_⟩
      have T9 := Go.Cx.hid (T8.out.mono HB.out hk9)
      refine hK.out _ _ ((hk9.cell hHeld id)) (fun hHeld => ?_)
      clear hK K
      refine norm_ (a' := ?_) ?_ ?_
      rotate_left
      · show Act.put _ (some 72) _ = _
        simp only [Act.put, List.setIfInBounds_toArray, List.set_cons_zero, List.set_cons_succ, i64_w, i32_w]
        rfl
      refine one_ (i := 13) (N := some 73) #[true, true, true, true, true, true, true, true, true, true, true, true, true, true, false, false, false] rfl rfl (by kernel_rfl) (by decide) (fun K hK => ?_)
      refine value_ (w1 := ?_) (v := ?_) (by rfl) rfl ?_ ?_
      rotate_left 2
      · go_simp
        constructor
        · rfl
        · rfl
      refine hK.out _ _ ((((Ch.refl (fun _ => False) _).alloc _).cell hHeld id)) (fun hHeld => ?_)
      clear hK K
      refine norm_ (a' := ?_) ?_ ?_
      rotate_left
      · show Act.put _ (some 73) _ = _
        simp only [Act.put, List.setIfInBounds_toArray, List.set_cons_zero, List.set_cons_succ, i64_w, i32_w]
        rfl
      refine last_ (i := 14) (N := some 74) #[true, true, true, true, true, true, true, true, true, true, true, true, true, true, true, false, false] rfl rfl (by kernel_rfl) (by decide) (fun K hK => ?_)
      refine step_app2 (by rfl) _ _ _ _ (by rfl) wb.heap.size 43 3 32 _ et_comp by_ my cy _ (by rfl) ((T9.out.mono HB.out ((Ch.refl (fun _ => False) _).alloc _)).oy) _ 1 _ (by rfl) (src3 _ ⟨1, (s.length : Int), ⟨#[]⟩⟩ _ rfl) hszy hszy2 (by have h_ := T9.out.ch.size; simp; omega) ?_
      intro ya yc w11 hO hC hN
      have T11 := Go.Cx.hid ((T9.out.mono HB.out ((Ch.refl (fun _ => False) _).alloc _)).putY HB.out hC (o := [⟨1, (s.length : Int), ⟨#[]⟩⟩]) rfl (by simpa [encs3] using hO) hN)
      refine hK.out _ _ ?_
      clear hK K
      refine norm_ (a' := ?_) ?_ ?_
      rotate_left
      · show Act.put _ (some 74) _ = _
        simp only [Act.put, List.setIfInBounds_toArray, List.set_cons_zero, List.set_cons_succ, i64_w, i32_w]
        rfl
      refine pure_ (i := 15) (N := some 4) (v := ?_) (a' := ?_) #[true, true, true, true, true, true, true, true, true, true, true, true, true, true, true, true, false] rfl rfl (by kernel_rfl) (fun _ _ _ h => h) (Or.inl ⟨by rfl, ?_⟩) ?_ ?_
      rotate_left
      · intro w'
        go_simp
        with_reducible rfl
      rotate_left
      · simp only [Act.put, List.setIfInBounds_toArray, List.set_cons_zero, List.set_cons_succ, i64_w, i32_w]
        rfl
      refine pure_ (i := 16) (N := some 5) (v := ?_) (a' := ?_) #[true, true, true, true, true, true, true, true, true, true, true, true, true, true, true, true, true] rfl rfl (by kernel_rfl) (fun _ _ _ h => h) (Or.inl ⟨by rfl, ?_⟩) ?_ ?_
      rotate_left
      · intro w'
        go_simp
        with_reducible rfl
      rotate_left
      · simp only [Act.put, List.setIfInBounds_toArray, List.set_cons_zero, List.set_cons_succ, i64_w, i32_w]
        rfl
      refine done_ (by kernel_rfl) ?_
      clear hHeld
      obtain ⟨n', hn', hM'⟩ := HM5.out.step HST.out
      go_wp2
      refine wp_goto ?_
      exact ⟨by trivial, n', hn', PJ.mk HW HB (Go.Cx.hid T11.out) (Go.Cx.hid hM')⟩
    have hA1 : k1 < m0.length → p0 ≠ 2 := fun h e => hA ⟨h, e⟩
    clear hA
    have tp : (p0 == 2) = false := by
      rcases Nat.lt_or_ge k1 m0.length with h | h
      · exact beq_eq_false_iff_ne.2 (hA1 h)
      · have := HPP.out; rw [ptS_end h] at this; simp only [S43.mk.injEq] at this; rw [this.1]; rfl
    have hAk : ∀ d l, restS m0 k1 g1 = d :: l → d.k ≠ 2 := by
      intro d l e
      rcases Nat.lt_or_ge k1 m0.length with h | h
      · rw [rest_atS h] at e
        have e2 := (List.cons.inj e).1
        rw [← e2]
        have := HPP.out; rw [ptS_at h] at this
        have h3 := congrArg S43.f0 this
        have h4 := hA1 h
        intro h5; exact h4 (h3.trans h5)
      · rw [rest_endS h] at e; cases e
    by_cases hB : k2 < m1.length ∧ q0 = 2
    · obtain ⟨hk, hq2⟩ := hB
      have hqe : (⟨q0, q1, q2⟩ : S43) = sc (bk g2 (cm m1[k2])) := by rw [HQQ.out, ptS_at hk]
      have hbo1 := (bk_ok (HS5.out.cb.ok hk) (HS5.out.cb.gin hk)).1
      have hk3 : (bk g2 (cm m1[k2])).k = 2 := by rw [← hq2]; exact (congrArg S43.f0 hqe).symm
      have hst := PStep.right (restS m0 k1 g1) (bk g2 (cm m1[k2])) ((cms m1).drop (k2 + 1)) hk3 hAk
      rw [← rest_atS hk] at hst
      obtain ⟨s, hs, hsl⟩ : ∃ s, q2 = str s ∧ s.length = csz (bk g2 (cm m1[k2])) := by
        have e := congrArg S43.f2 hqe
        rcases Cm.cases hbo1 with ⟨x, hx, e2⟩ | ⟨x, hx, e2⟩ | ⟨x, hx, e2⟩
        · rw [e2] at hk3; cases hk3
        · rw [e2] at e; exact ⟨x, by simpa [sc, str] using e, by rw [e2]; simp [csz]⟩
        · rw [e2] at hk3; cases hk3
      have hs1 : 1 ≤ s.length := by rw [hsl]; exact csz_pos hbo1
      have hfr : (⟨q0, q1, q2⟩ : S43) = sc (fr s.length (bk g2 (cm m1[k2]))) := by rw [hsl, (fr_whole hbo1 (Nat.le_refl _)).1]; exact hqe
      have hgo := rest_goS (m := s.length) HS5.out.cb hk
      have hbk : bks s.length (bk g2 (cm m1[k2])) ((cms m1).drop (k2 + 1)) = (cms m1).drop (k2 + 1) := by unfold bks; rw [if_neg (by omega)]
      rw [hbk] at hgo
      rw [← hgo] at hst
      have ho : cms [(⟨q0, q1, q2⟩ : S43)] = [bk g2 (cm m1[k2])] := by simp only [cms, List.map_cons, List.map_nil, hqe, cm_sc]
      have ho2 : cms [(⟨1, (s.length : Int), ⟨#[]⟩⟩ : S43)] = [⟨1, csz (bk g2 (cm m1[k2])), []⟩] := by rw [← hsl]; rfl
      rw [← ho, ← ho2] at hst
      have HT := Go.Cx.hid (fun (w' : World) (hcur : Cur w' B2 R1 d1 m1 k2 g2) => take_any hcur (fun h => by have := HZ1.out _ h; omega) (by omega) hk hs1 (by rw [hsl]; exact Nat.le_refl _) hfr)
      have HZB : Hid (∀ h : k2 < m1.length, csz (cm m1[k2]) ≤ 100000) := Go.Cx.hid (fun h => by have := HZ1.out _ h; omega)
      have hk2b : k2 ≤ 100000 := by omega
      have HST := Go.Cx.hid hst
      subst hq2
      subst hs
      clear hst ho ho2 hbk hgo hfr hqe hk3 hbo1 hsl hAk hA1
      go_upto_region 14 with fail
      refine start_ (n := 17) (S := fun w' => w'.cell? ⟨g10, 2, none⟩ = some (.string (str s))) (ds := [14]) #[false, false, false, false, false, false, false, false, false, false, false, false, false, false, false, false, false] (by kernel_rfl) rfl rfl (qc2) (fun hHeld => ?_)
      refine pure_ (i := 0) (N := some 79) (v := ?_) (a' := ?_) #[true, false, false, false, false, false, false, false, false, false, false, false, false, false, false, false, false] rfl rfl (by kernel_rfl) (fun _ _ _ h => h) (Or.inl ⟨by rfl, ?_⟩) ?_ ?_
      rotate_left
      · intro w'
        go_simp
        with_reducible rfl
      rotate_left
      · simp only [Act.put, List.setIfInBounds_toArray, List.set_cons_zero, List.set_cons_succ, i64_w, i32_w]
        rfl
      refine pure_ (i := 1) (N := some 80) (v := ?_) (a' := ?_) #[true, true, false, false, false, false, false, false, false, false, false, false, false, false, false, false, false] rfl rfl (by kernel_rfl) (fun _ _ _ h => h) (Or.inl ⟨by rfl, ?_⟩) ?_ ?_
      rotate_left
      · intro w'
        go_simp
        with_reducible rfl
      rotate_left
      · simp only [Act.put, List.setIfInBounds_toArray, List.set_cons_zero, List.set_cons_succ, i64_w, i32_w]
        rfl
      refine pure_ (i := 7) (N := some 86) (v := ?_) (a' := ?_) #[true, true, false, false, false, false, false, true, false, false, false, false, false, false, false, false, false] rfl rfl (by kernel_rfl) (fun _ _ _ h => h) (Or.inl ⟨by rfl, ?_⟩) ?_ ?_
      rotate_left
      · intro w'
        go_simp
        with_reducible rfl
      rotate_left
      · simp only [Act.put, List.setIfInBounds_toArray, List.set_cons_zero, List.set_cons_succ, i64_w, i32_w]
        rfl
      refine pure_ (i := 8) (N := some 87) (v := ?_) (a' := ?_) #[true, true, false, false, false, false, false, true, true, false, false, false, false, false, false, false, false] rfl rfl (by kernel_rfl) (fun _ _ _ h => h) (Or.inl ⟨by rfl, ?_⟩) ?_ ?_
      rotate_left
      · intro w'
        go_simp
        with_reducible rfl
      rotate_left
      · simp only [Act.put, List.setIfInBounds_toArray, List.set_cons_zero, List.set_cons_succ, i64_w, i32_w]
        rfl
      refine pure_ (i := 9) (N := some 88) (v := ?_) (a' := ?_) #[true, true, false, false, false, false, false, true, true, true, false, false, false, false, false, false, false] rfl rfl (by kernel_rfl) (fun _ _ _ h => h) (Or.inl ⟨by rfl, ?_⟩) ?_ ?_
      rotate_left
      · intro w'
        go_simp
        with_reducible rfl
      rotate_left
      · simp only [Act.put, List.setIfInBounds_toArray, List.set_cons_zero, List.set_cons_succ, i64_w, i32_w]
        rfl
      refine take_ (i := 2) (N := some 81) (v := ?_) (a' := ?_) #[true, true, true, false, false, false, false, true, true, true, false, false, false, false, false, false, false] rfl rfl (by kernel_rfl) (fun _ _ _ h => h) (Or.inl ⟨by rfl, ?_⟩) hHeld ?_ ?_
      rotate_left
      · intro w' s0
        go_simp
        with_reducible rfl
      rotate_left
      · simp only [Act.put, List.setIfInBounds_toArray, List.set_cons_zero, List.set_cons_succ, i64_w, i32_w]
        rfl
      refine pure_ (i := 3) (N := some 82) (v := ?_) (a' := ?_) #[true, true, true, true, false, false, false, true, true, true, false, false, false, false, false, false, false] rfl rfl (by kernel_rfl) (fun _ _ _ h => h) (Or.inl ⟨by rfl, ?_⟩) ?_ ?_
      rotate_left
      · intro w'
        go_simp
        with_reducible rfl
      rotate_left
      · simp only [Act.put, List.setIfInBounds_toArray, List.set_cons_zero, List.set_cons_succ, i64_w, i32_w]
        rfl
      refine take_ (i := 10) (N := some 89) (v := ?_) (a' := ?_) #[true, true, true, true, false, false, false, true, true, true, true, false, false, false, false, false, false] rfl rfl (by kernel_rfl) (fun _ _ _ h => h) (Or.inl ⟨by rfl, ?_⟩) hHeld ?_ ?_
      rotate_left
      · intro w' s0
        go_simp
        with_reducible rfl
      rotate_left
      · simp only [Act.put, List.setIfInBounds_toArray, List.set_cons_zero, List.set_cons_succ, i64_w, i32_w]
        rfl
      refine pure_ (i := 11) (N := some 90) (v := ?_) (a' := ?_) #[true, true, true, true, false, false, false, true, true, true, true, true, false, false, false, false, false] rfl rfl (by kernel_rfl) (fun _ _ _ h => h) (Or.inl ⟨by rfl, ?_⟩) ?_ ?_
      rotate_left
      · intro w'
        go_simp
        with_reducible rfl
      rotate_left
      · simp only [Act.put, List.setIfInBounds_toArray, List.set_cons_zero, List.set_cons_succ, i64_w, i32_w]
        rfl
      refine one_ (i := 4) (N := some 83) #[true, true, true, true, true, false, false, true, true, true, true, true, false, false, false, false, false] rfl rfl (by kernel_rfl) (by decide) (fun K hK => ?_)
      refine goes_ Try.func34 (by kernel_rfl) rfl #[.int .i64 (s.length : Int)] (by rfl) rfl rfl (by simp only [List.map_toArray, List.map_cons, List.map_nil]; rfl) ?_
      with_reducible refine (keep_any s.length _).mono ?_
      rintro e w6 ⟨rfl, hk9⟩
      refine ⟨_, rfl, ?_⟩
      have T6 := Go.Cx.hid (T5.out.mono HB.out (((Ch.refl (fun _ => False) w5).drew).f hk9))
      refine hK.out _ _ ((hk9.cell hHeld id)) (fun hHeld => ?_)
      clear hK K
      refine norm_ (a' := ?_) ?_ ?_
      rotate_left
      · show Act.put _ (some 83) _ = _
        simp only [Act.put, List.setIfInBounds_toArray, List.set_cons_zero, List.set_cons_succ, i64_w, i32_w]
        rfl
      refine one_ (i := 5) (N := some 84) #[true, true, true, true, true, true, false, true, true, true, true, true, false, false, false, false, false] rfl rfl (by kernel_rfl) (by decide) (fun K hK => ?_)
      refine value_ (w1 := ?_) (v := ?_) (by rfl) rfl ?_ ?_
      rotate_left 2
      · go_simp
        constructor
        · rfl
        · rfl
      refine hK.out _ _ ((((Ch.refl (fun _ => False) _).alloc _).cell hHeld id)) (fun hHeld => ?_)
      clear hK K
      refine norm_ (a' := ?_) ?_ ?_
      rotate_left
      · show Act.put _ (some 84) _ = _
        simp only [Act.put, List.setIfInBounds_toArray, List.set_cons_zero, List.set_cons_succ, i64_w, i32_w]
        rfl
      refine one_ (i := 6) (N := some 85) #[true, true, true, true, true, true, true, true, true, true, true, true, false, false, false, false, false] rfl rfl (by kernel_rfl) (by decide) (fun K hK => ?_)
      refine step_app2 (by rfl) _ _ _ _ (by rfl) wb.heap.size 43 3 32 _ et_comp bx mx cx _ (by rfl) ((T6.out.mono HB.out ((Ch.refl (fun _ => False) _).alloc _)).ox) _ 1 _ (by rfl) (src3 _ ⟨1, (s.length : Int), ⟨#[]⟩⟩ _ rfl) hszx hszx2 (by have h_ := T6.out.ch.size; simp; omega) ?_
      intro xa xc w8 hO hC hN
      have T8 := Go.Cx.hid ((T6.out.mono HB.out ((Ch.refl (fun _ => False) _).alloc _)).putX HB.out hC (o := [⟨1, (s.length : Int), ⟨#[]⟩⟩]) rfl (by simpa [encs3] using hO) hN)
      refine hK.out _ _ ((hC.cell hHeld (fun ⟨b, hb, e⟩ => (NX9.out b hb).2 e))) (fun hHeld => ?_)
      clear hK K
      refine norm_ (a' := ?_) ?_ ?_
      rotate_left
      · show Act.put _ (some 85) _ = _
        simp only [Act.put, List.setIfInBounds_toArray, List.set_cons_zero, List.set_cons_succ, i64_w, i32_w]
        rfl
      refine one_ (i := 12) (N := some 91) #[true, true, true, true, true, true, true, true, true, true, true, true, true, false, false, false, false] rfl rfl (by kernel_rfl) (by decide) (fun K hK => ?_)
      refine goes_ Try.func33 (by kernel_rfl) rfl #[.pointer (some ⟨B2, 0, none⟩), .int .i64 (s.length : Int)] (by rfl) rfl rfl (by simp only [List.map_toArray, List.map_cons, List.map_nil]; rfl) ?_
      with_reducible refine (HT.out _ T8.out.cb).mono ?_
      rintro e w9 ⟨rfl, hc, hbk⟩
      refine ⟨_, rfl, ?_⟩
      have T9 := Go.Cx.hid (P7S.takeB (m := s.length) HB.out T8.out HZB.out hk hk2b hc hbk)
      refine hK.out _ _ ((hc.cell hHeld NQ10)) (fun hHeld => ?_)
      clear hK K
      refine norm_ (a' := ?_) ?_ ?_
      rotate_left
      · show Act.put _ (some 91) _ = _
        simp only [Act.put, List.setIfInBounds_toArray, List.set_cons_zero, List.set_cons_succ, i64_w, i32_w]
        rfl
      refine one_ (i := 13) (N := some 92) #[true, true, true, true, true, true, true, true, true, true, true, true, true, true, false, false, false] rfl rfl (by kernel_rfl) (by decide) (fun K hK => ?_)
      refine value_ (w1 := ?_) (v := ?_) (by rfl) rfl ?_ ?_
      rotate_left 2
      · go_simp
        constructor
        · rfl
        · rfl
      refine hK.out _ _ ((((Ch.refl (fun _ => False) _).alloc _).cell hHeld id)) (fun hHeld => ?_)
      clear hK K
      refine norm_ (a' := ?_) ?_ ?_
      rotate_left
      · show Act.put _ (some 92) _ = _
        simp only [Act.put, List.setIfInBounds_toArray, List.set_cons_zero, List.set_cons_succ, i64_w, i32_w]
        rfl
      refine last_ (i := 14) (N := some 93) #[true, true, true, true, true, true, true, true, true, true, true, true, true, true, true, false, false] rfl rfl (by kernel_rfl) (by decide) (fun K hK => ?_)
      refine step_app2 (by rfl) _ _ _ _ (by rfl) wb.heap.size 43 3 32 _ et_comp by_ my cy _ (by rfl) ((T9.out.mono HB.out ((Ch.refl (fun _ => False) _).alloc _)).oy) _ 1 _ (by rfl) (src3 _ ⟨2, q1, str s⟩ _ rfl) hszy hszy2 (by have h_ := T9.out.ch.size; simp; omega) ?_
      intro ya yc w11 hO hC hN
      have T11 := Go.Cx.hid ((T9.out.mono HB.out ((Ch.refl (fun _ => False) _).alloc _)).putY HB.out hC (o := [⟨2, q1, str s⟩]) rfl (by simpa [encs3] using hO) hN)
      refine hK.out _ _ ?_
      clear hK K
      refine norm_ (a' := ?_) ?_ ?_
      rotate_left
      · show Act.put _ (some 93) _ = _
        simp only [Act.put, List.setIfInBounds_toArray, List.set_cons_zero, List.set_cons_succ, i64_w, i32_w]
        rfl
      refine pure_ (i := 15) (N := some 4) (v := ?_) (a' := ?_) #[true, true, true, true, true, true, true, true, true, true, true, true, true, true, true, true, false] rfl rfl (by kernel_rfl) (fun _ _ _ h => h) (Or.inl ⟨by rfl, ?_⟩) ?_ ?_
      rotate_left
      · intro w'
        go_simp
        with_reducible rfl
      rotate_left
      · simp only [Act.put, List.setIfInBounds_toArray, List.set_cons_zero, List.set_cons_succ, i64_w, i32_w]
        rfl
      refine pure_ (i := 16) (N := some 5) (v := ?_) (a' := ?_) #[true, true, true, true, true, true, true, true, true, true, true, true, true, true, true, true, true] rfl rfl (by kernel_rfl) (fun _ _ _ h => h) (Or.inl ⟨by rfl, ?_⟩) ?_ ?_
      rotate_left
      · intro w'
        go_simp
        with_reducible rfl
      rotate_left
      · simp only [Act.put, List.setIfInBounds_toArray, List.set_cons_zero, List.set_cons_succ, i64_w, i32_w]
        rfl
      refine done_ (by kernel_rfl) ?_
      clear hHeld
      obtain ⟨n', hn', hM'⟩ := HM5.out.step HST.out
      go_wp2
      refine wp_goto ?_
      exact ⟨by trivial, n', hn', PJ.mk HW HB (Go.Cx.hid T11.out) (Go.Cx.hid hM')⟩
    have hB1 : k2 < m1.length → q0 ≠ 2 := fun h e => hB ⟨h, e⟩
    clear hB
    have tq : (q0 == 2) = false := by
      rcases Nat.lt_or_ge k2 m1.length with h | h
      · exact beq_eq_false_iff_ne.2 (hB1 h)
      · have := HQQ.out; rw [ptS_end h] at this; simp only [S43.mk.injEq] at this; rw [this.1]; rfl
    have hBk : ∀ d l, restS m1 k2 g2 = d :: l → d.k ≠ 2 := by
      intro d l e
      rcases Nat.lt_or_ge k2 m1.length with h | h
      · rw [rest_atS h] at e
        have e2 := (List.cons.inj e).1
        rw [← e2]
        have := HQQ.out; rw [ptS_at h] at this
        have h3 := congrArg S43.f0 this
        have h4 := hB1 h
        intro h5; exact h4 (h3.trans h5)
      · rw [rest_endS h] at e; cases e
    by_cases hD : m0.length ≤ k1 ∨ m1.length ≤ k2
    · have hh := pstep_end HM5.out.va HM5.out.vb HM5.out.fits hAk hBk (by rcases hD with h | h; exact .inl (rest_endS h); exact .inr (rest_endS h))
      have hk1 : m0.length ≤ k1 := by
        rcases Nat.lt_or_ge k1 m0.length with h | h
        · rw [rest_atS h] at hh; cases hh.1
        · exact h
      have hp := HPP.out
      rw [ptS_end hk1] at hp
      simp only [S43.mk.injEq] at hp
      obtain ⟨rfl, rfl, rfl⟩ := hp
      have hsx : at_ (cms xs) = (pairA a b).1 := by have := HM5.out.s1; rw [hh.1, hh.2] at this; simpa [pairA] using this
      have hsy : at_ (cms ys) = (pairA a b).2 := by have := HM5.out.s2; rw [hh.1, hh.2] at this; simpa [pairA] using this
      have hpi := pair_ins a b HIO.out
      have hpo := pair_outs a b HIO.out
      have hpn := pair_nput a b HIO.out
      have hop : outs (pairA a b).1 ≤ outs a + outs b := by
        have q1 := outs_ins (pairA a b).1
        have q2 := nput_le a
        rw [hpi.1, hpn.1] at q1; omega
      have hsz := HSZ.out
      have hgx : good (cms xs) = true := good_iff.2 ⟨HM5.out.vx, by unfold inC outC; rw [hsx, hpi.1]; omega⟩
      have hgy : good (cms ys) = true := good_iff.2 ⟨HM5.out.vy, by unfold inC outC; rw [hsy, hpi.2, ← hpo]; omega⟩
      have hnx := normal_eq xs hgx (xs.length + 1) (by omega)
      have hny := normal_eq ys hgy (ys.length + 1) (by omega)
      rw [hsx] at hnx
      rw [hsy] at hny
      have hrx := (Kd.R_reads' (own3 HLX.out T5.out.ox)).2.2
      have hry := (Kd.R_reads' (own3 HLY.out T5.out.oy)).2.2
      have HNX := Go.Cx.hid hnx
      have HNY := Go.Cx.hid hny
      have HRX := Go.Cx.hid hrx
      have HRY := Go.Cx.hid hry
      have HCX := Go.Cx.hid T5.out.ox.sl.2.1
      have HCY := Go.Cx.hid T5.out.oy.sl.2.1
      have K2 : Hid (2 = 2) := Go.Cx.hid rfl
      have hsw : w.heap.size ≤ w5.heap.size := Nat.le_trans HW.out.ch.size (Nat.le_trans BS.out SZ5.out)
      have hw5 : Ch (fun _ => False) w w5 := by
        refine ⟨T5.out.ch.os.trans HW.out.ch.os, T5.out.ch.tape.trans HW.out.ch.tape, T5.out.ch.output.trans HW.out.ch.output, hsw, fun i hi _ => ?_⟩
        have b1 := HW.out.b1
        have b2 := HW.out.b2
        exact (T5.out.ch.block i (Nat.lt_of_lt_of_le hi HW.out.ch.size) (by omega)).trans (HW.out.ch.block i hi id)
      have HW5 := Go.Cx.hid hw5
      clear hh hsx hsy hpi hpo hpn hop hsz hgx hgy hnx hny hrx hry hAk hBk hA1 hB1 hD hw5
      go_wp2_with (first
        | (go_at_call 35; refine (long_none _).mono ?_; rintro e w6 ⟨rfl, hc⟩; have C6 := Go.Cx.hid hc; clear hc)
        | (have K2' := K2; go_at_call 31; rw [HLX.out]; refine (op_Normal.calls _ bx cx xs _ _ (Kd.C_below HRX.out C6.out.below0) (by rw [← HLX.out]; exact HCX.out) HNX.out).mono ?_; clear K2 K2'; rintro e w7 ⟨v0, rfl, ho, hb⟩; have HV0' := Go.Cx.hid ho; have C7 := Go.Cx.hid (C6.out.f (Ch.of_below hb)); clear ho hb)
        | (go_at_call 31; rw [HLY.out]; refine (op_Normal.calls _ by_ cy ys _ _ (Kd.C_below HRY.out C7.out.below0) (by rw [← HLY.out]; exact HCY.out) HNY.out).mono ?_; rintro e w8 ⟨v1, rfl, ho, hb⟩; have HV1' := Go.Cx.hid ho; have HB8 := Go.Cx.hid hb; clear ho hb))
      simp only [Exit.jump]
      go_ret3
      obtain ⟨Z0, e0, rfl⟩ := form3 HV0'.out
      obtain ⟨Z1, e1, rfl⟩ := form3 HV1'.out
      have f0 := row_block HV0'.out
      have f1 := row_block HV1'.out
      have s6 := C6.out.size
      have s7 := C7.out.size
      refine ⟨_, _, rfl, Kd.R_lower (Kd.R_below (Kd.R_mono (Kd.R_bound HV0'.out) (fun x hx e => ?_)) HB8.out) (Nat.le_trans hsw s6), Kd.R_lower (Kd.R_mono (Kd.R_bound HV1'.out) (fun x hx e => ?_)) (Nat.le_trans hsw s7), (HW5.out.f (C7.out.f (Ch.of_below HB8.out))).below0⟩
      · have q := own_at e.symm
        obtain ⟨ad, e2, e3⟩ := q
        have := f1 ad e2
        have := hx.2.2.1
        omega
      · have q := own_at e.symm
        obtain ⟨ad, e2, e3⟩ := q
        have := f0 ad e2
        have := hx.2.1
        omega
    have hk1 : k1 < m0.length := by omega
    have hk2 : k2 < m1.length := by omega
    have hpe : (⟨p0, p1, p2⟩ : S43) = sc (bk g1 (cm m0[k1])) := by rw [HPP.out, ptS_at hk1]
    have hqe : (⟨q0, q1, q2⟩ : S43) = sc (bk g2 (cm m1[k2])) := by rw [HQQ.out, ptS_at hk2]
    have hbo1 := (bk_ok (HS5.out.ca.ok hk1) (HS5.out.ca.gin hk1)).1
    have hbo2 := (bk_ok (HS5.out.cb.ok hk2) (HS5.out.cb.gin hk2)).1
    have hZ1 : csz (bk g1 (cm m0[k1])) ≤ 50000 := by have := HZ0.out _ hk1; rw [csz_bk (HS5.out.ca.ok hk1)]; omega
    have hZ2 : csz (bk g2 (cm m1[k2])) ≤ 50000 := by have := HZ1.out _ hk2; rw [csz_bk (HS5.out.cb.ok hk2)]; omega
    have hst := PStep.both (bk g1 (cm m0[k1])) ((cms m0).drop (k1 + 1)) (bk g2 (cm m1[k2])) ((cms m1).drop (k2 + 1)) (hAk _ _ (rest_atS hk1)) (hBk _ _ (rest_atS hk2))
    rw [← rest_atS hk1, ← rest_atS hk2] at hst
    obtain ⟨L1, hL1⟩ : ∃ L, L = csz (bk g1 (cm m0[k1])) := ⟨_, rfl⟩
    obtain ⟨L2, hL2⟩ : ∃ L, L = csz (bk g2 (cm m1[k2])) := ⟨_, rfl⟩
    have hp1 := csz_pos hbo1
    have hp2 := csz_pos hbo2
    rw [← hL1, ← hL2] at hst
    obtain ⟨mn, hmn⟩ : ∃ mn, mn = min L1 L2 := ⟨_, rfl⟩
    rw [← hmn] at hst
    have hmin : min (L1 : Int) (L2 : Int) = (mn : Int) := by omega
    have tL1 : ((L1 : Int) == 0) = false := beq_eq_false_iff_ne.2 (by omega)
    have tL2 : ((L2 : Int) == 0) = false := beq_eq_false_iff_ne.2 (by omega)
    obtain ⟨r0, r1, r2, hr⟩ : ∃ p0 p1 p2, (⟨p0, p1, p2⟩ : S43) = sc (fr mn (bk g1 (cm m0[k1]))) := ⟨_, _, _, rfl⟩
    obtain ⟨s0, s1, s2, hs⟩ : ∃ p0 p1 p2, (⟨p0, p1, p2⟩ : S43) = sc (fr mn (bk g2 (cm m1[k2]))) := ⟨_, _, _, rfl⟩
    obtain ⟨ox, hox⟩ : ∃ o : List S43, o = if s0 = 1 then [⟨r0, r1, r2⟩] else [] := ⟨_, rfl⟩
    obtain ⟨oy, hoy⟩ : ∃ o : List S43, o = if r0 = 1 then [⟨s0, s1, s2⟩] else [] := ⟨_, rfl⟩
    have hcx : cms ox = pairX (fr mn (bk g1 (cm m0[k1]))) (fr mn (bk g2 (cm m1[k2]))) := by
      rw [← cm_of hr, ← cm_of hs, hox]
      unfold pairX
      show _ = if s0 = 1 then _ else _
      split <;> rfl
    have hcy : cms oy = pairY (fr mn (bk g1 (cm m0[k1]))) (fr mn (bk g2 (cm m1[k2]))) := by
      rw [← cm_of hr, ← cm_of hs, hoy]
      unfold pairY
      show _ = if r0 = 1 then _ else _
      split <;> rfl
    rw [← hcx, ← hcy] at hst
    have hg1 := rest_goS (m := mn) HS5.out.ca hk1
    have hg2 := rest_goS (m := mn) HS5.out.cb hk2
    rw [← hg1, ← hg2] at hst
    have HLP := Go.Cx.hid (fun w' => long_any hbo1 hpe w')
    have HLQ := Go.Cx.hid (fun w' => long_any hbo2 hqe w')
    rw [← hL1] at HLP
    rw [← hL2] at HLQ
    have HLP2 := HLP
    have HLQ2 := HLQ
    have HTA := Go.Cx.hid (fun (w' : World) (hcur : Cur w' B1 R0 d0 m0 k1 g1) => take_any hcur (fun h => by have := HZ0.out _ h; omega) (by omega) hk1 (m := mn) (by omega) (by omega) hr)
    have HTB := Go.Cx.hid (fun (w' : World) (hcur : Cur w' B2 R1 d1 m1 k2 g2) => take_any hcur (fun h => by have := HZ1.out _ h; omega) (by omega) hk2 (m := mn) (by omega) (by omega) hs)
    have HZA : Hid (∀ h : k1 < m0.length, csz (cm m0[k1]) ≤ 100000) := Go.Cx.hid (fun h => by have := HZ0.out _ h; omega)
    have HZB : Hid (∀ h : k2 < m1.length, csz (cm m1[k2]) ≤ 100000) := Go.Cx.hid (fun h => by have := HZ1.out _ h; omega)
    have hk1b : k1 ≤ 100000 := by omega
    have hk2b : k2 ≤ 100000 := by omega
    have HST := Go.Cx.hid hst
    have HOX := Go.Cx.hid hox
    have HOY := Go.Cx.hid hoy
    clear hst hg1 hg2 hcx hcy hr hs hL1 hL2 hp1 hp2 hZ1 hZ2 hbo1 hbo2 hpe hqe hAk hBk hA1 hB1 hD hmn hox hoy
    go_upto_region 5 with (first
      | (go_at_call 35; refine (HLP.out _).mono ?_; clear HLP; rintro e w6 ⟨rfl, hc⟩; have C6 := Go.Cx.hid hc; have qc0 := hc.cell qc0 id; have qc1 := hc.cell qc1 id; have qc2 := hc.cell qc2 id; clear hc)
      | (go_at_call 35; refine (HLQ.out _).mono ?_; clear HLQ; rintro e w7 ⟨rfl, hc⟩; have C7 := Go.Cx.hid (C6.out.f hc); clear hc))
    have pd0 := C7.out.cell pc0 id
    have pd1 := C7.out.cell pc1 id
    have pd2 := C7.out.cell pc2 id
    have qd0 := C7.out.cell qc00 id
    have qd1 := C7.out.cell qc10 id
    have qd2 := C7.out.cell qc20 id
    refine start_ (n := 6) (S := fun w' => w'.cell? ⟨g9, 0, none⟩ = some (.int .i64 p0) ∧ w'.cell? ⟨g9, 1, none⟩ = some (.int .i64 p1) ∧ w'.cell? ⟨g9, 2, none⟩ = some (.string p2) ∧ w'.cell? ⟨g10, 0, none⟩ = some (.int .i64 q0) ∧ w'.cell? ⟨g10, 1, none⟩ = some (.int .i64 q1) ∧ w'.cell? ⟨g10, 2, none⟩ = some (.string q2)) (ds := []) #[false, false, false, false, false, false] (by kernel_rfl) rfl rfl ⟨pd0, pd1, pd2, qd0, qd1, qd2⟩ (fun hHeld => ?_)
    refine take_ (i := 0) (N := some 31) (v := ?_) (a' := ?_) #[true, false, false, false, false, false] rfl rfl (by kernel_rfl) (fun _ _ _ h => h) (Or.inl ⟨by rfl, ?_⟩) hHeld ?_ ?_
    rotate_left
    · rintro w' ⟨s0, s1, s2, s3, s4, s5⟩
      go_simp
      with_reducible rfl
    rotate_left
    · simp only [Act.put, List.setIfInBounds_toArray, List.set_cons_zero, List.set_cons_succ, i64_w, i32_w]
      rfl
    refine take_ (i := 2) (N := some 33) (v := ?_) (a' := ?_) #[true, false, true, false, false, false] rfl rfl (by kernel_rfl) (fun _ _ _ h => h) (Or.inl ⟨by rfl, ?_⟩) hHeld ?_ ?_
    rotate_left
    · rintro w' ⟨s0, s1, s2, s3, s4, s5⟩
      go_simp
      with_reducible rfl
    rotate_left
    · simp only [Act.put, List.setIfInBounds_toArray, List.set_cons_zero, List.set_cons_succ, i64_w, i32_w]
      rfl
    refine one_ (i := 1) (N := some 32) #[true, true, true, false, false, false] rfl rfl (by kernel_rfl) (by decide) (fun K hK => ?_)
    refine goes_ Try.func35 (by kernel_rfl) rfl #[.agg #[.int .i64 p0, .int .i64 p1, .string p2]] (by rfl) rfl rfl (by simp only [List.map_toArray, List.map_cons, List.map_nil]; rfl) ?_
    with_reducible refine (HLP2.out _).mono ?_
    rintro e w8 ⟨rfl, hb⟩
    refine ⟨_, rfl, ?_⟩
    have D1 := Go.Cx.hid hb
    refine hK.out _ _ ⟨(hb.cell hHeld.1 id), (hb.cell hHeld.2.1 id), (hb.cell hHeld.2.2.1 id), (hb.cell hHeld.2.2.2.1 id), (hb.cell hHeld.2.2.2.2.1 id), (hb.cell hHeld.2.2.2.2.2 id)⟩ (fun hHeld => ?_)
    clear hK K
    refine norm_ (a' := ?_) ?_ ?_
    rotate_left
    · show Act.put _ (some 32) _ = _
      simp only [Act.put, List.setIfInBounds_toArray, List.set_cons_zero, List.set_cons_succ, i64_w, i32_w]
      rfl
    refine one_ (i := 3) (N := some 34) #[true, true, true, true, false, false] rfl rfl (by kernel_rfl) (by decide) (fun K hK => ?_)
    refine goes_ Try.func35 (by kernel_rfl) rfl #[.agg #[.int .i64 q0, .int .i64 q1, .string q2]] (by rfl) rfl rfl (by simp only [List.map_toArray, List.map_cons, List.map_nil]; rfl) ?_
    with_reducible refine (HLQ2.out _).mono ?_
    rintro e w9 ⟨rfl, hb⟩
    refine ⟨_, rfl, ?_⟩
    have D2 := Go.Cx.hid hb
    refine hK.out _ _ ⟨(hb.cell hHeld.1 id), (hb.cell hHeld.2.1 id), (hb.cell hHeld.2.2.1 id), (hb.cell hHeld.2.2.2.1 id), (hb.cell hHeld.2.2.2.2.1 id), (hb.cell hHeld.2.2.2.2.2 id)⟩ (fun hHeld => ?_)
    clear hK K
    refine norm_ (a' := ?_) ?_ ?_
    rotate_left
    · show Act.put _ (some 34) _ = _
      simp only [Act.put, List.setIfInBounds_toArray, List.set_cons_zero, List.set_cons_succ, i64_w, i32_w]
      rfl
    refine pure_ (i := 4) (N := some 35) (v := ?_) (a' := ?_) #[true, true, true, true, true, false] rfl rfl (by kernel_rfl) (fun _ _ _ h => h) (Or.inl ⟨by rfl, ?_⟩) ?_ ?_
    rotate_left
    · intro w'
      go_simp
      with_reducible rfl
    rotate_left
    · simp only [Act.put, List.setIfInBounds_toArray, List.set_cons_zero, List.set_cons_succ, i64_w, i32_w]
      rfl
    refine pure_ (i := 5) (N := some 11) (v := ?_) (a' := ?_) #[true, true, true, true, true, true] rfl rfl (by kernel_rfl) (fun _ _ _ h => h) (Or.inl ⟨by rfl, ?_⟩) ?_ ?_
    rotate_left
    · intro w'
      go_simp
      with_reducible rfl
    rotate_left
    · simp only [Act.put, List.setIfInBounds_toArray, List.set_cons_zero, List.set_cons_succ, i64_w, i32_w]
      rfl
    refine done_ (by kernel_rfl) ?_
    clear hHeld
    have T9 := Go.Cx.hid (T5.out.mono HB.out (((C7.out.drew).f D1.out).f D2.out))
    have SZ9 : wr.heap.size ≤ w9.heap.size := Nat.le_trans SZ5.out (((C7.out.drew).f D1.out).f D2.out).size
    go_upto_region 7 with (first
      | (go_at_call 33; refine (HTA.out _ T9.out.ca).mono ?_; clear HTA; rintro e w10 ⟨rfl, hc, hbk⟩; have T10 := Go.Cx.hid (P7S.takeA (m := mn) HB.out T9.out HZA.out hk1 hk1b hc hbk); have SZ10 : wr.heap.size ≤ w10.heap.size := Nat.le_trans SZ9 hc.size; clear hc hbk)
      | (go_at_call 33; refine (HTB.out _ T10.out.cb).mono ?_; clear HTB; rintro e w11 ⟨rfl, hc, hbk⟩; have T11 := Go.Cx.hid (P7S.takeB (m := mn) HB.out T10.out HZB.out hk2 hk2b hc hbk); have SZ11 : wr.heap.size ≤ w11.heap.size := Nat.le_trans SZ10 hc.size; clear hc hbk)
      | ((with_reducible refine gate_dst (N := 12) rfl ?_); refine box_event ?hg (N := 12) ?hd (cs := #[.int .i64 0, .int .i64 0, .string ⟨#[]⟩]) (t := 43) ?hr ?_; (case hd => rfl); (case hg => rfl); (case hr => first | (go_simp; done) | (go_simp; rfl)); intro g12 hgq w12 hbox hb; have hb := Ch.of_below hb; have D12 := Go.Cx.hid hb; have BG12 := Go.Cx.hid hbox; have GE12 : w11.heap.size ≤ g12 := (by omega); clear hbox hgq hb)
      | ((with_reducible refine gate_dst (N := 13) rfl ?_); refine box_event ?hg (N := 13) ?hd (cs := #[.int .i64 0, .int .i64 0, .string ⟨#[]⟩]) (t := 43) ?hr ?_; (case hd => rfl); (case hg => rfl); (case hr => first | (go_simp; done) | (go_simp; rfl)); intro g13 hgq w13 hbox hb; have hb := Ch.of_below hb; have D13 := Go.Cx.hid (D12.out.f hb); have BG13 := Go.Cx.hid hbox; have BG12n := Go.Cx.hid (hb.heap BG12.out id); have GE13 : w11.heap.size ≤ g13 := (by rw [hgq]; exact D12.out.size); have NE : g12 ≠ g13 := (by have := lt_of_block BG12.out; have e : g13 = w12.heap.size := hgq; omega); have NEs := NE.symm; have z120 : w13.cell? ⟨g12, 0, none⟩ = some (.int .i64 0) := (blk_cell BG12n.out 0).trans rfl; have z121 : w13.cell? ⟨g12, 1, none⟩ = some (.int .i64 0) := (blk_cell BG12n.out 1).trans rfl; have z122 : w13.cell? ⟨g12, 2, none⟩ = some (.string ⟨#[]⟩) := (blk_cell BG12n.out 2).trans rfl; have z12f := blk_frozen BG12n.out; have z130 : w13.cell? ⟨g13, 0, none⟩ = some (.int .i64 0) := (blk_cell BG13.out 0).trans rfl; have z131 : w13.cell? ⟨g13, 1, none⟩ = some (.int .i64 0) := (blk_cell BG13.out 1).trans rfl; have z132 : w13.cell? ⟨g13, 2, none⟩ = some (.string ⟨#[]⟩) := (blk_cell BG13.out 2).trans rfl; have z13f := blk_frozen BG13.out; clear hbox hgq hb))
    have E15 : Hid (Ch (fun _ => False) w11 ((((((w13.setCell ⟨g12, 0, none⟩ (.int .i64 r0)).setCell ⟨g12, 1, none⟩ (.int .i64 r1)).setCell ⟨g12, 2, none⟩ (.string r2)).setCell ⟨g13, 0, none⟩ (.int .i64 s0)).setCell ⟨g13, 1, none⟩ (.int .i64 s1)).setCell ⟨g13, 2, none⟩ (.string s2))) := Go.Cx.hid (chn3 (chn3 D13.out GE12 0 1 2 _ _ _) GE13 0 1 2 _ _ _)
    have BR : Hid (((((((w13.setCell ⟨g12, 0, none⟩ (.int .i64 r0)).setCell ⟨g12, 1, none⟩ (.int .i64 r1)).setCell ⟨g12, 2, none⟩ (.string r2)).setCell ⟨g13, 0, none⟩ (.int .i64 s0)).setCell ⟨g13, 1, none⟩ (.int .i64 s1)).setCell ⟨g13, 2, none⟩ (.string s2)).heap[g12]? = some (.cells #[.int .i64 r0, .int .i64 r1, .string r2] 43 (0, 0))) := Go.Cx.hid ((far3 _ NE _ _ _ _ _ _).trans (put3 BG12n.out _ _ _))
    have BS_ : Hid (((((((w13.setCell ⟨g12, 0, none⟩ (.int .i64 r0)).setCell ⟨g12, 1, none⟩ (.int .i64 r1)).setCell ⟨g12, 2, none⟩ (.string r2)).setCell ⟨g13, 0, none⟩ (.int .i64 s0)).setCell ⟨g13, 1, none⟩ (.int .i64 s1)).setCell ⟨g13, 2, none⟩ (.string s2)).heap[g13]? = some (.cells #[.int .i64 s0, .int .i64 s1, .string s2] 43 (0, 0))) := Go.Cx.hid (put3 ((far3 _ NE.symm _ _ _ _ _ _).trans BG13.out) _ _ _)
    generalize ((((((w13.setCell ⟨g12, 0, none⟩ (.int .i64 r0)).setCell ⟨g12, 1, none⟩ (.int .i64 r1)).setCell ⟨g12, 2, none⟩ (.string r2)).setCell ⟨g13, 0, none⟩ (.int .i64 s0)).setCell ⟨g13, 1, none⟩ (.int .i64 s1)).setCell ⟨g13, 2, none⟩ (.string s2)) = w15 at E15 BR BS_ ⊢
    clear z120 z121 z122 z12f z130 z131 z132 z13f BG12 BG12n BG13 D12 D13 pd0 pd1 pd2 qd0 qd1 qd2 pc0 pc1 pc2 qc0 qc1 qc2 qc00 qc10 qc20
    have T15 := Go.Cx.hid (T11.out.mono HB.out E15.out)
    have rc0 : w15.cell? ⟨g12, 0, none⟩ = some (.int .i64 r0) := (blk_cell BR.out 0).trans rfl
    have rc1 : w15.cell? ⟨g12, 1, none⟩ = some (.int .i64 r1) := (blk_cell BR.out 1).trans rfl
    have rc2 : w15.cell? ⟨g12, 2, none⟩ = some (.string r2) := (blk_cell BR.out 2).trans rfl
    have sc0 : w15.cell? ⟨g13, 0, none⟩ = some (.int .i64 s0) := (blk_cell BS_.out 0).trans rfl
    have sc1 : w15.cell? ⟨g13, 1, none⟩ = some (.int .i64 s1) := (blk_cell BS_.out 1).trans rfl
    have sc2 : w15.cell? ⟨g13, 2, none⟩ = some (.string s2) := (blk_cell BS_.out 2).trans rfl
    have NX12 : Hid (∀ b : Addr, bx = some b → b.block ≠ g12 ∧ b.block ≠ g13) := Go.Cx.hid (fun b hb => by have := (HS5.out.ox.block b hb).2; omega)
    obtain ⟨n', hn', hM'⟩ := HM5.out.step HST.out
    have HM' := Go.Cx.hid hM'
    clear hM' NE NEs GE12 GE13
    by_cases hs1 : s0 = 1
    · have hox : ox = [⟨r0, r1, r2⟩] := by rw [HOX.out, if_pos hs1]
      subst hox
      subst hs1
      go_upto_region 9 with (at_builtin; refine wpList_app rfl _ _ _ _ rfl wb.heap.size 43 3 32 _ et_comp bx mx cx _ rfl ((T15.out.mono HB.out ((Ch.refl (fun _ => False) _).alloc _)).ox) _ 1 _ rfl (src3 _ ⟨r0, r1, r2⟩ _ rfl) hszx hszx2 (by have h_ := T15.out.ch.size; simp; omega) ?_; intro xa xc w16 hO hS hC hN; have T16 := Go.Cx.hid ((T15.out.mono HB.out ((Ch.refl (fun _ => False) _).alloc _)).putX HB.out hC (o := [⟨r0, r1, r2⟩]) rfl (by simpa [encs3] using hO) hN); have C16 := Go.Cx.hid hC; clear hO hS hC hN)
      have rc0 := C16.out.cell (((Ch.refl (fun _ => False) w15).alloc _).cell rc0 id) (fun ⟨b, hb, e⟩ => (NX12.out b hb).1 e)
      have rc1 := C16.out.cell (((Ch.refl (fun _ => False) w15).alloc _).cell rc1 id) (fun ⟨b, hb, e⟩ => (NX12.out b hb).1 e)
      have sc0 := C16.out.cell (((Ch.refl (fun _ => False) w15).alloc _).cell sc0 id) (fun ⟨b, hb, e⟩ => (NX12.out b hb).2 e)
      have sc1 := C16.out.cell (((Ch.refl (fun _ => False) w15).alloc _).cell sc1 id) (fun ⟨b, hb, e⟩ => (NX12.out b hb).2 e)
      have sc2 := C16.out.cell (((Ch.refl (fun _ => False) w15).alloc _).cell sc2 id) (fun ⟨b, hb, e⟩ => (NX12.out b hb).2 e)
      by_cases hr1 : r0 = 1
      · have tr : (r0 == 1) = true := beq_iff_eq.2 hr1
        have hoy : oy = [⟨1, s1, s2⟩] := by rw [HOY.out, if_pos hr1]
        subst hoy
        go_wp2_with (at_builtin; refine wpList_app rfl _ _ _ _ rfl wb.heap.size 43 3 32 _ et_comp by_ my cy _ rfl ((T16.out.mono HB.out ((Ch.refl (fun _ => False) _).alloc _)).oy) _ 1 _ rfl (src3 _ ⟨1, s1, s2⟩ _ rfl) hszy hszy2 (by have h_ := T16.out.ch.size; simp; omega) ?_; intro ya yc w17 hO hS hC hN; have T17 := Go.Cx.hid ((T16.out.mono HB.out ((Ch.refl (fun _ => False) _).alloc _)).putY HB.out hC (o := [⟨1, s1, s2⟩]) rfl (by simpa [encs3] using hO) hN); clear hO hS hC hN)
        refine wp_goto ?_
        exact ⟨by trivial, n', hn', PJ.mk HW HB (Go.Cx.hid T17.out) HM'⟩
      · have tr : (r0 == 1) = false := beq_eq_false_iff_ne.2 hr1
        have hoy : oy = [] := by rw [HOY.out, if_neg hr1]
        subst hoy
        rw [List.append_nil] at HM'
        go_wp2
        refine wp_goto ?_
        exact ⟨by trivial, n', hn', PJ.mk HW HB (Go.Cx.hid T16.out) HM'⟩
    · have ts : (s0 == 1) = false := beq_eq_false_iff_ne.2 hs1
      have hox : ox = [] := by rw [HOX.out, if_neg hs1]
      subst hox
      rw [List.append_nil] at HM'
      go_upto_region 9 with fail
      by_cases hr1 : r0 = 1
      · have tr : (r0 == 1) = true := beq_iff_eq.2 hr1
        have hoy : oy = [⟨s0, s1, s2⟩] := by rw [HOY.out, if_pos hr1]
        subst hoy
        go_wp2_with (at_builtin; refine wpList_app rfl _ _ _ _ rfl wb.heap.size 43 3 32 _ et_comp by_ my cy _ rfl ((T15.out.mono HB.out ((Ch.refl (fun _ => False) _).alloc _)).oy) _ 1 _ rfl (src3 _ ⟨s0, s1, s2⟩ _ rfl) hszy hszy2 (by have h_ := T15.out.ch.size; simp; omega) ?_; intro ya yc w17 hO hS hC hN; have T17 := Go.Cx.hid ((T15.out.mono HB.out ((Ch.refl (fun _ => False) _).alloc _)).putY HB.out hC (o := [⟨s0, s1, s2⟩]) rfl (by simpa [encs3] using hO) hN); clear hO hS hC hN)
        refine wp_goto ?_
        exact ⟨by trivial, n', hn', PJ.mk HW HB (Go.Cx.hid T17.out) HM'⟩
      · have tr : (r0 == 1) = false := beq_eq_false_iff_ne.2 hr1
        have hoy : oy = [] := by rw [HOY.out, if_neg hr1]
        subst hoy
        rw [List.append_nil] at HM'
        go_wp2
        refine wp_goto ?_
        exact ⟨by trivial, n', hn', PJ.mk HW HB (Go.Cx.hid T15.out) HM'⟩
theorem transform_Pair.calls (A0 : Option Addr) (c0 : Nat) (l0 : List (S43)) (A1 : Option Addr) (c1 : Nat) (l1 : List (S43)) (r1 r2 : List (S43)) (r3 : Int) (w : World) (hr0 : Kd.C k43 w A0 l0.length l0) (hc0 : l0.length ≤ c0) (hr1 : Kd.C k43 w A1 l1.length l1) (hc1 : l1.length ≤ c1) (h : transform_Pair.f l0 l1 = some (r1, r2, r3)) :
    Calls Try.prog 15 #[.slice A0 l0.length c0, .slice A1 l1.length c1] w fun e w' => ∃ v0_ v1_ : Value, e = .returned (.tuple #[v0_, v1_, .int .i64 r3]) ∧ Kd.R k43 43 w' w.heap.size (fun k_ => some k_ ≠ (v1_ : Value).ownBlock) v0_ r1 ∧ Kd.R k43 43 w' w.heap.size (fun k_ => some k_ ≠ (v0_ : Value).ownBlock) v1_ r2 ∧ Below w.heap.size w w' := by
  unfold transform_Pair.f at h
  by_cases hg : good2 (cms l0) (cms l1) = true
  · rw [if_pos hg] at h
    by_cases hs : inC (cms l0) = inC (cms l1)
    · rw [if_pos hs] at h
      simp only [Option.some.injEq, Prod.mk.injEq] at h
      obtain ⟨rfl, rfl, rfl⟩ := h
      exact pair_any A0 A1 c0 c1 l0 l1 w hr0 hc0 hr1 hc1 hg hs
    · rw [if_neg hs] at h
      simp only [Option.some.injEq, Prod.mk.injEq] at h
      obtain ⟨rfl, rfl, rfl⟩ := h
      exact pair_bad A0 A1 c0 c1 l0 l1 w hr0 hc0 hr1 hc1 hg hs
  · rw [if_neg hg] at h
    cases h

end Go.Proofs.Ytjmnflgicolbdaa.Q

/- Contracts of Go functions: each call answers what the Lean function of its name answers. Conditions: stand in each theorem. Written by this seat's own program over the kit's printer. -/
import Derived.Test.YtmblpbaefoapaaaQ0
import Derived.Test.YtmblpbaefoapaaaQxcm
import Derived.Test.YtmblpbaefoapaaaQxcomitiaref4Out
import Derived.Test.YtmblpbaefoapaaaQxcomitiaref4Normal
import Derived.Test.YtmblpbaefoapaaaQxcomitiaref4In
import Derived.Test.YtmblpbaefoapaaaQxcomitiaref5size
import Derived.Test.YtmblpbaefoapaaaQxcomitiaref5part
import Derived.Test.YtmblpbaefoapaaaQX
import Derived.WalkMore
import Derived.Deep.RegionLaw
namespace Go.Proofs.Ytmblpbaefoapaaa.Q
open Go.RowKit Go.Proofs.YtmblpbaefoapaaaW.PrintWords Go.Proofs.YtmblpbaefoapaaaW.PrintLast Go.Proofs.YtmblpbaefoapaaaW.PrintMore
attribute [local go_sem] max2_int min2_int max_two min_two max_three min_three max_four min_four   -- for this text's walks alone
set_option linter.unusedVariables false
set_option linter.unusedSimpArgs false

-- HAND
/-! ### comitiaref5_Two: function 15 -/
open Go.OpM Go.Cx Go.F64
-- IMPORT Derived.Test.YtmblpbaefoapaaaQX
-- IMPORT Derived.WalkMore
-- IMPORT Derived.Deep.RegionLaw
def comitiaref5_Two.f (l0 l1 : List (S49)) : Option (List (S49) × Int) :=
  if good2 (cms l0) (cms l1) = true then (if inC (cms l1) = outC (cms l0) then some (scs (nf (comp (at_ (cms l0)) (at_ (cms l1)))), 0) else some ([], 7)) else none
/-- The step that is done, in the words of the walk. -/
theorem two5_step {x y p q r s : S49} {la lb la' lb' o : List S49} {n sx sy : Nat} (h : CStep (cm x :: cms la) (cm y :: cms lb) (bothC (fr (min (csz (cm x)) (csz (cm y))) (cm x)) (fr (min (csz (cm x)) (csz (cm y))) (cm y))) (bks (min (csz (cm x)) (csz (cm y))) (cm x) (cms la)) (bks (min (csz (cm x)) (csz (cm y))) (cm y) (cms lb)))
    (hp : p = sc (fr n (cm x))) (hq : q = sc (fr n (cm y))) (hr : r = sc (bk n (cm x))) (hs : s = sc (bk n (cm y))) (hsx : sx = csz (cm x)) (hsy : sy = csz (cm y)) (hn : n = min sx sy)
    (ho : (q.f0 = 1 ∧ o = [p]) ∨ (¬ q.f0 = 1 ∧ p.f0 = 1 ∧ o = [q]) ∨ (¬ q.f0 = 1 ∧ ¬ p.f0 = 1 ∧ o = []))
    (ha : (n = sx ∧ la' = la) ∨ (n < sx ∧ la' = r :: la)) (hb : (n = sy ∧ lb' = lb) ∨ (n < sy ∧ lb' = s :: lb)) : CStep (cms (x :: la)) (cms (y :: lb)) (cms o) (cms la') (cms lb') := by
  have e1 : cms (x :: la) = cm x :: cms la := rfl
  have e2 : cms (y :: lb) = cm y :: cms lb := rfl
  rw [← hsx, ← hsy, ← hn] at h
  have ep := cm_of hp
  have eq := cm_of hq
  have er := cm_of hr
  have es := cm_of hs
  have k1 : (cm p).k = p.f0 := rfl
  have k2 : (cm q).k = q.f0 := rfl
  have a1 : cms la' = bks n (cm x) (cms la) := by
    unfold bks
    rcases ha with ⟨h1, rfl⟩ | ⟨h1, rfl⟩
    · rw [if_neg (by omega)]
    · rw [if_pos (by omega), ← er]; rfl
  have b1 : cms lb' = bks n (cm y) (cms lb) := by
    unfold bks
    rcases hb with ⟨h1, rfl⟩ | ⟨h1, rfl⟩
    · rw [if_neg (by omega)]
    · rw [if_pos (by omega), ← es]; rfl
  have o1 : cms o = bothC (fr n (cm x)) (fr n (cm y)) := by
    unfold bothC
    rw [← ep, ← eq, k1, k2]
    rcases ho with ⟨h1, rfl⟩ | ⟨h1, h2, rfl⟩ | ⟨h1, h2, rfl⟩
    · rw [if_pos h1]; rfl
    · rw [if_neg h1, if_pos h2]; rfl
    · rw [if_neg h1, if_neg h2]; rfl
  rw [e1, e2, a1, b1, o1]
  exact h
structure T5M (a b : List Cm) (k : Nat) (la lb lo : List S49) : Prop where
  va : Vl (cms la)
  vb : Vl (cms lb)
  vo : Vl (cms lo)
  fits : outs (at_ (cms la)) = ins (at_ (cms lb))
  sum : at_ (cms lo) ++ comp (at_ (cms la)) (at_ (cms lb)) = comp (at_ a) (at_ b)
  left : k = (at_ (cms la)).length + (at_ (cms lb)).length
  len : lo.length + k ≤ 100000
theorem T5M.step {a b : List Cm} {k : Nat} {la lb lo la' lb' o : List S49} (h : T5M a b k la lb lo) (s : CStep (cms la) (cms lb) (cms o) (cms la') (cms lb')) : ∃ k', k' < k ∧ T5M a b k' la' lb' (lo ++ o) := by
  obtain ⟨v1, v2, v3⟩ := s.vl h.va h.vb
  have h1 := s.less h.va h.vb
  have h2 := s.len
  have h3 := s.comp h.va h.vb
  refine ⟨_, by rw [h.left]; exact h1, v2, v3, ?_, s.fits h.va h.vb h.fits, ?_, rfl, ?_⟩
  · unfold cms; rw [List.map_append]; exact h.vo.append v1
  · rw [← h.sum, h3]; unfold cms; rw [List.map_append]; simp
  · have := h.left; have := h.len
    have e : (cms o).length = o.length := by simp [cms]
    rw [e] at h2
    simp only [List.length_append]; omega
structure T5S (w wr : World) (ga gb : Nat) (v0 v1 : Value) (la lb : List S49) (bo : Option Addr) (m co : Nat) (lo : List S49) : Prop where
  ra : Rem wr ga v0 la
  rb : Rem wr gb v1 lb
  own : Own wr w.heap.size 49 3 bo m co (encs3 lo)
  len : m = lo.length
  ne : ga ≠ gb
  la : w.heap.size ≤ ga
  lb : w.heap.size ≤ gb
  ha : ga < wr.heap.size
  hb : gb < wr.heap.size
  no : ∀ x, bo = some x → x.block ≠ ga ∧ x.block ≠ gb
  below : Below w.heap.size w wr
theorem T5S.put {w wr wx w3 : World} {ga gb m co c3 : Nat} {v0 v1 v0' v1' : Value} {la lb lo la' lb' : List S49} {bo a3 : Option Addr} {x : S49} (h : T5S w wr ga gb v0 v1 la lb bo m co lo) (hx : Ch (fun _ => False) wr wx)
    (hc : Ch (fun k => ∃ b, bo = some b ∧ b.block = k) wx w3) (ho : Own w3 w.heap.size 49 3 a3 (m + 1) c3 (encs3 lo ++ enc3 x)) (hn : a3 = bo ∧ c3 = co ∨ ∀ b, a3 = some b → wx.heap.size ≤ b.block)
    (ra : Rem wr ga v0' la') (rb : Rem wr gb v1' lb') : T5S w w3 ga gb v0' v1' la' lb' a3 (m + 1) c3 (lo ++ [x]) := by
  have s1 := hx.size
  have s2 := hc.size
  have n1 : ¬ ∃ b, bo = some b ∧ b.block = ga := fun ⟨b, hb, e⟩ => (h.no b hb).1 e
  have n2 : ¬ ∃ b, bo = some b ∧ b.block = gb := fun ⟨b, hb, e⟩ => (h.no b hb).2 e
  have la := h.ha
  have lb := h.hb
  refine ⟨(ra.ch hx id).ch hc n1, (rb.ch hx id).ch hc n2, ?_, ?_, h.ne, h.la, h.lb, by omega, by omega, ?_, ?_⟩
  · rw [encs3_app]; simpa [encs3] using ho
  · have := h.len; simp; omega
  · intro b hb
    rcases hn with ⟨rfl, _⟩ | hn
    · exact h.no b hb
    · have := hn b hb
      constructor <;> omega
  · have h1 := h.below.size
    exact Ch.below0 (Ch.app_own ((Ch.of_below h.below).f hx) (h.own.f hx) (Nat.le_refl _) hc)
theorem T5S.mono {w wr wx : World} {ga gb m co : Nat} {v0 v1 : Value} {la lb lo : List S49} {bo : Option Addr} (h : T5S w wr ga gb v0 v1 la lb bo m co lo) (hx : Ch (fun _ => False) wr wx) : T5S w wx ga gb v0 v1 la lb bo m co lo := by
  have s1 := hx.size
  have la := h.ha
  have lb := h.hb
  exact ⟨h.ra.ch hx id, h.rb.ch hx id, h.own.f hx, h.len, h.ne, h.la, h.lb, by omega, by omega, h.no, Ch.below0 ((Ch.of_below h.below).f hx)⟩
theorem T5S.set {w wr wx : World} {ga gb m co : Nat} {v0 v1 v0' v1' : Value} {la lb lo la' lb' : List S49} {bo : Option Addr} (h : T5S w wr ga gb v0 v1 la lb bo m co lo) (hx : Ch (fun k => k = ga ∨ k = gb) wr wx) (ra : Rem wx ga v0' la') (rb : Rem wx gb v1' lb') : T5S w wx ga gb v0' v1' la' lb' bo m co lo := by
  have s1 := hx.size
  have la := h.ha
  have lb := h.hb
  refine ⟨ra, rb, h.own.ch hx (fun b hb hk => ?_), h.len, h.ne, h.la, h.lb, by omega, by omega, h.no, Ch.below0 ((Ch.of_below h.below).far2 hx h.la h.lb)⟩
  have := h.no b hb
  rcases hk with hk | hk
  · exact this.1 hk
  · exact this.2 hk
def T5I (w : World) (a b : List Cm) (k : Nat) (v0 v1 v6 : Value) (wr : World) : Prop :=
  ∃ (ga gb : Nat) (la lb lo : List S49) (bo : Option Addr) (m co : Nat), v6 = .slice bo m co ∧ T5S w wr ga gb v0 v1 la lb bo m co lo ∧ T5M a b k la lb lo
theorem size5_any (p0 p1 : Int) (p2 : ByteArray) (s : Nat) (h : p1 + (p2.size : Int) = s) (hs : s ≤ 100000) (w : World) : Calls Try.prog 31 #[.agg #[.int .i64 p0, .int .i64 p1, .string p2]] w fun e w' => e = .returned (.int .i64 (s : Int)) ∧ Ch (fun _ => False) w w' := by
  refine (comitiaref5_size.calls p0 p1 p2 (s : Int) w (by
    unfold comitiaref5_size.f
    rw [h, w64 (by omega) (by omega)])).mono ?_
  rintro e w' ⟨rfl, hb⟩
  exact ⟨rfl, Ch.of_below hb⟩
theorem part5_any (x : S49) (n : Nat) (hx : (cm x).ok) (hc : csz (cm x) ≤ 100000) (hn : n ≤ csz (cm x)) (p q : S49) (hp : p = sc (fr n (cm x))) (hq : q = sc (bk n (cm x))) (w : World) :
    Calls Try.prog 32 #[.agg #[.int .i64 x.f0, .int .i64 x.f1, .string x.f2], .int .i64 (n : Int)] w fun e w' => e = .returned (.tuple #[.agg #[.int .i64 p.f0, .int .i64 p.f1, .string p.f2], .agg #[.int .i64 q.f0, .int .i64 q.f1, .string q.f2]]) ∧ Ch (fun _ => False) w w' := by
  refine (comitiaref5_part.calls x.f0 x.f1 x.f2 (n : Int) p.f0 p.f1 p.f2 q.f0 q.f1 q.f2 w ?_).mono ?_
  · subst hp hq
    have e0 : x = sc (cm x) := (sc_cm x).symm
    generalize cm x = c at *
    subst e0
    unfold comitiaref5_part.f
    rcases Cm.cases hx with ⟨m, hm, rfl⟩ | ⟨s, hs, rfl⟩ | ⟨m, hm, rfl⟩
    · simp only [csz] at hn hc
      rw [if_neg (by simp [sc])]
      simp at hn hc
      simp only [sc, fr, bk]
      rw [if_neg (by simp), if_neg (by simp), w64 (by omega) (by omega)]
    · simp only [csz, if_true] at hn hc
      have e1 : (⟨s.toArray⟩ : ByteArray) = str s := rfl
      rw [if_pos (by simp [sc])]
      simp only [sc, fr, bk, if_true, e1, str_size]
      rw [if_pos (by omega), if_pos (by omega), Int.toNat_natCast]
      have f1 : (str s).extract 0 n = ⟨(s.take n).toArray⟩ := by
        apply ByteArray.ext
        simp [str, ByteArray.data_extract, List.extract_toArray, List.extract_eq_take_drop]
      have f2 : (str s).extract n s.length = ⟨(s.drop n).toArray⟩ := by
        apply ByteArray.ext
        simp [str, ByteArray.data_extract, List.extract_toArray, List.extract_eq_take_drop]
        exact List.take_of_length_le (by simp)
      rw [f1, f2]
    · simp only [csz] at hn hc
      rw [if_neg (by simp [sc])]
      simp at hn hc
      simp only [sc, fr, bk]
      rw [if_neg (by simp), if_neg (by simp), w64 (by omega) (by omega)]
  · rintro e w' ⟨rfl, hb⟩
    exact ⟨rfl, Ch.of_below hb⟩
theorem f1f2 (x : S49) (hx : (cm x).ok) : x.f1 + (x.f2.size : Int) = csz (cm x) := by
  have e0 : x = sc (cm x) := (sc_cm x).symm
  generalize cm x = c at *
  subst e0
  rcases Cm.cases hx with ⟨m, hm, rfl⟩ | ⟨s, hs, rfl⟩ | ⟨m, hm, rfl⟩
  · simp [sc, csz, ByteArray.size]
  · simp [sc, csz, ByteArray.size]
  · simp [sc, csz, ByteArray.size]
theorem f1f2b (c : Cm) (hx : c.ok) (n : Nat) (hn : n ≤ csz c) : (sc (bk n c)).f1 + ((sc (bk n c)).f2.size : Int) = (csz c - n : Nat) := by
  rcases Cm.cases hx with ⟨m, hm, rfl⟩ | ⟨s, hs, rfl⟩ | ⟨m, hm, rfl⟩
  · simp [csz] at hn; simp [sc, bk, csz, ByteArray.size]; omega
  · simp [csz] at hn; simp [sc, bk, csz, ByteArray.size]
  · simp [csz] at hn; simp [sc, bk, csz, ByteArray.size]; omega
def Two5Post (w : World) (r1 : List S49) (r2 : Int) (e : Ending) (w' : World) : Prop := ∃ v0_ : Value, e = .returned (.tuple #[v0_, .int .i64 r2]) ∧ Kd.R k49 49 w' w.heap.size (fun _ => True) v0_ r1 ∧ Below w.heap.size w w'
attribute [local go_sem high] max_ints min_ints
set_option maxRecDepth 100000 in
set_option maxHeartbeats 4000000 in
theorem two5_any (A0 A1 : Option Addr) (c0 c1 : Nat) (l0 l1 : List (S49)) (w : World) (hr0 : Kd.C k49 w A0 l0.length l0) (hc0 : l0.length ≤ c0) (hr1 : Kd.C k49 w A1 l1.length l1) (hc1 : l1.length ≤ c1) (hg : good2 (cms l0) (cms l1) = true) (hs : inC (cms l1) = outC (cms l0)) :
    Calls Try.prog 15 #[.slice A0 l0.length c0, .slice A1 l1.length c1] w (Two5Post w (scs (nf (comp (at_ (cms l0)) (at_ (cms l1))))) 0) := by
  obtain ⟨hv0, hv1, hb⟩ := good2_iff.1 hg
  have hg0 : good (cms l0) = true := good_iff.2 ⟨hv0, by omega⟩
  have hg1 : good (cms l1) = true := good_iff.2 ⟨hv1, by omega⟩
  have t1 : ((inC (cms l1) : Int) != (outC (cms l0) : Int)) = false := bne_eq_false_iff_eq.2 (by rw [hs])
  have HIN := Go.Cx.hid (ref_in l1 hg1 (l1.length + 1) (by omega))
  have HOUT := Go.Cx.hid (ref_out l0 hg0 (l0.length + 1) (by omega))
  have HR0 := Go.Cx.hid hr0
  have HR1 := Go.Cx.hid hr1
  have HV0 := Go.Cx.hid hv0
  have HV1 := Go.Cx.hid hv1
  have HS := Go.Cx.hid hs
  have HBD := Go.Cx.hid hb
  have HC0 := Go.Cx.hid hc0
  have HC1 := Go.Cx.hid hc1
  have hl0 := good_len hg0
  have hl1 := good_len hg1
  clear hr0 hr1 hg hs hc0 hc1 hv0 hv1 hb hg0 hg1
  go_enter Try.func15, Try.ntmps15
  go_upto_region 4 with (first
    | (go_at_call 19; refine (comitiaref4_In.calls _ A1 c1 l1 _ _ HR1.out HC1.out HIN.out).mono ?_; rintro e w1 ⟨rfl, ⟨n1, rfl⟩⟩)
    | (go_at_call 13; refine (comitiaref4_Out.calls _ A0 c0 l0 _ _ (by exact HR0.out) HC0.out HOUT.out).mono ?_; rintro e w2 ⟨rfl, ⟨n2, rfl⟩⟩))
  have k1 : Hid (0 = 0) := Go.Cx.hid rfl
  have k2 : Hid (1 = 1) := Go.Cx.hid rfl
  have hm0 : 0 + l0.length ≤ maxLen := by unfold maxLen; omega
  have hm0' : (0 + l0.length) * 32 ≤ 140737488355328 := by omega
  have hm1 : 0 + l1.length ≤ maxLen := by unfold maxLen; omega
  have hm1' : (0 + l1.length) * 32 ≤ 140737488355328 := by omega
  go_upto_region 5 with (first
    | (have k1' := k1; clear k1 k1'; at_builtin; refine wpList_app rfl _ _ _ _ rfl w.heap.size 49 3 32 _ et_comp _ 0 0 [] rfl (own_made _ _ (Nat.le_refl _)) _ l0.length (encs3 l0) rfl (srcC (Kd.C_below HR0.out (((Ch.refl (fun _ => False) w).drewN _).alloc _).below0)) hm0 hm0' (by simp) ?_; intro aa ca w1 hO hS hC hN; have OA := Go.Cx.hid hO; have CA := Go.Cx.hid hC; clear hO hS hC hN)
    | (have k2' := k2; clear k2 k2'; at_builtin; refine wpList_app rfl _ _ _ _ rfl w1.heap.size 49 3 32 _ et_comp _ 0 0 [] rfl (own_made _ _ (Nat.le_refl _)) _ l1.length (encs3 l1) rfl (srcC (Kd.C_below HR1.out ((Ch.app_new1 (((Ch.refl (fun _ => False) w).drewN _).alloc _) CA.out (by simp)).alloc _).below0)) hm1 hm1' (by simp) ?_; intro ab cb w2 hO hS hC hN; have OB := Go.Cx.hid hO; have CB := Go.Cx.hid hC; clear hO hS hC hN))
  have C1 : Hid (Ch (fun _ => False) w w1) := Go.Cx.hid (Ch.app_new1 (((Ch.refl (fun _ => False) w).drewN _).alloc _) CA.out (by simp))
  have C2 : Hid (Ch (fun _ => False) w1 w2) := Go.Cx.hid (Ch.app_new CB.out)
  have S1 : w.heap.size < w1.heap.size := by have := CA.out.size; simp at this; omega
  have S2 : w1.heap.size < w2.heap.size := by have := CB.out.size; simp at this; omega
  have OA1 := OA.out
  have OB1 := OB.out
  rw [List.nil_append, Nat.zero_add] at OA1 OB1
  obtain ⟨ga, RA, la1, la2⟩ := rem_of_own rfl OA1 S1
  obtain ⟨gb, RB, lb1, lb2⟩ := rem_of_own rfl OB1 S2
  have HI : Hid (T5I w (cms l0) (cms l1) ((at_ (cms l0)).length + (at_ (cms l1)).length) (.slice aa l0.length ca) (.slice ab l1.length cb) (.slice none 0 0) w2) := Go.Cx.hid (by
    refine ⟨ga, gb, l0, l1, [], none, 0, 0, rfl, ⟨RA.ch C2.out id, RB, Own.nil _ _ _ _, rfl, by omega, la1, by omega, by omega, lb2, (fun _ h => by cases h), ?_⟩, ⟨HV0.out, HV1.out, Vl.nil, ?_, by simp [cms], rfl, ?_⟩⟩
    · exact (C1.out.f C2.out).below0
    · have := HS.out; unfold inC outC at this; omega
    · have := HBD.out
      have h1 := at_len (at_ (cms l0))
      have h2 := at_len (at_ (cms l1))
      unfold inC outC at this; simp; omega)
  clear RA RB OA1 OB1 OA OB CA CB C1 C2 S1 S2 la1 la2 lb1 lb2
  go_loopg [0, 1, 6] ((at_ (cms l0)).length + (at_ (cms l1)).length) (fun k v0 v1 v6 wr => Hid (T5I w (cms l0) (cms l1) k v0 v1 v6 wr))
  case atStart => exact HI
  case round =>
    obtain ⟨ga, gb, la, lb, lo, bo, m, co, rfl, hS, hM⟩ := hrel.out
    have LO := hM.len
    have LM := hS.len
    have hsz : m + 1 ≤ maxLen := by unfold maxLen; omega
    have hsz2 : (m + 1) * 32 ≤ 140737488355328 := by omega
    have HS5 := Go.Cx.hid hS
    have HM5 := Go.Cx.hid hM
    have BS := Go.Cx.hid hS.below.size
    by_cases hA : ∃ x la', la = x :: la' ∧ x.f0 = 3
-- [DEV
    · obtain ⟨x, la', rfl, hx⟩ := hA
      obtain ⟨o, c, rfl, hcc, x0, x1, x2, hfz, hrem, hset⟩ := hS.ra.cells
      have HST := Go.Cx.hid (CStep.cut (cm x) (cms la') (cms lb) hx)
      obtain ⟨f0, f1, f2⟩ := x
      simp only at hx x0 x1 x2
      subst hx
      obtain ⟨na, hna⟩ : ∃ na, na = la'.length := ⟨_, rfl⟩
      rw [← hna] at hcc hrem ⊢
      have HREM := Go.Cx.hid hrem
      have HO := Go.Cx.hid hS.own
      have hn1 : (0 : Int) < ((na + 1 : Nat) : Int) := by omega
      have hn2 : (1 : Int) ≤ ((na + 1 : Nat) : Int) := by omega
      have hcc2 : ((na + 1 : Nat) : Int) ≤ (c : Int) := by omega
      have HNA := Go.Cx.hid hna
      have HLM := Go.Cx.hid LM
      have HLO := Go.Cx.hid LO
      clear hrel hS hM hset hrem hna LM LO
      go_wp2_with (at_builtin; refine wpList_app rfl _ _ _ _ rfl w.heap.size 49 3 32 _ et_comp bo m co _ rfl (HO.out.f ((Ch.refl (fun _ => False) _).alloc _)) _ 1 _ rfl (src3 _ ⟨3, f1, f2⟩ _ rfl) hsz hsz2 (by have := BS.out; simp; omega) ?_; intro a3 c3 w3 hO hS hC hN; have HO3 := Go.Cx.hid hO; have HC3 := Go.Cx.hid hC; have HN3 := Go.Cx.hid hN; clear hO hS hC hN)
      all_goals (
        obtain ⟨k', hk', hM'⟩ := HM5.out.step (o := [⟨3, f1, f2⟩]) HST.out
        go_roundg k'
        case measure => exact hk'
        case rel => exact Go.Cx.hid ⟨ga, gb, _, _, _, a3, m + 1, c3, rfl, HS5.out.put ((Ch.refl _ _).alloc _) HC3.out HO3.out HN3.out (by first | exact HREM.out | exact rem_next HREM.out HNA.out hcc (by assumption)) HS5.out.rb, hM'⟩)
-- DEV]
    have hA1 : ∀ x la', la = x :: la' → x.f0 ≠ 3 := fun x la' e h => hA ⟨x, la', e, h⟩
    clear hA
    by_cases hB : ∃ y lb', lb = y :: lb' ∧ y.f0 = 2
-- [DEV
    · obtain ⟨y, lb', rfl, hy⟩ := hB
      obtain ⟨o, c, rfl, hcc, y0, y1, y2, hfz, hrem, hset⟩ := hS.rb.cells
      have HST := Go.Cx.hid (CStep.put (cms la) (cm y) (cms lb') hy (by
        intro d m e
        cases la with
        | nil => cases e
        | cons x la' => have := hA1 x la' rfl; simp only [cms, List.map_cons, List.cons.injEq] at e; rw [← e.1]; exact this))
      obtain ⟨f0, f1, f2⟩ := y
      simp only at hy y0 y1 y2
      subst hy
      obtain ⟨nb, hnb⟩ : ∃ nb, nb = lb'.length := ⟨_, rfl⟩
      rw [← hnb] at hcc hrem ⊢
      have HREM := Go.Cx.hid hrem
      have HO := Go.Cx.hid hS.own
      have hn1 : (0 : Int) < ((nb + 1 : Nat) : Int) := by omega
      have hn2 : (1 : Int) ≤ ((nb + 1 : Nat) : Int) := by omega
      have hcc2 : ((nb + 1 : Nat) : Int) ≤ (c : Int) := by omega
      have HNB := Go.Cx.hid hnb
      have HLM := Go.Cx.hid LM
      have HLO := Go.Cx.hid LO
      cases la with
      | nil =>
        obtain ⟨Aa, cca, rfl, _⟩ := hS.ra
        clear hrel hS hM hset hrem hnb LM LO hA1
        simp only [List.length_nil]
        go_wp2_with (at_builtin; refine wpList_app rfl _ _ _ _ rfl w.heap.size 49 3 32 _ et_comp bo m co _ rfl (HO.out.f ((Ch.refl (fun _ => False) _).alloc _)) _ 1 _ rfl (src3 _ ⟨2, f1, f2⟩ _ rfl) hsz hsz2 (by have := BS.out; simp; omega) ?_; intro a3 c3 w3 hO hS hC hN; have HO3 := Go.Cx.hid hO; have HC3 := Go.Cx.hid hC; have HN3 := Go.Cx.hid hN; clear hO hS hC hN)
        all_goals (
          obtain ⟨k', hk', hM'⟩ := HM5.out.step (o := [⟨2, f1, f2⟩]) HST.out
          go_roundg k'
          case measure => exact hk'
          case rel => exact Go.Cx.hid ⟨ga, gb, _, _, _, a3, m + 1, c3, rfl, HS5.out.put ((Ch.refl _ _).alloc _) HC3.out HO3.out HN3.out HS5.out.ra (by first | exact HREM.out | exact rem_next HREM.out HNB.out hcc (by assumption)), hM'⟩)
      | cons x la' =>
        have hx := hA1 x la' rfl
        obtain ⟨oa, ca', rfl, hca, x0, x1, x2, hfza, hrema, hseta⟩ := hS.ra.cells
        obtain ⟨p0, p1, p2⟩ := x
        simp only at hx x0 x1 x2
        have tx : (p0 == 3) = false := beq_eq_false_iff_ne.2 hx
        obtain ⟨na, hna⟩ : ∃ na, na = la'.length := ⟨_, rfl⟩
        rw [← hna] at hca ⊢
        have HNA := Go.Cx.hid hna
        have hm1 : (0 : Int) < ((na + 1 : Nat) : Int) := by omega
        clear hrel hS hM hset hrem hnb LM LO hA1 hrema hseta hna hx
        go_wp2_with (at_builtin; refine wpList_app rfl _ _ _ _ rfl w.heap.size 49 3 32 _ et_comp bo m co _ rfl (HO.out.f ((Ch.refl (fun _ => False) _).alloc _)) _ 1 _ rfl (src3 _ ⟨2, f1, f2⟩ _ rfl) hsz hsz2 (by have := BS.out; simp; omega) ?_; intro a3 c3 w3 hO hS hC hN; have HO3 := Go.Cx.hid hO; have HC3 := Go.Cx.hid hC; have HN3 := Go.Cx.hid hN; clear hO hS hC hN)
        all_goals (
          obtain ⟨k', hk', hM'⟩ := HM5.out.step (o := [⟨2, f1, f2⟩]) HST.out
          go_roundg k'
          case measure => exact hk'
          case rel => exact Go.Cx.hid ⟨ga, gb, _, _, _, a3, m + 1, c3, rfl, HS5.out.put ((Ch.refl _ _).alloc _) HC3.out HO3.out HN3.out (by rw [HNA.out]; exact HS5.out.ra) (by first | exact HREM.out | exact rem_next HREM.out HNB.out hcc (by assumption)), hM'⟩)
-- DEV]
    have hB1 : ∀ y lb', lb = y :: lb' → y.f0 ≠ 2 := fun y lb' e h => hB ⟨y, lb', e, h⟩
    clear hB
    by_cases hD : la = [] ∨ lb = []
-- [DEV
    · have hh := cstep_end hM.va hM.vb hM.fits (by
          intro d m e
          cases la with
          | nil => cases e
          | cons x la' => have := hA1 x la' rfl; simp only [cms, List.map_cons, List.cons.injEq] at e; rw [← e.1]; exact this) (by
          intro d m e
          cases lb with
          | nil => cases e
          | cons y lb' => have := hB1 y lb' rfl; simp only [cms, List.map_cons, List.cons.injEq] at e; rw [← e.1]; exact this) (by rcases hD with rfl | rfl; exact .inl rfl; exact .inr rfl)
      obtain rfl : la = [] := by cases la with
        | nil => rfl
        | cons x l => cases hh.1
      obtain rfl : lb = [] := by cases lb with
        | nil => rfl
        | cons x l => cases hh.2
      obtain ⟨Aa, caa, rfl, _⟩ := hS.ra
      obtain ⟨Ab, cbb, rfl, _⟩ := hS.rb
      have hsum : at_ (cms lo) = comp (at_ (cms l0)) (at_ (cms l1)) := by have := hM.sum; simpa [cms, comp] using this
      have hio : outs (at_ (cms l0)) = ins (at_ (cms l1)) := by have := HS.out; unfold inC outC at this; omega
      have hgo : good (cms lo) = true := good_iff.2 ⟨hM.vo, by
        have h1 := ins_comp _ _ hio
        have h2 := outs_comp _ _ hio
        have := HBD.out
        unfold inC outC at *; rw [hsum, h1, h2]; omega⟩
      have hnf := ref_normal lo hgo (2 * lo.length + 4) (Nat.le_refl _)
      rw [hsum] at hnf
      have hrd := (Kd.R_reads' (own3 LM hS.own)).2.2
      have HNF := Go.Cx.hid hnf
      have HRD := Go.Cx.hid hrd
      have HMC := Go.Cx.hid hS.own.sl.2.1
      have HLM := Go.Cx.hid LM
      clear hrel hM hA1 hB1 hD hh hsum hio hgo hnf hrd LO LM hS
      simp only [List.length_nil]
      go_wp2_with (go_at_call 18; rw [HLM.out]; refine (comitiaref4_Normal.calls _ bo co lo _ _ HRD.out (by rw [← HLM.out]; exact HMC.out) HNF.out).mono ?_; rintro e w5 ⟨v0, rfl, ho, hb⟩; have HV0 := Go.Cx.hid ho; have HB1 := Go.Cx.hid hb; clear ho hb)
      go_ret2
      exact ⟨v0, rfl, Kd.R_lower HV0.out BS.out, below_then HS5.out.below BS.out HB1.out⟩
-- DEV]
    have hA2 : ∃ x la', la = x :: la' := by cases la with
      | nil => exact absurd (.inl rfl) hD
      | cons x l => exact ⟨x, l, rfl⟩
    have hB2 : ∃ y lb', lb = y :: lb' := by cases lb with
      | nil => exact absurd (.inr rfl) hD
      | cons x l => exact ⟨x, l, rfl⟩
    clear hD
    obtain ⟨x, la', rfl⟩ := hA2
    obtain ⟨y, lb', rfl⟩ := hB2
    have hx3 := hA1 x la' rfl
    have hy2 := hB1 y lb' rfl
    have hokx : (cm x).ok := hM.va.head (c := cm x) (l := cms la')
    have hoky : (cm y).ok := hM.vb.head (c := cm y) (l := cms lb')
    have HST := Go.Cx.hid (CStep.both (cm x) (cms la') (cm y) (cms lb') hx3 hy2)
    obtain ⟨sx, hsx0⟩ : ∃ s, s = csz (cm x) := ⟨_, rfl⟩
    obtain ⟨sy, hsy0⟩ : ∃ s, s = csz (cm y) := ⟨_, rfl⟩
    have hle : sx + sy ≤ gk := by
      rw [hM.left, hsx0, hsy0, ← csz_at hokx, ← csz_at hoky]
      simp only [cms, List.map_cons, at_cons, List.length_append]; omega
    have hsx : sx ≤ 100000 := by omega
    have hsy : sy ≤ 100000 := by omega
    have hpx := csz_pos hokx
    have hpy := csz_pos hoky
    obtain ⟨n, hn⟩ : ∃ n, n = min sx sy := ⟨_, rfl⟩
    have hmin : min (sx : Int) (sy : Int) = (n : Int) := by omega
    have HX := Go.Cx.hid (by rw [f1f2 x hokx, hsx0] : x.f1 + (x.f2.size : Int) = (sx : Int))
    have HY := Go.Cx.hid (by rw [f1f2 y hoky, hsy0] : y.f1 + (y.f2.size : Int) = (sy : Int))
    obtain ⟨oa, ca', rfl, hca, x0, x1, x2, hfza, hrema, hseta⟩ := hS.ra.cells
    obtain ⟨ob, cb', rfl, hcb, y0, y1, y2, hfzb, hremb, hsetb⟩ := hS.rb.cells
    obtain ⟨p, hp⟩ : ∃ p, p = sc (fr n (cm x)) := ⟨_, rfl⟩
    obtain ⟨r, hr⟩ : ∃ r, r = sc (bk n (cm x)) := ⟨_, rfl⟩
    obtain ⟨q, hq⟩ : ∃ q, q = sc (fr n (cm y)) := ⟨_, rfl⟩
    obtain ⟨s, hs⟩ : ∃ s, s = sc (bk n (cm y)) := ⟨_, rfl⟩
    have HPX := fun w => part5_any x n hokx (by omega) (by omega) p r hp hr w
    have HPY := fun w => part5_any y n hoky (by omega) (by omega) q s hq hs w
    have HRX := Go.Cx.hid (by rw [hr, f1f2b _ hokx n (by omega), hsx0] : r.f1 + (r.f2.size : Int) = (sx - n : Nat))
    have HSY := Go.Cx.hid (by rw [hs, f1f2b _ hoky n (by omega), hsy0] : s.f1 + (s.f2.size : Int) = (sy - n : Nat))
    obtain ⟨x_0, x_1, x_2⟩ := x
    obtain ⟨y_0, y_1, y_2⟩ := y
    obtain ⟨p0, p1, p2⟩ := p
    obtain ⟨q0, q1, q2⟩ := q
    obtain ⟨r0, r1, r2⟩ := r
    obtain ⟨s0, s1, s2⟩ := s
    simp only at hx3 hy2 x0 x1 x2 y0 y1 y2 HX HY HPX HPY HRX HSY
    have tx : (x_0 == 3) = false := beq_eq_false_iff_ne.2 hx3
    have ty : (y_0 == 2) = false := beq_eq_false_iff_ne.2 hy2
    obtain ⟨na, hna⟩ : ∃ na, na = la'.length := ⟨_, rfl⟩
    obtain ⟨nb, hnb⟩ : ∃ nb, nb = lb'.length := ⟨_, rfl⟩
    rw [← hna] at hca ⊢
    rw [← hnb] at hcb ⊢
    have HNA := Go.Cx.hid hna
    have HNB := Go.Cx.hid hnb
    have hm1 : (0 : Int) < ((na + 1 : Nat) : Int) := by omega
    have hm2 : (0 : Int) < ((nb + 1 : Nat) : Int) := by omega
    have HP := Go.Cx.hid hp
    have HQ := Go.Cx.hid hq
    have HR := Go.Cx.hid hr
    have HSS := Go.Cx.hid hs
    have HN := Go.Cx.hid hn
    have HSX := Go.Cx.hid hsx0
    have HSYY := Go.Cx.hid hsy0
    have HPX1 := Go.Cx.hid HPX
    have HPY1 := Go.Cx.hid HPY
    have HSETA := Go.Cx.hid hseta
    have HSETB := Go.Cx.hid hsetb
    have HFZA := Go.Cx.hid hfza
    have HFZB := Go.Cx.hid hfzb
    have HOKX := Go.Cx.hid hokx
    have HOKY := Go.Cx.hid hoky
    have HLM := Go.Cx.hid LM
    have HLO := Go.Cx.hid LO
    clear hrel hS hM hrema hremb hseta hsetb hna hnb hx3 hy2 hA1 hB1 hp hq hr hs hn hsx0 hsy0 HPX HPY hokx hoky hpx hpy hle hfza hfzb LM LO
    go_upto_region 12 with fail
    refine start_ (n := 10) (S := fun w' => w'.cell? ⟨ga, oa, none⟩ = some (.int .i64 x_0) ∧ w'.cell? ⟨ga, oa + 1, none⟩ = some (.int .i64 x_1) ∧ w'.cell? ⟨ga, oa + 2, none⟩ = some (.string x_2) ∧ w'.cell? ⟨gb, ob, none⟩ = some (.int .i64 y_0) ∧ w'.cell? ⟨gb, ob + 1, none⟩ = some (.int .i64 y_1) ∧ w'.cell? ⟨gb, ob + 2, none⟩ = some (.string y_2)) (ds := []) #[false, false, false, false, false, false, false, false, false, false] (by kernel_rfl) rfl rfl ⟨x0, x1, x2, y0, y1, y2⟩ (fun hHeld => ?_)
    refine pure_ (i := 0) (N := some 67) (v := ?_) (a' := ?_) #[true, false, false, false, false, false, false, false, false, false] rfl rfl (by kernel_rfl) (fun _ _ _ h => h) (Or.inl ⟨by rfl, ?_⟩) ?_ ?_
    rotate_left
    · intro w'
      go_simp
      with_reducible rfl
    rotate_left
    · simp only [Act.put, List.setIfInBounds_toArray, List.set_cons_zero, List.set_cons_succ, i64_w, i32_w]
      rfl
    refine pure_ (i := 1) (N := some 68) (v := ?_) (a' := ?_) #[true, true, false, false, false, false, false, false, false, false] rfl rfl (by kernel_rfl) (fun _ _ _ h => h) (Or.inl ⟨by rfl, ?_⟩) ?_ ?_
    rotate_left
    · intro w'
      go_simp
      with_reducible rfl
    rotate_left
    · simp only [Act.put, List.setIfInBounds_toArray, List.set_cons_zero, List.set_cons_succ, i64_w, i32_w]
      rfl
    refine pure_ (i := 4) (N := some 71) (v := ?_) (a' := ?_) #[true, true, false, false, true, false, false, false, false, false] rfl rfl (by kernel_rfl) (fun _ _ _ h => h) (Or.inl ⟨by rfl, ?_⟩) ?_ ?_
    rotate_left
    · intro w'
      go_simp
      with_reducible rfl
    rotate_left
    · simp only [Act.put, List.setIfInBounds_toArray, List.set_cons_zero, List.set_cons_succ, i64_w, i32_w]
      rfl
    refine pure_ (i := 5) (N := some 72) (v := ?_) (a' := ?_) #[true, true, false, false, true, true, false, false, false, false] rfl rfl (by kernel_rfl) (fun _ _ _ h => h) (Or.inl ⟨by rfl, ?_⟩) ?_ ?_
    rotate_left
    · intro w'
      go_simp
      with_reducible rfl
    rotate_left
    · simp only [Act.put, List.setIfInBounds_toArray, List.set_cons_zero, List.set_cons_succ, i64_w, i32_w]
      rfl
    refine take_ (i := 2) (N := some 69) (v := ?_) (a' := ?_) #[true, true, true, false, true, true, false, false, false, false] rfl rfl (by kernel_rfl) (fun _ _ _ h => h) (Or.inl ⟨by rfl, ?_⟩) hHeld ?_ ?_
    rotate_left
    · rintro w' ⟨s0, s1, s2, s3, s4, s5⟩
      go_simp
      with_reducible rfl
    rotate_left
    · simp only [Act.put, List.setIfInBounds_toArray, List.set_cons_zero, List.set_cons_succ, i64_w, i32_w]
      rfl
    refine take_ (i := 6) (N := some 73) (v := ?_) (a' := ?_) #[true, true, true, false, true, true, true, false, false, false] rfl rfl (by kernel_rfl) (fun _ _ _ h => h) (Or.inl ⟨by rfl, ?_⟩) hHeld ?_ ?_
    rotate_left
    · rintro w' ⟨s0, s1, s2, s3, s4, s5⟩
      go_simp
      with_reducible rfl
    rotate_left
    · simp only [Act.put, List.setIfInBounds_toArray, List.set_cons_zero, List.set_cons_succ, i64_w, i32_w]
      rfl
    refine one_ (i := 3) (N := some 70) #[true, true, true, true, true, true, true, false, false, false] rfl rfl (by kernel_rfl) (by decide) (fun K hK => ?_)
    refine goes_ Try.func31 (by kernel_rfl) rfl #[.agg #[.int .i64 x_0, .int .i64 x_1, .string x_2]] (by rfl) rfl rfl (by simp only [List.map_toArray, List.map_cons, List.map_nil]; rfl) ?_
    with_reducible refine (size5_any x_0 x_1 x_2 sx HX.out hsx _).mono ?_
    rintro e w4 ⟨rfl, hb⟩
    refine ⟨_, rfl, ?_⟩
    have D1 := Go.Cx.hid hb
    refine hK.out _ _ ⟨(hb.cell hHeld.1 id), (hb.cell hHeld.2.1 id), (hb.cell hHeld.2.2.1 id), (hb.cell hHeld.2.2.2.1 id), (hb.cell hHeld.2.2.2.2.1 id), (hb.cell hHeld.2.2.2.2.2 id)⟩ (fun hHeld => ?_)
    clear hK K
    refine norm_ (a' := ?_) ?_ ?_
    rotate_left
    · show Act.put _ (some 70) _ = _
      simp only [Act.put, List.setIfInBounds_toArray, List.set_cons_zero, List.set_cons_succ, i64_w, i32_w]
      rfl
    refine one_ (i := 7) (N := some 74) #[true, true, true, true, true, true, true, true, false, false] rfl rfl (by kernel_rfl) (by decide) (fun K hK => ?_)
    refine goes_ Try.func31 (by kernel_rfl) rfl #[.agg #[.int .i64 y_0, .int .i64 y_1, .string y_2]] (by rfl) rfl rfl (by simp only [List.map_toArray, List.map_cons, List.map_nil]; rfl) ?_
    with_reducible refine (size5_any y_0 y_1 y_2 sy HY.out hsy _).mono ?_
    rintro e w5 ⟨rfl, hb⟩
    refine ⟨_, rfl, ?_⟩
    have D2 := Go.Cx.hid hb
    refine hK.out _ _ ⟨(hb.cell hHeld.1 id), (hb.cell hHeld.2.1 id), (hb.cell hHeld.2.2.1 id), (hb.cell hHeld.2.2.2.1 id), (hb.cell hHeld.2.2.2.2.1 id), (hb.cell hHeld.2.2.2.2.2 id)⟩ (fun hHeld => ?_)
    clear hK K
    refine norm_ (a' := ?_) ?_ ?_
    rotate_left
    · show Act.put _ (some 74) _ = _
      simp only [Act.put, List.setIfInBounds_toArray, List.set_cons_zero, List.set_cons_succ, i64_w, i32_w]
      rfl
    refine pure_ (i := 8) (N := some 75) (v := ?_) (a' := ?_) #[true, true, true, true, true, true, true, true, true, false] rfl rfl (by kernel_rfl) (fun _ _ _ h => h) (Or.inl ⟨by rfl, ?_⟩) ?_ ?_
    rotate_left
    · intro w'
      go_simp
      with_reducible rfl
    rotate_left
    · simp only [Act.put, List.setIfInBounds_toArray, List.set_cons_zero, List.set_cons_succ, i64_w, i32_w]
      rfl
    refine pure_ (i := 9) (N := some 7) (v := ?_) (a' := ?_) #[true, true, true, true, true, true, true, true, true, true] rfl rfl (by kernel_rfl) (fun _ _ _ h => h) (Or.inl ⟨by rfl, ?_⟩) ?_ ?_
    rotate_left
    · intro w'
      go_simp
      with_reducible rfl
    rotate_left
    · simp only [Act.put, List.setIfInBounds_toArray, List.set_cons_zero, List.set_cons_succ, i64_w, i32_w]
      rfl
    refine done_ (by kernel_rfl) ?_
    
    clear hHeld
    have E5 := Go.Cx.hid (((Ch.refl (fun _ => False) wr).drew.f D1.out).f D2.out)
    have y0r := y0
    have y1r := y1
    have y2r := y2
    have x0 := E5.out.cell x0 id
    have x1 := E5.out.cell x1 id
    have x2 := E5.out.cell x2 id
    have E := E5
    clear E5 D1 D2
    go_upto_region 15 with (first
      | (go_at_call 32; refine (HPX1.out _).mono ?_; clear HPX1; rintro e w6 ⟨rfl, hb⟩; have E_ := Go.Cx.hid ((E.out).f hb); clear hb E; have E := E_; clear E_)
      | ((with_reducible refine gate_dst (N := 8) rfl ?_); refine box_event ?hg (N := 8) ?hd (cs := #[.int .i64 0, .int .i64 0, .string ⟨#[]⟩]) (t := 49) ?hr ?_; (case hd => rfl); (case hg => rfl); (case hr => first | (go_simp; done) | (go_simp; rfl)); intro g8 hgq w7 hbox hb; have hb := Ch.of_below hb; have E_ := Go.Cx.hid (E.out.f hb); have GEg8 : wr.heap.size ≤ g8 := (by rw [hgq]; exact E.out.size); have Bg8 := Go.Cx.hid hbox; clear hb hbox hgq E; have E := E_; clear E_)
      | ((with_reducible refine gate_dst (N := 9) rfl ?_); refine box_event ?hg (N := 9) ?hd (cs := #[.int .i64 0, .int .i64 0, .string ⟨#[]⟩]) (t := 49) ?hr ?_; (case hd => rfl); (case hg => rfl); (case hr => first | (go_simp; done) | (go_simp; rfl)); intro g9 hgq w8 hbox hb; have hb := Ch.of_below hb; have E_ := Go.Cx.hid (E.out.f hb); have GEg9 : wr.heap.size ≤ g9 := (by rw [hgq]; exact E.out.size); have NEg8_g9 : g8 ≠ g9 := (by have := lt_of_block Bg8.out; omega); have NEg9_g8 := NEg8_g9.symm; have B_g8 := Go.Cx.hid (hb.heap Bg8.out id); have Bg9 := Go.Cx.hid hbox; clear hb hbox hgq E; have E := E_; clear E_; clear Bg8; have Bg8 := B_g8; clear B_g8; have y0 := E.out.cell y0r id; have y1 := E.out.cell y1r id; have y2 := E.out.cell y2r id; have zg80 : w8.cell? ⟨g8, 0, none⟩ = some (.int .i64 0) := (blk_cell Bg8.out 0).trans rfl; have zg81 : w8.cell? ⟨g8, 1, none⟩ = some (.int .i64 0) := (blk_cell Bg8.out 1).trans rfl; have zg82 : w8.cell? ⟨g8, 2, none⟩ = some (.string ⟨#[]⟩) := (blk_cell Bg8.out 2).trans rfl; have zfg8 := blk_frozen Bg8.out; have zg90 : w8.cell? ⟨g9, 0, none⟩ = some (.int .i64 0) := (blk_cell Bg9.out 0).trans rfl; have zg91 : w8.cell? ⟨g9, 1, none⟩ = some (.int .i64 0) := (blk_cell Bg9.out 1).trans rfl; have zg92 : w8.cell? ⟨g9, 2, none⟩ = some (.string ⟨#[]⟩) := (blk_cell Bg9.out 2).trans rfl; have zfg9 := blk_frozen Bg9.out; have hga := HS5.out.ha; have hgb := HS5.out.hb; have NB8 : gb ≠ g8 := (by omega); have NB9 : gb ≠ g9 := (by omega); have NA8 : ga ≠ g8 := (by omega); have NA9 : ga ≠ g9 := (by omega); clear hga hgb)
      | (go_at_call 32; refine (HPY1.out _).mono ?_; clear HPY1; rintro e w11 ⟨rfl, hb⟩; have E_ := Go.Cx.hid ((((((((E.out).set).set).set).set).set).set).f hb); have B_g8 := Go.Cx.hid (hb.heap (blk_far (blk_far (blk_far (blk_put (blk_put (blk_put Bg8.out 0 _ rfl) 1 _ rfl) 2 _ rfl) NEg8_g9 _) NEg8_g9 _) NEg8_g9 _) id); have B_g9 := Go.Cx.hid (hb.heap (blk_put (blk_put (blk_put (blk_far (blk_far (blk_far (Bg9.out) NEg9_g8 _) NEg9_g8 _) NEg9_g8 _) 0 _ rfl) 1 _ rfl) 2 _ rfl) id); clear hb E; have E := E_; clear E_; clear Bg8; have Bg8 := B_g8; clear B_g8; clear Bg9; have Bg9 := B_g9; clear B_g9; clear zg80 zg81 zg82 zfg8 zg90 zg91 zg92 zfg9)
      | ((with_reducible refine gate_dst (N := 10) rfl ?_); refine box_event ?hg (N := 10) ?hd (cs := #[.int .i64 0, .int .i64 0, .string ⟨#[]⟩]) (t := 49) ?hr ?_; (case hd => rfl); (case hg => rfl); (case hr => first | (go_simp; done) | (go_simp; rfl)); intro g10 hgq w12 hbox hb; have hb := Ch.of_below hb; have E_ := Go.Cx.hid (E.out.f hb); have GEg10 : wr.heap.size ≤ g10 := (by rw [hgq]; exact E.out.size); have NEg8_g10 : g8 ≠ g10 := (by have := lt_of_block Bg8.out; omega); have NEg10_g8 := NEg8_g10.symm; have B_g8 := Go.Cx.hid (hb.heap Bg8.out id); have NEg9_g10 : g9 ≠ g10 := (by have := lt_of_block Bg9.out; omega); have NEg10_g9 := NEg9_g10.symm; have B_g9 := Go.Cx.hid (hb.heap Bg9.out id); have Bg10 := Go.Cx.hid hbox; clear hb hbox hgq E; have E := E_; clear E_; clear Bg8; have Bg8 := B_g8; clear B_g8; clear Bg9; have Bg9 := B_g9; clear B_g9)
      | ((with_reducible refine gate_dst (N := 11) rfl ?_); refine box_event ?hg (N := 11) ?hd (cs := #[.int .i64 0, .int .i64 0, .string ⟨#[]⟩]) (t := 49) ?hr ?_; (case hd => rfl); (case hg => rfl); (case hr => first | (go_simp; done) | (go_simp; rfl)); intro g11 hgq w13 hbox hb; have hb := Ch.of_below hb; have E_ := Go.Cx.hid (E.out.f hb); have GEg11 : wr.heap.size ≤ g11 := (by rw [hgq]; exact E.out.size); have NEg8_g11 : g8 ≠ g11 := (by have := lt_of_block Bg8.out; omega); have NEg11_g8 := NEg8_g11.symm; have B_g8 := Go.Cx.hid (hb.heap Bg8.out id); have NEg9_g11 : g9 ≠ g11 := (by have := lt_of_block Bg9.out; omega); have NEg11_g9 := NEg9_g11.symm; have B_g9 := Go.Cx.hid (hb.heap Bg9.out id); have NEg10_g11 : g10 ≠ g11 := (by have := lt_of_block Bg10.out; omega); have NEg11_g10 := NEg10_g11.symm; have B_g10 := Go.Cx.hid (hb.heap Bg10.out id); have Bg11 := Go.Cx.hid hbox; clear hb hbox hgq E; have E := E_; clear E_; clear Bg8; have Bg8 := B_g8; clear B_g8; clear Bg9; have Bg9 := B_g9; clear B_g9; clear Bg10; have Bg10 := B_g10; clear B_g10; have zg100 : w13.cell? ⟨g10, 0, none⟩ = some (.int .i64 0) := (blk_cell Bg10.out 0).trans rfl; have zg101 : w13.cell? ⟨g10, 1, none⟩ = some (.int .i64 0) := (blk_cell Bg10.out 1).trans rfl; have zg102 : w13.cell? ⟨g10, 2, none⟩ = some (.string ⟨#[]⟩) := (blk_cell Bg10.out 2).trans rfl; have zfg10 := blk_frozen Bg10.out; have zg110 : w13.cell? ⟨g11, 0, none⟩ = some (.int .i64 0) := (blk_cell Bg11.out 0).trans rfl; have zg111 : w13.cell? ⟨g11, 1, none⟩ = some (.int .i64 0) := (blk_cell Bg11.out 1).trans rfl; have zg112 : w13.cell? ⟨g11, 2, none⟩ = some (.string ⟨#[]⟩) := (blk_cell Bg11.out 2).trans rfl; have zfg11 := blk_frozen Bg11.out))
    have E15 : Hid (Ch (fun _ => False) wr ((((((w13.setCell ⟨g10, 0, none⟩ (.int .i64 q0)).setCell ⟨g10, 1, none⟩ (.int .i64 q1)).setCell ⟨g10, 2, none⟩ (.string q2)).setCell ⟨g11, 0, none⟩ (.int .i64 s0)).setCell ⟨g11, 1, none⟩ (.int .i64 s1)).setCell ⟨g11, 2, none⟩ (.string s2))) := Go.Cx.hid (((((((E.out).set).set).set).set).set).set)
    have B8 : Hid (((((((w13.setCell ⟨g10, 0, none⟩ (.int .i64 q0)).setCell ⟨g10, 1, none⟩ (.int .i64 q1)).setCell ⟨g10, 2, none⟩ (.string q2)).setCell ⟨g11, 0, none⟩ (.int .i64 s0)).setCell ⟨g11, 1, none⟩ (.int .i64 s1)).setCell ⟨g11, 2, none⟩ (.string s2)).heap[g8]? = some (.cells #[.int .i64 p0, .int .i64 p1, .string p2] 49 (0, 0))) := Go.Cx.hid (blk_far (blk_far (blk_far (blk_far (blk_far (blk_far (Bg8.out) NEg8_g10 _) NEg8_g10 _) NEg8_g10 _) NEg8_g11 _) NEg8_g11 _) NEg8_g11 _)
    have B9 : Hid (((((((w13.setCell ⟨g10, 0, none⟩ (.int .i64 q0)).setCell ⟨g10, 1, none⟩ (.int .i64 q1)).setCell ⟨g10, 2, none⟩ (.string q2)).setCell ⟨g11, 0, none⟩ (.int .i64 s0)).setCell ⟨g11, 1, none⟩ (.int .i64 s1)).setCell ⟨g11, 2, none⟩ (.string s2)).heap[g9]? = some (.cells #[.int .i64 r0, .int .i64 r1, .string r2] 49 (0, 0))) := Go.Cx.hid (blk_far (blk_far (blk_far (blk_far (blk_far (blk_far (Bg9.out) NEg9_g10 _) NEg9_g10 _) NEg9_g10 _) NEg9_g11 _) NEg9_g11 _) NEg9_g11 _)
    have B10 : Hid (((((((w13.setCell ⟨g10, 0, none⟩ (.int .i64 q0)).setCell ⟨g10, 1, none⟩ (.int .i64 q1)).setCell ⟨g10, 2, none⟩ (.string q2)).setCell ⟨g11, 0, none⟩ (.int .i64 s0)).setCell ⟨g11, 1, none⟩ (.int .i64 s1)).setCell ⟨g11, 2, none⟩ (.string s2)).heap[g10]? = some (.cells #[.int .i64 q0, .int .i64 q1, .string q2] 49 (0, 0))) := Go.Cx.hid (blk_far (blk_far (blk_far (blk_put (blk_put (blk_put Bg10.out 0 _ rfl) 1 _ rfl) 2 _ rfl) NEg10_g11 _) NEg10_g11 _) NEg10_g11 _)
    have B11 : Hid (((((((w13.setCell ⟨g10, 0, none⟩ (.int .i64 q0)).setCell ⟨g10, 1, none⟩ (.int .i64 q1)).setCell ⟨g10, 2, none⟩ (.string q2)).setCell ⟨g11, 0, none⟩ (.int .i64 s0)).setCell ⟨g11, 1, none⟩ (.int .i64 s1)).setCell ⟨g11, 2, none⟩ (.string s2)).heap[g11]? = some (.cells #[.int .i64 s0, .int .i64 s1, .string s2] 49 (0, 0))) := Go.Cx.hid (blk_put (blk_put (blk_put (blk_far (blk_far (blk_far (Bg11.out) NEg11_g10 _) NEg11_g10 _) NEg11_g10 _) 0 _ rfl) 1 _ rfl) 2 _ rfl)
    generalize ((((((w13.setCell ⟨g10, 0, none⟩ (.int .i64 q0)).setCell ⟨g10, 1, none⟩ (.int .i64 q1)).setCell ⟨g10, 2, none⟩ (.string q2)).setCell ⟨g11, 0, none⟩ (.int .i64 s0)).setCell ⟨g11, 1, none⟩ (.int .i64 s1)).setCell ⟨g11, 2, none⟩ (.string s2)) = w15 at E15 B8 B9 B10 B11 ⊢
    clear Bg8 Bg9 Bg10 Bg11 E x0 x1 x2 y0 y1 y2 y0r y1r y2r zg100 zg101 zg102 zfg10 zg110 zg111 zg112 zfg11
    have p0c : w15.cell? ⟨g8, 0, none⟩ = some (.int .i64 p0) := (blk_cell B8.out 0).trans rfl
    have p1c : w15.cell? ⟨g8, 1, none⟩ = some (.int .i64 p1) := (blk_cell B8.out 1).trans rfl
    have p2c : w15.cell? ⟨g8, 2, none⟩ = some (.string p2) := (blk_cell B8.out 2).trans rfl
    have q0c : w15.cell? ⟨g10, 0, none⟩ = some (.int .i64 q0) := (blk_cell B10.out 0).trans rfl
    have q1c : w15.cell? ⟨g10, 1, none⟩ = some (.int .i64 q1) := (blk_cell B10.out 1).trans rfl
    have q2c : w15.cell? ⟨g10, 2, none⟩ = some (.string q2) := (blk_cell B10.out 2).trans rfl
    have HO15 := Go.Cx.hid (HS5.out.own.f E15.out)
    have S15 := Go.Cx.hid (HS5.out.mono E15.out)
    have SZ15 := Go.Cx.hid E15.out.size
    have HNO9 : Hid (∀ b : Addr, bo = some b → b.block ≠ g9 ∧ b.block ≠ g11) := Go.Cx.hid (fun b hb => by have := (HS5.out.own.block b hb).2; omega)
    have NG9 : ga ≠ g9 := by have := HS5.out.ha; omega
    have NG11 : ga ≠ g11 := by have := HS5.out.ha; omega
    have NH9 : gb ≠ g9 := by have := HS5.out.hb; omega
    have NH11 : gb ≠ g11 := by have := HS5.out.hb; omega
    have hgab : ga ≠ gb := HS5.out.ne
    have hgba : gb ≠ ga := hgab.symm
    by_cases hq1 : q0 = 1
    · have tq : (q0 == 1) = true := beq_iff_eq.2 hq1
      go_upto_region 19 with (at_builtin; refine wpList_app rfl _ _ _ _ rfl w.heap.size 49 3 32 _ et_comp bo m co _ rfl (HO15.out.f ((Ch.refl (fun _ => False) _).alloc _)) _ 1 _ rfl (src3 _ ⟨p0, p1, p2⟩ _ rfl) hsz hsz2 (by have := BS.out; have := SZ15.out; simp; omega) ?_; intro a3 c3 w3 hO hS hC hN; have HO3 := Go.Cx.hid hO; have HC3 := Go.Cx.hid hC; have HN3 := Go.Cx.hid hN; clear hO hS hC hN)
      have S19 := Go.Cx.hid (HS5.out.put (E15.out.alloc _) HC3.out HO3.out HN3.out HS5.out.ra HS5.out.rb)
      have B9t := Go.Cx.hid (HC3.out.heap (blk_alloc B9.out _) (fun ⟨b, hb, e⟩ => (HNO9.out b hb).1 e))
      have B11t := Go.Cx.hid (HC3.out.heap (blk_alloc B11.out _) (fun ⟨b, hb, e⟩ => (HNO9.out b hb).2 e))
      clear HO3 HC3 HN3 HO15 S15 p0c p1c p2c q0c q1c q2c B8 B9 B10 B11
      obtain ⟨oa2, ca2, ea, _, x0, x1, x2, hfza, _, hseta⟩ := S19.out.ra.cells
      obtain ⟨ob2, cb2, eb, _, y0, y1, y2, hfzb, _, hsetb⟩ := S19.out.rb.cells
      simp only [Value.slice.injEq, Option.some.injEq, Addr.mk.injEq, true_and, and_true] at ea eb
      obtain ⟨rfl, rfl⟩ := ea
      obtain ⟨rfl, rfl⟩ := eb
      have HSA := Go.Cx.hid hseta
      have HSB := Go.Cx.hid hsetb
      clear hseta hsetb
      simp only at x0 x1 x2 y0 y1 y2
      have r0c : w3.cell? ⟨g9, 0, none⟩ = some (.int .i64 r0) := (blk_cell B9t.out 0).trans rfl
      have r1c : w3.cell? ⟨g9, 1, none⟩ = some (.int .i64 r1) := (blk_cell B9t.out 1).trans rfl
      have r2c : w3.cell? ⟨g9, 2, none⟩ = some (.string r2) := (blk_cell B9t.out 2).trans rfl
      have s0c : w3.cell? ⟨g11, 0, none⟩ = some (.int .i64 s0) := (blk_cell B11t.out 0).trans rfl
      have s1c : w3.cell? ⟨g11, 1, none⟩ = some (.int .i64 s1) := (blk_cell B11t.out 1).trans rfl
      have s2c : w3.cell? ⟨g11, 2, none⟩ = some (.string s2) := (blk_cell B11t.out 2).trans rfl
      refine start_ (n := 8) (S := fun w' => w'.cell? ⟨g9, 0, none⟩ = some (.int .i64 r0) ∧ w'.cell? ⟨g9, 1, none⟩ = some (.int .i64 r1) ∧ w'.cell? ⟨g9, 2, none⟩ = some (.string r2) ∧ w'.cell? ⟨g11, 0, none⟩ = some (.int .i64 s0) ∧ w'.cell? ⟨g11, 1, none⟩ = some (.int .i64 s1) ∧ w'.cell? ⟨g11, 2, none⟩ = some (.string s2)) (ds := [7]) #[false, false, false, false, false, false, false, false] (by kernel_rfl) rfl rfl ⟨r0c, r1c, r2c, s0c, s1c, s2c⟩ (fun hHeld => ?_)
      refine pure_ (i := 0) (N := some 108) (v := ?_) (a' := ?_) #[true, false, false, false, false, false, false, false] rfl rfl (by kernel_rfl) (fun _ _ _ h => h) (Or.inl ⟨by rfl, ?_⟩) ?_ ?_
      rotate_left
      · intro w'
        go_simp
        with_reducible rfl
      rotate_left
      · simp only [Act.put, List.setIfInBounds_toArray, List.set_cons_zero, List.set_cons_succ, i64_w, i32_w]
        rfl
      refine pure_ (i := 1) (N := some 109) (v := ?_) (a' := ?_) #[true, true, false, false, false, false, false, false] rfl rfl (by kernel_rfl) (fun _ _ _ h => h) (Or.inl ⟨by rfl, ?_⟩) ?_ ?_
      rotate_left
      · intro w'
        go_simp
        with_reducible rfl
      rotate_left
      · simp only [Act.put, List.setIfInBounds_toArray, List.set_cons_zero, List.set_cons_succ, i64_w, i32_w]
        rfl
      refine take_ (i := 2) (N := some 110) (v := ?_) (a' := ?_) #[true, true, true, false, false, false, false, false] rfl rfl (by kernel_rfl) (fun _ _ _ h => h) (Or.inl ⟨by rfl, ?_⟩) hHeld ?_ ?_
      rotate_left
      · rintro w' ⟨s0, s1, s2, s3, s4, s5⟩
        go_simp
        with_reducible rfl
      rotate_left
      · simp only [Act.put, List.setIfInBounds_toArray, List.set_cons_zero, List.set_cons_succ, i64_w, i32_w]
        rfl
      refine pure_ (i := 4) (N := some 112) (v := ?_) (a' := ?_) #[true, true, true, false, true, false, false, false] rfl rfl (by kernel_rfl) (fun _ _ _ h => h) (Or.inl ⟨by rfl, ?_⟩) ?_ ?_
      rotate_left
      · intro w'
        go_simp
        with_reducible rfl
      rotate_left
      · simp only [Act.put, List.setIfInBounds_toArray, List.set_cons_zero, List.set_cons_succ, i64_w, i32_w]
        rfl
      refine take_ (i := 3) (N := some 111) (v := ?_) (a' := ?_) #[true, true, true, true, true, false, false, false] rfl rfl (by kernel_rfl) (fun _ _ _ h => h) (Or.inl ⟨by rfl, ?_⟩) hHeld ?_ ?_
      rotate_left
      · rintro w' ⟨s0, s1, s2, s3, s4, s5⟩
        go_simp
        with_reducible rfl
      rotate_left
      · simp only [Act.put, List.setIfInBounds_toArray, List.set_cons_zero, List.set_cons_succ, i64_w, i32_w]
        rfl
      refine one_ (i := 5) (N := none) #[true, true, true, true, true, true, false, false] rfl rfl (by kernel_rfl) (by decide) (fun K hK => ?_)
      refine skip_ (w1 := ?_) (by rfl) rfl ?_ ?_
      rotate_left
      · go_simp
        rfl
      refine hK.out _ _ ⟨((cell_far (p := ⟨ga, _, none⟩) NG9.symm _).trans ((cell_far (p := ⟨ga, _, none⟩) NG9.symm _).trans ((cell_far (p := ⟨ga, _, none⟩) NG9.symm _).trans (hHeld.1)))), ((cell_far (p := ⟨ga, _, none⟩) NG9.symm _).trans ((cell_far (p := ⟨ga, _, none⟩) NG9.symm _).trans ((cell_far (p := ⟨ga, _, none⟩) NG9.symm _).trans (hHeld.2.1)))), ((cell_far (p := ⟨ga, _, none⟩) NG9.symm _).trans ((cell_far (p := ⟨ga, _, none⟩) NG9.symm _).trans ((cell_far (p := ⟨ga, _, none⟩) NG9.symm _).trans (hHeld.2.2.1)))), ((cell_far (p := ⟨ga, _, none⟩) NG11.symm _).trans ((cell_far (p := ⟨ga, _, none⟩) NG11.symm _).trans ((cell_far (p := ⟨ga, _, none⟩) NG11.symm _).trans (hHeld.2.2.2.1)))), ((cell_far (p := ⟨ga, _, none⟩) NG11.symm _).trans ((cell_far (p := ⟨ga, _, none⟩) NG11.symm _).trans ((cell_far (p := ⟨ga, _, none⟩) NG11.symm _).trans (hHeld.2.2.2.2.1)))), ((cell_far (p := ⟨ga, _, none⟩) NG11.symm _).trans ((cell_far (p := ⟨ga, _, none⟩) NG11.symm _).trans ((cell_far (p := ⟨ga, _, none⟩) NG11.symm _).trans (hHeld.2.2.2.2.2))))⟩ (fun hHeld => ?_)
      clear hK K
      refine pure_ (i := 6) (N := some 113) (v := ?_) (a' := ?_) #[true, true, true, true, true, true, true, false] rfl rfl (by kernel_rfl) (fun _ _ _ h => h) (Or.inl ⟨by rfl, ?_⟩) ?_ ?_
      rotate_left
      · intro w'
        go_simp
        with_reducible rfl
      rotate_left
      · simp only [Act.put, List.setIfInBounds_toArray, List.set_cons_zero, List.set_cons_succ, i64_w, i32_w]
        rfl
      refine last_ (i := 7) (N := none) #[true, true, true, true, true, true, true, true] rfl rfl (by kernel_rfl) (by decide) (fun K hK => ?_)
      refine skip_ (w1 := ?_) (by rfl) rfl ?_ ?_
      rotate_left
      · go_simp
        rfl
      refine hK.out _ _ ?_
      clear hK K
      refine done_ (by kernel_rfl) ?_
      
      have RA : Rem (((((((w3.setCell ⟨ga, oa, none⟩ (.int .i64 r0)).setCell ⟨ga, oa + 1, none⟩ (.int .i64 r1)).setCell ⟨ga, oa + 2, none⟩ (.string r2)).setCell ⟨gb, ob, none⟩ (.int .i64 s0)).setCell ⟨gb, ob + 1, none⟩ (.int .i64 s1)).setCell ⟨gb, ob + 2, none⟩ (.string s2)).drew) ga (.slice (some ⟨ga, oa, none⟩) (la'.length + 1) ca') (⟨r0, r1, r2⟩ :: la') := HSA.out ⟨r0, r1, r2⟩ _ (six_a w3 hgab _ _ _ _ _ _ _ _ _ _ _ _)
      have RB : Rem (((((((w3.setCell ⟨ga, oa, none⟩ (.int .i64 r0)).setCell ⟨ga, oa + 1, none⟩ (.int .i64 r1)).setCell ⟨ga, oa + 2, none⟩ (.string r2)).setCell ⟨gb, ob, none⟩ (.int .i64 s0)).setCell ⟨gb, ob + 1, none⟩ (.int .i64 s1)).setCell ⟨gb, ob + 2, none⟩ (.string s2)).drew) gb (.slice (some ⟨gb, ob, none⟩) (lb'.length + 1) cb') (⟨s0, s1, s2⟩ :: lb') := HSB.out ⟨s0, s1, s2⟩ _ (six_b w3 hgab _ _ _ _ _ _ _ _ _ _ _ _)
      have C20 : Ch (fun k => k = ga ∨ k = gb) w3 (((((((w3.setCell ⟨ga, oa, none⟩ (.int .i64 r0)).setCell ⟨ga, oa + 1, none⟩ (.int .i64 r1)).setCell ⟨ga, oa + 2, none⟩ (.string r2)).setCell ⟨gb, ob, none⟩ (.int .i64 s0)).setCell ⟨gb, ob + 1, none⟩ (.int .i64 s1)).setCell ⟨gb, ob + 2, none⟩ (.string s2)).drew) := six_ch w3 ga gb _ _ _ _ _ _ _ _ _ _ _ _
      have S20 := Go.Cx.hid (S19.out.set C20 RA RB)
      clear RA RB C20 HSA HSB hfza hfzb r0c r1c r2c s0c s1c s2c hHeld x0 x1 x2 y0 y1 y2 S19 B9t B11t
      generalize ((((((w3.setCell ⟨ga, oa, none⟩ (.int .i64 r0)).setCell ⟨ga, oa + 1, none⟩ (.int .i64 r1)).setCell ⟨ga, oa + 2, none⟩ (.string r2)).setCell ⟨gb, ob, none⟩ (.int .i64 s0)).setCell ⟨gb, ob + 1, none⟩ (.int .i64 s1)).setCell ⟨gb, ob + 2, none⟩ (.string s2)).drew = w20 at S20 ⊢
      clear NG9 NG11 NH9 NH11 hgab hgba NEg8_g9 NEg9_g8 NEg8_g10 NEg10_g8 NEg9_g10 NEg10_g9 NEg8_g11 NEg11_g8 NEg9_g11 NEg11_g9 NEg10_g11 NEg11_g10 NB8 NB9 NA8 NA9
      obtain ⟨oa2, ca2, ea, hca2, x0, x1, x2, hfza, hrema, _⟩ := S20.out.ra.cells
      obtain ⟨ob2, cb2, eb, hcb2, y0, y1, y2, hfzb, hremb, _⟩ := S20.out.rb.cells
      simp only [Value.slice.injEq, Option.some.injEq, Addr.mk.injEq, true_and, and_true] at ea eb
      obtain ⟨rfl, rfl⟩ := ea
      obtain ⟨rfl, rfl⟩ := eb
      simp only at x0 x1 x2 y0 y1 y2
      rw [← HNA.out] at hrema hca2
      rw [← HNB.out] at hremb hcb2
      have HREMA := Go.Cx.hid hrema
      have HREMB := Go.Cx.hid hremb
      clear hrema hremb hfza hfzb
      have k1 : (1 : Int) ≤ ((na + 1 : Nat) : Int) := by omega
      have k2 : ((na + 1 : Nat) : Int) ≤ (ca' : Int) := by omega
      have k3 : (1 : Int) ≤ ((nb + 1 : Nat) : Int) := by omega
      have k4 : ((nb + 1 : Nat) : Int) ≤ (cb' : Int) := by omega
      have hsn : sx - n ≤ 100000 := by omega
      have hsm : sy - n ≤ 100000 := by omega
      have hcomp : n = sx ∨ n = sy := by have := HN.out; omega
      have hnx : n ≤ sx := by have := HN.out; omega
      have hny : n ≤ sy := by have := HN.out; omega
      by_cases h1 : n = sx
      · by_cases h2 : n = sy
        · have tz : (((sx - n : Nat) : Int) == 0) = true := by rw [show sx - n = 0 by omega]; rfl
          have tw : (((sy - n : Nat) : Int) == 0) = true := by rw [show sy - n = 0 by omega]; rfl
          have HCS : Hid (CStep (cms (⟨x_0, x_1, x_2⟩ :: la')) (cms (⟨y_0, y_1, y_2⟩ :: lb')) (cms [⟨p0, p1, p2⟩]) (cms la') (cms lb')) := Go.Cx.hid (two5_step HST.out HP.out HQ.out HR.out HSS.out HSX.out HSYY.out HN.out (.inl ⟨hq1, rfl⟩) (.inl ⟨by omega, rfl⟩) (.inl ⟨by omega, rfl⟩))
          go_wp2_with (first
            | (go_at_call 31; refine (size5_any r0 r1 r2 (sx - n) HRX.out hsn _).mono ?_; clear HRX; rintro e w21 ⟨rfl, hb⟩; have D1 := Go.Cx.hid hb; have y0 := hb.cell y0 id; have y1 := hb.cell y1 id; have y2 := hb.cell y2 id; clear hb)
            | (go_at_call 31; refine (size5_any s0 s1 s2 (sy - n) HSY.out hsm _).mono ?_; clear HSY; rintro e w22 ⟨rfl, hb⟩; have D2 := Go.Cx.hid hb; clear hb))
          all_goals (
            have E3 := Go.Cx.hid (D1.out.f D2.out)
            obtain ⟨k', hk', hM'⟩ := HM5.out.step HCS.out
            go_roundg k'
            case measure => exact hk'
            case rel => exact Go.Cx.hid ⟨ga, gb, _, _, _, a3, m + 1, c3, rfl, (S20.out.mono E3.out).set (Ch.refl _ _) (by first | exact (HREMA.out.ch E3.out id) | exact rem_next (HREMA.out.ch E3.out id) HNA.out hca2 (by assumption)) (by first | exact (HREMB.out.ch E3.out id) | exact rem_next (HREMB.out.ch E3.out id) HNB.out hcb2 (by assumption)), by first | exact hM' | simpa using hM'⟩)
        · have tz : (((sx - n : Nat) : Int) == 0) = true := by rw [show sx - n = 0 by omega]; rfl
          have tw : (((sy - n : Nat) : Int) == 0) = false := beq_eq_false_iff_ne.2 (by omega)
          have HCS : Hid (CStep (cms (⟨x_0, x_1, x_2⟩ :: la')) (cms (⟨y_0, y_1, y_2⟩ :: lb')) (cms [⟨p0, p1, p2⟩]) (cms la') (cms (⟨s0, s1, s2⟩ :: lb'))) := Go.Cx.hid (two5_step HST.out HP.out HQ.out HR.out HSS.out HSX.out HSYY.out HN.out (.inl ⟨hq1, rfl⟩) (.inl ⟨by omega, rfl⟩) (.inr ⟨by omega, rfl⟩))
          go_wp2_with (first
            | (go_at_call 31; refine (size5_any r0 r1 r2 (sx - n) HRX.out hsn _).mono ?_; clear HRX; rintro e w21 ⟨rfl, hb⟩; have D1 := Go.Cx.hid hb; have y0 := hb.cell y0 id; have y1 := hb.cell y1 id; have y2 := hb.cell y2 id; clear hb)
            | (go_at_call 31; refine (size5_any s0 s1 s2 (sy - n) HSY.out hsm _).mono ?_; clear HSY; rintro e w22 ⟨rfl, hb⟩; have D2 := Go.Cx.hid hb; clear hb))
          all_goals (
            have E3 := Go.Cx.hid (D1.out.f D2.out)
            obtain ⟨k', hk', hM'⟩ := HM5.out.step HCS.out
            go_roundg k'
            case measure => exact hk'
            case rel => exact Go.Cx.hid ⟨ga, gb, _, _, _, a3, m + 1, c3, rfl, (S20.out.mono E3.out).set (Ch.refl _ _) (by first | exact (HREMA.out.ch E3.out id) | exact rem_next (HREMA.out.ch E3.out id) HNA.out hca2 (by assumption)) (by rw [HNB.out]; exact S20.out.rb.ch E3.out id), by first | exact hM' | simpa using hM'⟩)
      · have tz : (((sx - n : Nat) : Int) == 0) = false := beq_eq_false_iff_ne.2 (by omega)
        have tw : (((sy - n : Nat) : Int) == 0) = true := by rw [show sy - n = 0 by omega]; rfl
        have HCS : Hid (CStep (cms (⟨x_0, x_1, x_2⟩ :: la')) (cms (⟨y_0, y_1, y_2⟩ :: lb')) (cms [⟨p0, p1, p2⟩]) (cms (⟨r0, r1, r2⟩ :: la')) (cms lb')) := Go.Cx.hid (two5_step HST.out HP.out HQ.out HR.out HSS.out HSX.out HSYY.out HN.out (.inl ⟨hq1, rfl⟩) (.inr ⟨by omega, rfl⟩) (.inl ⟨by omega, rfl⟩))
        go_wp2_with (first
          | (go_at_call 31; refine (size5_any r0 r1 r2 (sx - n) HRX.out hsn _).mono ?_; clear HRX; rintro e w21 ⟨rfl, hb⟩; have D1 := Go.Cx.hid hb; have y0 := hb.cell y0 id; have y1 := hb.cell y1 id; have y2 := hb.cell y2 id; clear hb)
          | (go_at_call 31; refine (size5_any s0 s1 s2 (sy - n) HSY.out hsm _).mono ?_; clear HSY; rintro e w22 ⟨rfl, hb⟩; have D2 := Go.Cx.hid hb; clear hb))
        all_goals (
          have E3 := Go.Cx.hid (D1.out.f D2.out)
          obtain ⟨k', hk', hM'⟩ := HM5.out.step HCS.out
          go_roundg k'
          case measure => exact hk'
          case rel => exact Go.Cx.hid ⟨ga, gb, _, _, _, a3, m + 1, c3, rfl, (S20.out.mono E3.out).set (Ch.refl _ _) (by rw [HNA.out]; exact S20.out.ra.ch E3.out id) (by first | exact (HREMB.out.ch E3.out id) | exact rem_next (HREMB.out.ch E3.out id) HNB.out hcb2 (by assumption)), by first | exact hM' | simpa using hM'⟩)
    · have tq : (q0 == 1) = false := beq_eq_false_iff_ne.2 hq1
      by_cases hp1 : p0 = 1
      · have tp : (p0 == 1) = true := beq_iff_eq.2 hp1
        go_upto_region 19 with (at_builtin; refine wpList_app rfl _ _ _ _ rfl w.heap.size 49 3 32 _ et_comp bo m co _ rfl (HO15.out.f ((Ch.refl (fun _ => False) _).alloc _)) _ 1 _ rfl (src3 _ ⟨q0, q1, q2⟩ _ rfl) hsz hsz2 (by have := BS.out; have := SZ15.out; simp; omega) ?_; intro a3 c3 w3 hO hS hC hN; have HO3 := Go.Cx.hid hO; have HC3 := Go.Cx.hid hC; have HN3 := Go.Cx.hid hN; clear hO hS hC hN)
        have S19 := Go.Cx.hid (HS5.out.put (E15.out.alloc _) HC3.out HO3.out HN3.out HS5.out.ra HS5.out.rb)
        have B9t := Go.Cx.hid (HC3.out.heap (blk_alloc B9.out _) (fun ⟨b, hb, e⟩ => (HNO9.out b hb).1 e))
        have B11t := Go.Cx.hid (HC3.out.heap (blk_alloc B11.out _) (fun ⟨b, hb, e⟩ => (HNO9.out b hb).2 e))
        clear HO3 HC3 HN3 HO15 S15 p0c p1c p2c q0c q1c q2c B8 B9 B10 B11
        obtain ⟨oa2, ca2, ea, _, x0, x1, x2, hfza, _, hseta⟩ := S19.out.ra.cells
        obtain ⟨ob2, cb2, eb, _, y0, y1, y2, hfzb, _, hsetb⟩ := S19.out.rb.cells
        simp only [Value.slice.injEq, Option.some.injEq, Addr.mk.injEq, true_and, and_true] at ea eb
        obtain ⟨rfl, rfl⟩ := ea
        obtain ⟨rfl, rfl⟩ := eb
        have HSA := Go.Cx.hid hseta
        have HSB := Go.Cx.hid hsetb
        clear hseta hsetb
        simp only at x0 x1 x2 y0 y1 y2
        have r0c : w3.cell? ⟨g9, 0, none⟩ = some (.int .i64 r0) := (blk_cell B9t.out 0).trans rfl
        have r1c : w3.cell? ⟨g9, 1, none⟩ = some (.int .i64 r1) := (blk_cell B9t.out 1).trans rfl
        have r2c : w3.cell? ⟨g9, 2, none⟩ = some (.string r2) := (blk_cell B9t.out 2).trans rfl
        have s0c : w3.cell? ⟨g11, 0, none⟩ = some (.int .i64 s0) := (blk_cell B11t.out 0).trans rfl
        have s1c : w3.cell? ⟨g11, 1, none⟩ = some (.int .i64 s1) := (blk_cell B11t.out 1).trans rfl
        have s2c : w3.cell? ⟨g11, 2, none⟩ = some (.string s2) := (blk_cell B11t.out 2).trans rfl
        refine start_ (n := 8) (S := fun w' => w'.cell? ⟨g9, 0, none⟩ = some (.int .i64 r0) ∧ w'.cell? ⟨g9, 1, none⟩ = some (.int .i64 r1) ∧ w'.cell? ⟨g9, 2, none⟩ = some (.string r2) ∧ w'.cell? ⟨g11, 0, none⟩ = some (.int .i64 s0) ∧ w'.cell? ⟨g11, 1, none⟩ = some (.int .i64 s1) ∧ w'.cell? ⟨g11, 2, none⟩ = some (.string s2)) (ds := [7]) #[false, false, false, false, false, false, false, false] (by kernel_rfl) rfl rfl ⟨r0c, r1c, r2c, s0c, s1c, s2c⟩ (fun hHeld => ?_)
        refine pure_ (i := 0) (N := some 108) (v := ?_) (a' := ?_) #[true, false, false, false, false, false, false, false] rfl rfl (by kernel_rfl) (fun _ _ _ h => h) (Or.inl ⟨by rfl, ?_⟩) ?_ ?_
        rotate_left
        · intro w'
          go_simp
          with_reducible rfl
        rotate_left
        · simp only [Act.put, List.setIfInBounds_toArray, List.set_cons_zero, List.set_cons_succ, i64_w, i32_w]
          rfl
        refine pure_ (i := 1) (N := some 109) (v := ?_) (a' := ?_) #[true, true, false, false, false, false, false, false] rfl rfl (by kernel_rfl) (fun _ _ _ h => h) (Or.inl ⟨by rfl, ?_⟩) ?_ ?_
        rotate_left
        · intro w'
          go_simp
          with_reducible rfl
        rotate_left
        · simp only [Act.put, List.setIfInBounds_toArray, List.set_cons_zero, List.set_cons_succ, i64_w, i32_w]
          rfl
        refine take_ (i := 2) (N := some 110) (v := ?_) (a' := ?_) #[true, true, true, false, false, false, false, false] rfl rfl (by kernel_rfl) (fun _ _ _ h => h) (Or.inl ⟨by rfl, ?_⟩) hHeld ?_ ?_
        rotate_left
        · rintro w' ⟨s0, s1, s2, s3, s4, s5⟩
          go_simp
          with_reducible rfl
        rotate_left
        · simp only [Act.put, List.setIfInBounds_toArray, List.set_cons_zero, List.set_cons_succ, i64_w, i32_w]
          rfl
        refine pure_ (i := 4) (N := some 112) (v := ?_) (a' := ?_) #[true, true, true, false, true, false, false, false] rfl rfl (by kernel_rfl) (fun _ _ _ h => h) (Or.inl ⟨by rfl, ?_⟩) ?_ ?_
        rotate_left
        · intro w'
          go_simp
          with_reducible rfl
        rotate_left
        · simp only [Act.put, List.setIfInBounds_toArray, List.set_cons_zero, List.set_cons_succ, i64_w, i32_w]
          rfl
        refine take_ (i := 3) (N := some 111) (v := ?_) (a' := ?_) #[true, true, true, true, true, false, false, false] rfl rfl (by kernel_rfl) (fun _ _ _ h => h) (Or.inl ⟨by rfl, ?_⟩) hHeld ?_ ?_
        rotate_left
        · rintro w' ⟨s0, s1, s2, s3, s4, s5⟩
          go_simp
          with_reducible rfl
        rotate_left
        · simp only [Act.put, List.setIfInBounds_toArray, List.set_cons_zero, List.set_cons_succ, i64_w, i32_w]
          rfl
        refine one_ (i := 5) (N := none) #[true, true, true, true, true, true, false, false] rfl rfl (by kernel_rfl) (by decide) (fun K hK => ?_)
        refine skip_ (w1 := ?_) (by rfl) rfl ?_ ?_
        rotate_left
        · go_simp
          rfl
        refine hK.out _ _ ⟨((cell_far (p := ⟨ga, _, none⟩) NG9.symm _).trans ((cell_far (p := ⟨ga, _, none⟩) NG9.symm _).trans ((cell_far (p := ⟨ga, _, none⟩) NG9.symm _).trans (hHeld.1)))), ((cell_far (p := ⟨ga, _, none⟩) NG9.symm _).trans ((cell_far (p := ⟨ga, _, none⟩) NG9.symm _).trans ((cell_far (p := ⟨ga, _, none⟩) NG9.symm _).trans (hHeld.2.1)))), ((cell_far (p := ⟨ga, _, none⟩) NG9.symm _).trans ((cell_far (p := ⟨ga, _, none⟩) NG9.symm _).trans ((cell_far (p := ⟨ga, _, none⟩) NG9.symm _).trans (hHeld.2.2.1)))), ((cell_far (p := ⟨ga, _, none⟩) NG11.symm _).trans ((cell_far (p := ⟨ga, _, none⟩) NG11.symm _).trans ((cell_far (p := ⟨ga, _, none⟩) NG11.symm _).trans (hHeld.2.2.2.1)))), ((cell_far (p := ⟨ga, _, none⟩) NG11.symm _).trans ((cell_far (p := ⟨ga, _, none⟩) NG11.symm _).trans ((cell_far (p := ⟨ga, _, none⟩) NG11.symm _).trans (hHeld.2.2.2.2.1)))), ((cell_far (p := ⟨ga, _, none⟩) NG11.symm _).trans ((cell_far (p := ⟨ga, _, none⟩) NG11.symm _).trans ((cell_far (p := ⟨ga, _, none⟩) NG11.symm _).trans (hHeld.2.2.2.2.2))))⟩ (fun hHeld => ?_)
        clear hK K
        refine pure_ (i := 6) (N := some 113) (v := ?_) (a' := ?_) #[true, true, true, true, true, true, true, false] rfl rfl (by kernel_rfl) (fun _ _ _ h => h) (Or.inl ⟨by rfl, ?_⟩) ?_ ?_
        rotate_left
        · intro w'
          go_simp
          with_reducible rfl
        rotate_left
        · simp only [Act.put, List.setIfInBounds_toArray, List.set_cons_zero, List.set_cons_succ, i64_w, i32_w]
          rfl
        refine last_ (i := 7) (N := none) #[true, true, true, true, true, true, true, true] rfl rfl (by kernel_rfl) (by decide) (fun K hK => ?_)
        refine skip_ (w1 := ?_) (by rfl) rfl ?_ ?_
        rotate_left
        · go_simp
          rfl
        refine hK.out _ _ ?_
        clear hK K
        refine done_ (by kernel_rfl) ?_
        
        have RA : Rem (((((((w3.setCell ⟨ga, oa, none⟩ (.int .i64 r0)).setCell ⟨ga, oa + 1, none⟩ (.int .i64 r1)).setCell ⟨ga, oa + 2, none⟩ (.string r2)).setCell ⟨gb, ob, none⟩ (.int .i64 s0)).setCell ⟨gb, ob + 1, none⟩ (.int .i64 s1)).setCell ⟨gb, ob + 2, none⟩ (.string s2)).drew) ga (.slice (some ⟨ga, oa, none⟩) (la'.length + 1) ca') (⟨r0, r1, r2⟩ :: la') := HSA.out ⟨r0, r1, r2⟩ _ (six_a w3 hgab _ _ _ _ _ _ _ _ _ _ _ _)
        have RB : Rem (((((((w3.setCell ⟨ga, oa, none⟩ (.int .i64 r0)).setCell ⟨ga, oa + 1, none⟩ (.int .i64 r1)).setCell ⟨ga, oa + 2, none⟩ (.string r2)).setCell ⟨gb, ob, none⟩ (.int .i64 s0)).setCell ⟨gb, ob + 1, none⟩ (.int .i64 s1)).setCell ⟨gb, ob + 2, none⟩ (.string s2)).drew) gb (.slice (some ⟨gb, ob, none⟩) (lb'.length + 1) cb') (⟨s0, s1, s2⟩ :: lb') := HSB.out ⟨s0, s1, s2⟩ _ (six_b w3 hgab _ _ _ _ _ _ _ _ _ _ _ _)
        have C20 : Ch (fun k => k = ga ∨ k = gb) w3 (((((((w3.setCell ⟨ga, oa, none⟩ (.int .i64 r0)).setCell ⟨ga, oa + 1, none⟩ (.int .i64 r1)).setCell ⟨ga, oa + 2, none⟩ (.string r2)).setCell ⟨gb, ob, none⟩ (.int .i64 s0)).setCell ⟨gb, ob + 1, none⟩ (.int .i64 s1)).setCell ⟨gb, ob + 2, none⟩ (.string s2)).drew) := six_ch w3 ga gb _ _ _ _ _ _ _ _ _ _ _ _
        have S20 := Go.Cx.hid (S19.out.set C20 RA RB)
        clear RA RB C20 HSA HSB hfza hfzb r0c r1c r2c s0c s1c s2c hHeld x0 x1 x2 y0 y1 y2 S19 B9t B11t
        generalize ((((((w3.setCell ⟨ga, oa, none⟩ (.int .i64 r0)).setCell ⟨ga, oa + 1, none⟩ (.int .i64 r1)).setCell ⟨ga, oa + 2, none⟩ (.string r2)).setCell ⟨gb, ob, none⟩ (.int .i64 s0)).setCell ⟨gb, ob + 1, none⟩ (.int .i64 s1)).setCell ⟨gb, ob + 2, none⟩ (.string s2)).drew = w20 at S20 ⊢
        clear NG9 NG11 NH9 NH11 hgab hgba NEg8_g9 NEg9_g8 NEg8_g10 NEg10_g8 NEg9_g10 NEg10_g9 NEg8_g11 NEg11_g8 NEg9_g11 NEg11_g9 NEg10_g11 NEg11_g10 NB8 NB9 NA8 NA9
        obtain ⟨oa2, ca2, ea, hca2, x0, x1, x2, hfza, hrema, _⟩ := S20.out.ra.cells
        obtain ⟨ob2, cb2, eb, hcb2, y0, y1, y2, hfzb, hremb, _⟩ := S20.out.rb.cells
        simp only [Value.slice.injEq, Option.some.injEq, Addr.mk.injEq, true_and, and_true] at ea eb
        obtain ⟨rfl, rfl⟩ := ea
        obtain ⟨rfl, rfl⟩ := eb
        simp only at x0 x1 x2 y0 y1 y2
        rw [← HNA.out] at hrema hca2
        rw [← HNB.out] at hremb hcb2
        have HREMA := Go.Cx.hid hrema
        have HREMB := Go.Cx.hid hremb
        clear hrema hremb hfza hfzb
        have k1 : (1 : Int) ≤ ((na + 1 : Nat) : Int) := by omega
        have k2 : ((na + 1 : Nat) : Int) ≤ (ca' : Int) := by omega
        have k3 : (1 : Int) ≤ ((nb + 1 : Nat) : Int) := by omega
        have k4 : ((nb + 1 : Nat) : Int) ≤ (cb' : Int) := by omega
        have hsn : sx - n ≤ 100000 := by omega
        have hsm : sy - n ≤ 100000 := by omega
        have hcomp : n = sx ∨ n = sy := by have := HN.out; omega
        have hnx : n ≤ sx := by have := HN.out; omega
        have hny : n ≤ sy := by have := HN.out; omega
        by_cases h1 : n = sx
        · by_cases h2 : n = sy
          · have tz : (((sx - n : Nat) : Int) == 0) = true := by rw [show sx - n = 0 by omega]; rfl
            have tw : (((sy - n : Nat) : Int) == 0) = true := by rw [show sy - n = 0 by omega]; rfl
            have HCS : Hid (CStep (cms (⟨x_0, x_1, x_2⟩ :: la')) (cms (⟨y_0, y_1, y_2⟩ :: lb')) (cms [⟨q0, q1, q2⟩]) (cms la') (cms lb')) := Go.Cx.hid (two5_step HST.out HP.out HQ.out HR.out HSS.out HSX.out HSYY.out HN.out (.inr (.inl ⟨hq1, hp1, rfl⟩)) (.inl ⟨by omega, rfl⟩) (.inl ⟨by omega, rfl⟩))
            go_wp2_with (first
              | (go_at_call 31; refine (size5_any r0 r1 r2 (sx - n) HRX.out hsn _).mono ?_; clear HRX; rintro e w21 ⟨rfl, hb⟩; have D1 := Go.Cx.hid hb; have y0 := hb.cell y0 id; have y1 := hb.cell y1 id; have y2 := hb.cell y2 id; clear hb)
              | (go_at_call 31; refine (size5_any s0 s1 s2 (sy - n) HSY.out hsm _).mono ?_; clear HSY; rintro e w22 ⟨rfl, hb⟩; have D2 := Go.Cx.hid hb; clear hb))
            all_goals (
              have E3 := Go.Cx.hid (D1.out.f D2.out)
              obtain ⟨k', hk', hM'⟩ := HM5.out.step HCS.out
              go_roundg k'
              case measure => exact hk'
              case rel => exact Go.Cx.hid ⟨ga, gb, _, _, _, a3, m + 1, c3, rfl, (S20.out.mono E3.out).set (Ch.refl _ _) (by first | exact (HREMA.out.ch E3.out id) | exact rem_next (HREMA.out.ch E3.out id) HNA.out hca2 (by assumption)) (by first | exact (HREMB.out.ch E3.out id) | exact rem_next (HREMB.out.ch E3.out id) HNB.out hcb2 (by assumption)), by first | exact hM' | simpa using hM'⟩)
          · have tz : (((sx - n : Nat) : Int) == 0) = true := by rw [show sx - n = 0 by omega]; rfl
            have tw : (((sy - n : Nat) : Int) == 0) = false := beq_eq_false_iff_ne.2 (by omega)
            have HCS : Hid (CStep (cms (⟨x_0, x_1, x_2⟩ :: la')) (cms (⟨y_0, y_1, y_2⟩ :: lb')) (cms [⟨q0, q1, q2⟩]) (cms la') (cms (⟨s0, s1, s2⟩ :: lb'))) := Go.Cx.hid (two5_step HST.out HP.out HQ.out HR.out HSS.out HSX.out HSYY.out HN.out (.inr (.inl ⟨hq1, hp1, rfl⟩)) (.inl ⟨by omega, rfl⟩) (.inr ⟨by omega, rfl⟩))
            go_wp2_with (first
              | (go_at_call 31; refine (size5_any r0 r1 r2 (sx - n) HRX.out hsn _).mono ?_; clear HRX; rintro e w21 ⟨rfl, hb⟩; have D1 := Go.Cx.hid hb; have y0 := hb.cell y0 id; have y1 := hb.cell y1 id; have y2 := hb.cell y2 id; clear hb)
              | (go_at_call 31; refine (size5_any s0 s1 s2 (sy - n) HSY.out hsm _).mono ?_; clear HSY; rintro e w22 ⟨rfl, hb⟩; have D2 := Go.Cx.hid hb; clear hb))
            all_goals (
              have E3 := Go.Cx.hid (D1.out.f D2.out)
              obtain ⟨k', hk', hM'⟩ := HM5.out.step HCS.out
              go_roundg k'
              case measure => exact hk'
              case rel => exact Go.Cx.hid ⟨ga, gb, _, _, _, a3, m + 1, c3, rfl, (S20.out.mono E3.out).set (Ch.refl _ _) (by first | exact (HREMA.out.ch E3.out id) | exact rem_next (HREMA.out.ch E3.out id) HNA.out hca2 (by assumption)) (by rw [HNB.out]; exact S20.out.rb.ch E3.out id), by first | exact hM' | simpa using hM'⟩)
        · have tz : (((sx - n : Nat) : Int) == 0) = false := beq_eq_false_iff_ne.2 (by omega)
          have tw : (((sy - n : Nat) : Int) == 0) = true := by rw [show sy - n = 0 by omega]; rfl
          have HCS : Hid (CStep (cms (⟨x_0, x_1, x_2⟩ :: la')) (cms (⟨y_0, y_1, y_2⟩ :: lb')) (cms [⟨q0, q1, q2⟩]) (cms (⟨r0, r1, r2⟩ :: la')) (cms lb')) := Go.Cx.hid (two5_step HST.out HP.out HQ.out HR.out HSS.out HSX.out HSYY.out HN.out (.inr (.inl ⟨hq1, hp1, rfl⟩)) (.inr ⟨by omega, rfl⟩) (.inl ⟨by omega, rfl⟩))
          go_wp2_with (first
            | (go_at_call 31; refine (size5_any r0 r1 r2 (sx - n) HRX.out hsn _).mono ?_; clear HRX; rintro e w21 ⟨rfl, hb⟩; have D1 := Go.Cx.hid hb; have y0 := hb.cell y0 id; have y1 := hb.cell y1 id; have y2 := hb.cell y2 id; clear hb)
            | (go_at_call 31; refine (size5_any s0 s1 s2 (sy - n) HSY.out hsm _).mono ?_; clear HSY; rintro e w22 ⟨rfl, hb⟩; have D2 := Go.Cx.hid hb; clear hb))
          all_goals (
            have E3 := Go.Cx.hid (D1.out.f D2.out)
            obtain ⟨k', hk', hM'⟩ := HM5.out.step HCS.out
            go_roundg k'
            case measure => exact hk'
            case rel => exact Go.Cx.hid ⟨ga, gb, _, _, _, a3, m + 1, c3, rfl, (S20.out.mono E3.out).set (Ch.refl _ _) (by rw [HNA.out]; exact S20.out.ra.ch E3.out id) (by first | exact (HREMB.out.ch E3.out id) | exact rem_next (HREMB.out.ch E3.out id) HNB.out hcb2 (by assumption)), by first | exact hM' | simpa using hM'⟩)
      · have tp : (p0 == 1) = false := beq_eq_false_iff_ne.2 hp1
        go_upto_region 19 with fail
        have S19 := S15
        have B9t := B9
        have B11t := B11
        clear HO15 S15 p0c p1c p2c q0c q1c q2c B8 B9 B10 B11
        obtain ⟨oa2, ca2, ea, _, x0, x1, x2, hfza, _, hseta⟩ := S19.out.ra.cells
        obtain ⟨ob2, cb2, eb, _, y0, y1, y2, hfzb, _, hsetb⟩ := S19.out.rb.cells
        simp only [Value.slice.injEq, Option.some.injEq, Addr.mk.injEq, true_and, and_true] at ea eb
        obtain ⟨rfl, rfl⟩ := ea
        obtain ⟨rfl, rfl⟩ := eb
        have HSA := Go.Cx.hid hseta
        have HSB := Go.Cx.hid hsetb
        clear hseta hsetb
        simp only at x0 x1 x2 y0 y1 y2
        have r0c : w15.cell? ⟨g9, 0, none⟩ = some (.int .i64 r0) := (blk_cell B9t.out 0).trans rfl
        have r1c : w15.cell? ⟨g9, 1, none⟩ = some (.int .i64 r1) := (blk_cell B9t.out 1).trans rfl
        have r2c : w15.cell? ⟨g9, 2, none⟩ = some (.string r2) := (blk_cell B9t.out 2).trans rfl
        have s0c : w15.cell? ⟨g11, 0, none⟩ = some (.int .i64 s0) := (blk_cell B11t.out 0).trans rfl
        have s1c : w15.cell? ⟨g11, 1, none⟩ = some (.int .i64 s1) := (blk_cell B11t.out 1).trans rfl
        have s2c : w15.cell? ⟨g11, 2, none⟩ = some (.string s2) := (blk_cell B11t.out 2).trans rfl
        refine start_ (n := 8) (S := fun w' => w'.cell? ⟨g9, 0, none⟩ = some (.int .i64 r0) ∧ w'.cell? ⟨g9, 1, none⟩ = some (.int .i64 r1) ∧ w'.cell? ⟨g9, 2, none⟩ = some (.string r2) ∧ w'.cell? ⟨g11, 0, none⟩ = some (.int .i64 s0) ∧ w'.cell? ⟨g11, 1, none⟩ = some (.int .i64 s1) ∧ w'.cell? ⟨g11, 2, none⟩ = some (.string s2)) (ds := [7]) #[false, false, false, false, false, false, false, false] (by kernel_rfl) rfl rfl ⟨r0c, r1c, r2c, s0c, s1c, s2c⟩ (fun hHeld => ?_)
        refine pure_ (i := 0) (N := some 108) (v := ?_) (a' := ?_) #[true, false, false, false, false, false, false, false] rfl rfl (by kernel_rfl) (fun _ _ _ h => h) (Or.inl ⟨by rfl, ?_⟩) ?_ ?_
        rotate_left
        · intro w'
          go_simp
          with_reducible rfl
        rotate_left
        · simp only [Act.put, List.setIfInBounds_toArray, List.set_cons_zero, List.set_cons_succ, i64_w, i32_w]
          rfl
        refine pure_ (i := 1) (N := some 109) (v := ?_) (a' := ?_) #[true, true, false, false, false, false, false, false] rfl rfl (by kernel_rfl) (fun _ _ _ h => h) (Or.inl ⟨by rfl, ?_⟩) ?_ ?_
        rotate_left
        · intro w'
          go_simp
          with_reducible rfl
        rotate_left
        · simp only [Act.put, List.setIfInBounds_toArray, List.set_cons_zero, List.set_cons_succ, i64_w, i32_w]
          rfl
        refine take_ (i := 2) (N := some 110) (v := ?_) (a' := ?_) #[true, true, true, false, false, false, false, false] rfl rfl (by kernel_rfl) (fun _ _ _ h => h) (Or.inl ⟨by rfl, ?_⟩) hHeld ?_ ?_
        rotate_left
        · rintro w' ⟨s0, s1, s2, s3, s4, s5⟩
          go_simp
          with_reducible rfl
        rotate_left
        · simp only [Act.put, List.setIfInBounds_toArray, List.set_cons_zero, List.set_cons_succ, i64_w, i32_w]
          rfl
        refine pure_ (i := 4) (N := some 112) (v := ?_) (a' := ?_) #[true, true, true, false, true, false, false, false] rfl rfl (by kernel_rfl) (fun _ _ _ h => h) (Or.inl ⟨by rfl, ?_⟩) ?_ ?_
        rotate_left
        · intro w'
          go_simp
          with_reducible rfl
        rotate_left
        · simp only [Act.put, List.setIfInBounds_toArray, List.set_cons_zero, List.set_cons_succ, i64_w, i32_w]
          rfl
        refine take_ (i := 3) (N := some 111) (v := ?_) (a' := ?_) #[true, true, true, true, true, false, false, false] rfl rfl (by kernel_rfl) (fun _ _ _ h => h) (Or.inl ⟨by rfl, ?_⟩) hHeld ?_ ?_
        rotate_left
        · rintro w' ⟨s0, s1, s2, s3, s4, s5⟩
          go_simp
          with_reducible rfl
        rotate_left
        · simp only [Act.put, List.setIfInBounds_toArray, List.set_cons_zero, List.set_cons_succ, i64_w, i32_w]
          rfl
        refine one_ (i := 5) (N := none) #[true, true, true, true, true, true, false, false] rfl rfl (by kernel_rfl) (by decide) (fun K hK => ?_)
        refine skip_ (w1 := ?_) (by rfl) rfl ?_ ?_
        rotate_left
        · go_simp
          rfl
        refine hK.out _ _ ⟨((cell_far (p := ⟨ga, _, none⟩) NG9.symm _).trans ((cell_far (p := ⟨ga, _, none⟩) NG9.symm _).trans ((cell_far (p := ⟨ga, _, none⟩) NG9.symm _).trans (hHeld.1)))), ((cell_far (p := ⟨ga, _, none⟩) NG9.symm _).trans ((cell_far (p := ⟨ga, _, none⟩) NG9.symm _).trans ((cell_far (p := ⟨ga, _, none⟩) NG9.symm _).trans (hHeld.2.1)))), ((cell_far (p := ⟨ga, _, none⟩) NG9.symm _).trans ((cell_far (p := ⟨ga, _, none⟩) NG9.symm _).trans ((cell_far (p := ⟨ga, _, none⟩) NG9.symm _).trans (hHeld.2.2.1)))), ((cell_far (p := ⟨ga, _, none⟩) NG11.symm _).trans ((cell_far (p := ⟨ga, _, none⟩) NG11.symm _).trans ((cell_far (p := ⟨ga, _, none⟩) NG11.symm _).trans (hHeld.2.2.2.1)))), ((cell_far (p := ⟨ga, _, none⟩) NG11.symm _).trans ((cell_far (p := ⟨ga, _, none⟩) NG11.symm _).trans ((cell_far (p := ⟨ga, _, none⟩) NG11.symm _).trans (hHeld.2.2.2.2.1)))), ((cell_far (p := ⟨ga, _, none⟩) NG11.symm _).trans ((cell_far (p := ⟨ga, _, none⟩) NG11.symm _).trans ((cell_far (p := ⟨ga, _, none⟩) NG11.symm _).trans (hHeld.2.2.2.2.2))))⟩ (fun hHeld => ?_)
        clear hK K
        refine pure_ (i := 6) (N := some 113) (v := ?_) (a' := ?_) #[true, true, true, true, true, true, true, false] rfl rfl (by kernel_rfl) (fun _ _ _ h => h) (Or.inl ⟨by rfl, ?_⟩) ?_ ?_
        rotate_left
        · intro w'
          go_simp
          with_reducible rfl
        rotate_left
        · simp only [Act.put, List.setIfInBounds_toArray, List.set_cons_zero, List.set_cons_succ, i64_w, i32_w]
          rfl
        refine last_ (i := 7) (N := none) #[true, true, true, true, true, true, true, true] rfl rfl (by kernel_rfl) (by decide) (fun K hK => ?_)
        refine skip_ (w1 := ?_) (by rfl) rfl ?_ ?_
        rotate_left
        · go_simp
          rfl
        refine hK.out _ _ ?_
        clear hK K
        refine done_ (by kernel_rfl) ?_
        
        have RA : Rem (((((((w15.setCell ⟨ga, oa, none⟩ (.int .i64 r0)).setCell ⟨ga, oa + 1, none⟩ (.int .i64 r1)).setCell ⟨ga, oa + 2, none⟩ (.string r2)).setCell ⟨gb, ob, none⟩ (.int .i64 s0)).setCell ⟨gb, ob + 1, none⟩ (.int .i64 s1)).setCell ⟨gb, ob + 2, none⟩ (.string s2)).drew) ga (.slice (some ⟨ga, oa, none⟩) (la'.length + 1) ca') (⟨r0, r1, r2⟩ :: la') := HSA.out ⟨r0, r1, r2⟩ _ (six_a w15 hgab _ _ _ _ _ _ _ _ _ _ _ _)
        have RB : Rem (((((((w15.setCell ⟨ga, oa, none⟩ (.int .i64 r0)).setCell ⟨ga, oa + 1, none⟩ (.int .i64 r1)).setCell ⟨ga, oa + 2, none⟩ (.string r2)).setCell ⟨gb, ob, none⟩ (.int .i64 s0)).setCell ⟨gb, ob + 1, none⟩ (.int .i64 s1)).setCell ⟨gb, ob + 2, none⟩ (.string s2)).drew) gb (.slice (some ⟨gb, ob, none⟩) (lb'.length + 1) cb') (⟨s0, s1, s2⟩ :: lb') := HSB.out ⟨s0, s1, s2⟩ _ (six_b w15 hgab _ _ _ _ _ _ _ _ _ _ _ _)
        have C20 : Ch (fun k => k = ga ∨ k = gb) w15 (((((((w15.setCell ⟨ga, oa, none⟩ (.int .i64 r0)).setCell ⟨ga, oa + 1, none⟩ (.int .i64 r1)).setCell ⟨ga, oa + 2, none⟩ (.string r2)).setCell ⟨gb, ob, none⟩ (.int .i64 s0)).setCell ⟨gb, ob + 1, none⟩ (.int .i64 s1)).setCell ⟨gb, ob + 2, none⟩ (.string s2)).drew) := six_ch w15 ga gb _ _ _ _ _ _ _ _ _ _ _ _
        have S20 := Go.Cx.hid (S19.out.set C20 RA RB)
        clear RA RB C20 HSA HSB hfza hfzb r0c r1c r2c s0c s1c s2c hHeld x0 x1 x2 y0 y1 y2 S19 B9t B11t
        generalize ((((((w15.setCell ⟨ga, oa, none⟩ (.int .i64 r0)).setCell ⟨ga, oa + 1, none⟩ (.int .i64 r1)).setCell ⟨ga, oa + 2, none⟩ (.string r2)).setCell ⟨gb, ob, none⟩ (.int .i64 s0)).setCell ⟨gb, ob + 1, none⟩ (.int .i64 s1)).setCell ⟨gb, ob + 2, none⟩ (.string s2)).drew = w20 at S20 ⊢
        clear NG9 NG11 NH9 NH11 hgab hgba NEg8_g9 NEg9_g8 NEg8_g10 NEg10_g8 NEg9_g10 NEg10_g9 NEg8_g11 NEg11_g8 NEg9_g11 NEg11_g9 NEg10_g11 NEg11_g10 NB8 NB9 NA8 NA9
        obtain ⟨oa2, ca2, ea, hca2, x0, x1, x2, hfza, hrema, _⟩ := S20.out.ra.cells
        obtain ⟨ob2, cb2, eb, hcb2, y0, y1, y2, hfzb, hremb, _⟩ := S20.out.rb.cells
        simp only [Value.slice.injEq, Option.some.injEq, Addr.mk.injEq, true_and, and_true] at ea eb
        obtain ⟨rfl, rfl⟩ := ea
        obtain ⟨rfl, rfl⟩ := eb
        simp only at x0 x1 x2 y0 y1 y2
        rw [← HNA.out] at hrema hca2
        rw [← HNB.out] at hremb hcb2
        have HREMA := Go.Cx.hid hrema
        have HREMB := Go.Cx.hid hremb
        clear hrema hremb hfza hfzb
        have k1 : (1 : Int) ≤ ((na + 1 : Nat) : Int) := by omega
        have k2 : ((na + 1 : Nat) : Int) ≤ (ca' : Int) := by omega
        have k3 : (1 : Int) ≤ ((nb + 1 : Nat) : Int) := by omega
        have k4 : ((nb + 1 : Nat) : Int) ≤ (cb' : Int) := by omega
        have hsn : sx - n ≤ 100000 := by omega
        have hsm : sy - n ≤ 100000 := by omega
        have hcomp : n = sx ∨ n = sy := by have := HN.out; omega
        have hnx : n ≤ sx := by have := HN.out; omega
        have hny : n ≤ sy := by have := HN.out; omega
        by_cases h1 : n = sx
        · by_cases h2 : n = sy
          · have tz : (((sx - n : Nat) : Int) == 0) = true := by rw [show sx - n = 0 by omega]; rfl
            have tw : (((sy - n : Nat) : Int) == 0) = true := by rw [show sy - n = 0 by omega]; rfl
            have HCS : Hid (CStep (cms (⟨x_0, x_1, x_2⟩ :: la')) (cms (⟨y_0, y_1, y_2⟩ :: lb')) (cms ([] : List S49)) (cms la') (cms lb')) := Go.Cx.hid (two5_step HST.out HP.out HQ.out HR.out HSS.out HSX.out HSYY.out HN.out (.inr (.inr ⟨hq1, hp1, rfl⟩)) (.inl ⟨by omega, rfl⟩) (.inl ⟨by omega, rfl⟩))
            go_wp2_with (first
              | (go_at_call 31; refine (size5_any r0 r1 r2 (sx - n) HRX.out hsn _).mono ?_; clear HRX; rintro e w21 ⟨rfl, hb⟩; have D1 := Go.Cx.hid hb; have y0 := hb.cell y0 id; have y1 := hb.cell y1 id; have y2 := hb.cell y2 id; clear hb)
              | (go_at_call 31; refine (size5_any s0 s1 s2 (sy - n) HSY.out hsm _).mono ?_; clear HSY; rintro e w22 ⟨rfl, hb⟩; have D2 := Go.Cx.hid hb; clear hb))
            all_goals (
              have E3 := Go.Cx.hid (D1.out.f D2.out)
              obtain ⟨k', hk', hM'⟩ := HM5.out.step HCS.out
              go_roundg k'
              case measure => exact hk'
              case rel => exact Go.Cx.hid ⟨ga, gb, _, _, _, bo, m, co, rfl, (S20.out.mono E3.out).set (Ch.refl _ _) (by first | exact (HREMA.out.ch E3.out id) | exact rem_next (HREMA.out.ch E3.out id) HNA.out hca2 (by assumption)) (by first | exact (HREMB.out.ch E3.out id) | exact rem_next (HREMB.out.ch E3.out id) HNB.out hcb2 (by assumption)), by first | exact hM' | simpa using hM'⟩)
          · have tz : (((sx - n : Nat) : Int) == 0) = true := by rw [show sx - n = 0 by omega]; rfl
            have tw : (((sy - n : Nat) : Int) == 0) = false := beq_eq_false_iff_ne.2 (by omega)
            have HCS : Hid (CStep (cms (⟨x_0, x_1, x_2⟩ :: la')) (cms (⟨y_0, y_1, y_2⟩ :: lb')) (cms ([] : List S49)) (cms la') (cms (⟨s0, s1, s2⟩ :: lb'))) := Go.Cx.hid (two5_step HST.out HP.out HQ.out HR.out HSS.out HSX.out HSYY.out HN.out (.inr (.inr ⟨hq1, hp1, rfl⟩)) (.inl ⟨by omega, rfl⟩) (.inr ⟨by omega, rfl⟩))
            go_wp2_with (first
              | (go_at_call 31; refine (size5_any r0 r1 r2 (sx - n) HRX.out hsn _).mono ?_; clear HRX; rintro e w21 ⟨rfl, hb⟩; have D1 := Go.Cx.hid hb; have y0 := hb.cell y0 id; have y1 := hb.cell y1 id; have y2 := hb.cell y2 id; clear hb)
              | (go_at_call 31; refine (size5_any s0 s1 s2 (sy - n) HSY.out hsm _).mono ?_; clear HSY; rintro e w22 ⟨rfl, hb⟩; have D2 := Go.Cx.hid hb; clear hb))
            all_goals (
              have E3 := Go.Cx.hid (D1.out.f D2.out)
              obtain ⟨k', hk', hM'⟩ := HM5.out.step HCS.out
              go_roundg k'
              case measure => exact hk'
              case rel => exact Go.Cx.hid ⟨ga, gb, _, _, _, bo, m, co, rfl, (S20.out.mono E3.out).set (Ch.refl _ _) (by first | exact (HREMA.out.ch E3.out id) | exact rem_next (HREMA.out.ch E3.out id) HNA.out hca2 (by assumption)) (by rw [HNB.out]; exact S20.out.rb.ch E3.out id), by first | exact hM' | simpa using hM'⟩)
        · have tz : (((sx - n : Nat) : Int) == 0) = false := beq_eq_false_iff_ne.2 (by omega)
          have tw : (((sy - n : Nat) : Int) == 0) = true := by rw [show sy - n = 0 by omega]; rfl
          have HCS : Hid (CStep (cms (⟨x_0, x_1, x_2⟩ :: la')) (cms (⟨y_0, y_1, y_2⟩ :: lb')) (cms ([] : List S49)) (cms (⟨r0, r1, r2⟩ :: la')) (cms lb')) := Go.Cx.hid (two5_step HST.out HP.out HQ.out HR.out HSS.out HSX.out HSYY.out HN.out (.inr (.inr ⟨hq1, hp1, rfl⟩)) (.inr ⟨by omega, rfl⟩) (.inl ⟨by omega, rfl⟩))
          go_wp2_with (first
            | (go_at_call 31; refine (size5_any r0 r1 r2 (sx - n) HRX.out hsn _).mono ?_; clear HRX; rintro e w21 ⟨rfl, hb⟩; have D1 := Go.Cx.hid hb; have y0 := hb.cell y0 id; have y1 := hb.cell y1 id; have y2 := hb.cell y2 id; clear hb)
            | (go_at_call 31; refine (size5_any s0 s1 s2 (sy - n) HSY.out hsm _).mono ?_; clear HSY; rintro e w22 ⟨rfl, hb⟩; have D2 := Go.Cx.hid hb; clear hb))
          all_goals (
            have E3 := Go.Cx.hid (D1.out.f D2.out)
            obtain ⟨k', hk', hM'⟩ := HM5.out.step HCS.out
            go_roundg k'
            case measure => exact hk'
            case rel => exact Go.Cx.hid ⟨ga, gb, _, _, _, bo, m, co, rfl, (S20.out.mono E3.out).set (Ch.refl _ _) (by rw [HNA.out]; exact S20.out.ra.ch E3.out id) (by first | exact (HREMB.out.ch E3.out id) | exact rem_next (HREMB.out.ch E3.out id) HNB.out hcb2 (by assumption)), by first | exact hM' | simpa using hM'⟩)
set_option maxRecDepth 100000 in
set_option maxHeartbeats 1000000 in
theorem two5_bad (A0 A1 : Option Addr) (c0 c1 : Nat) (l0 l1 : List (S49)) (w : World) (hr0 : Kd.C k49 w A0 l0.length l0) (hc0 : l0.length ≤ c0) (hr1 : Kd.C k49 w A1 l1.length l1) (hc1 : l1.length ≤ c1) (hg : good2 (cms l0) (cms l1) = true) (hs : ¬ inC (cms l1) = outC (cms l0)) :
    Calls Try.prog 15 #[.slice A0 l0.length c0, .slice A1 l1.length c1] w (Two5Post w [] 7) := by
  obtain ⟨hv0, hv1, hb⟩ := good2_iff.1 hg
  have hg0 : good (cms l0) = true := good_iff.2 ⟨hv0, by omega⟩
  have hg1 : good (cms l1) = true := good_iff.2 ⟨hv1, by omega⟩
  have t1 : ((inC (cms l1) : Int) != (outC (cms l0) : Int)) = true := by rw [bne_iff_ne]; omega
  have HIN := Go.Cx.hid (ref_in l1 hg1 (l1.length + 1) (by omega))
  have HOUT := Go.Cx.hid (ref_out l0 hg0 (l0.length + 1) (by omega))
  have HR0 := Go.Cx.hid hr0
  have HR1 := Go.Cx.hid hr1
  have HC0 := Go.Cx.hid hc0
  have HC1 := Go.Cx.hid hc1
  clear hr0 hr1 hg hs hc0 hc1 hv0 hv1 hb hg0 hg1
  go_enter Try.func15, Try.ntmps15
  go_wp2_with (first
    | (go_at_call 19; refine (comitiaref4_In.calls _ A1 c1 l1 _ _ HR1.out HC1.out HIN.out).mono ?_; rintro e w1 ⟨rfl, ⟨n1, rfl⟩⟩)
    | (go_at_call 13; refine (comitiaref4_Out.calls _ A0 c0 l0 _ _ (by exact HR0.out) HC0.out HOUT.out).mono ?_; rintro e w2 ⟨rfl, ⟨n2, rfl⟩⟩))
  go_ret2
  exact ⟨_, rfl, Kd.R_nil _ _ _ _ _, (((Ch.refl (fun _ => False) w).drewN _)).below0⟩
theorem comitiaref5_Two.calls (A0 : Option Addr) (c0 : Nat) (l0 : List (S49)) (A1 : Option Addr) (c1 : Nat) (l1 : List (S49)) (r1 : List (S49)) (r2 : Int) (w : World) (hr0 : Kd.C k49 w A0 l0.length l0) (hc0 : l0.length ≤ c0) (hr1 : Kd.C k49 w A1 l1.length l1) (hc1 : l1.length ≤ c1) (h : comitiaref5_Two.f l0 l1 = some (r1, r2)) :
    Calls Try.prog 15 #[.slice A0 l0.length c0, .slice A1 l1.length c1] w fun e w' => ∃ v0_ : Value, e = .returned (.tuple #[v0_, .int .i64 r2]) ∧ Kd.R k49 49 w' w.heap.size (fun _ => True) v0_ r1 ∧ Below w.heap.size w w' := by
  unfold comitiaref5_Two.f at h
  by_cases hg : good2 (cms l0) (cms l1) = true
  · rw [if_pos hg] at h
    by_cases hs : inC (cms l1) = outC (cms l0)
    · rw [if_pos hs] at h
      simp only [Option.some.injEq, Prod.mk.injEq] at h
      obtain ⟨rfl, rfl⟩ := h
      exact two5_any A0 A1 c0 c1 l0 l1 w hr0 hc0 hr1 hc1 hg hs
    · rw [if_neg hs] at h
      simp only [Option.some.injEq, Prod.mk.injEq] at h
      obtain ⟨rfl, rfl⟩ := h
      exact two5_bad A0 A1 c0 c1 l0 l1 w hr0 hc0 hr1 hc1 hg hs
  · rw [if_neg hg] at h
    cases h

end Go.Proofs.Ytmblpbaefoapaaa.Q

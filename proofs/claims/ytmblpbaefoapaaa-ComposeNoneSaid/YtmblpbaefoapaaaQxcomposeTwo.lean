/- Contracts of Go functions: each call answers what the Lean function of its name answers. Conditions: stand in each theorem. Written by this seat's own program over the kit's printer. -/
import Derived.Test.YtmblpbaefoapaaaQ0
import Derived.Test.YtmblpbaefoapaaaQxcm
import Derived.Test.YtmblpbaefoapaaaQxopIn
import Derived.Test.YtmblpbaefoapaaaQxopOut
import Derived.Test.YtmblpbaefoapaaaQxopNormal
import Derived.Test.YtmblpbaefoapaaaQxcomposeboth
import Derived.Test.YtmblpbaefoapaaaQN
import Derived.WalkMore
import Derived.Deep.RegionLaw
namespace Go.Proofs.Ytmblpbaefoapaaa.Q
open Go.RowKit Go.Proofs.YtmblpbaefoapaaaW.PrintWords Go.Proofs.YtmblpbaefoapaaaW.PrintLast Go.Proofs.YtmblpbaefoapaaaW.PrintMore
attribute [local go_sem] max2_int min2_int max_two min_two max_three min_three max_four min_four   -- for this text's walks alone
set_option linter.unusedVariables false
set_option linter.unusedSimpArgs false

-- HAND
/-! ### compose_Two: function 14 -/
open Go.OpM Go.Cx Go.F64
-- IMPORT Derived.Test.YtmblpbaefoapaaaQN
-- IMPORT Derived.WalkMore
-- IMPORT Derived.Deep.RegionLaw
def compose_Two.f (l0 l1 : List (S49)) : Option (List (S49) × Int) :=
  if good2 (cms l0) (cms l1) = true then (if inC (cms l1) = outC (cms l0) then some (scs (nf (comp (at_ (cms l0)) (at_ (cms l1)))), 0) else some ([], 7)) else none
structure CM (a b : List Cm) (n : Nat) (ra rb : List Cm) (lo : List S49) : Prop where
  va : Vl ra
  vb : Vl rb
  vo : Vl (cms lo)
  fits : outs (at_ ra) = ins (at_ rb)
  sum : at_ (cms lo) ++ comp (at_ ra) (at_ rb) = comp (at_ a) (at_ b)
  left : n = (at_ ra).length + (at_ rb).length
  len : lo.length + n ≤ 100000
theorem CM.step {a b : List Cm} {n : Nat} {ra rb ra' rb' : List Cm} {lo o : List S49} (h : CM a b n ra rb lo) (s : CStep ra rb (cms o) ra' rb') : ∃ n', n' < n ∧ CM a b n' ra' rb' (lo ++ o) := by
  obtain ⟨v1, v2, v3⟩ := s.vl h.va h.vb
  have h1 := s.less h.va h.vb
  have h2 := s.len
  have h3 := s.comp h.va h.vb
  refine ⟨_, by rw [h.left]; exact h1, v2, v3, ?_, s.fits h.va h.vb h.fits, ?_, rfl, ?_⟩
  · unfold cms; rw [List.map_append]; exact h.vo.append v1
  · rw [← h.sum, h3]; unfold cms; rw [List.map_append]; simp
  · have := h.left; have := h.len
    have e : (cms o).length = o.length := by simp [cms]
    rw [e] at h2
    simp only [List.length_append]; omega
structure C5S (w wr : World) (A0 A1 : Option Addr) (c0 c1 : Nat) (l0 l1 : List S49) (B1 B2 k1 g1 k2 g2 : Nat) (bo : Option Addr) (m co : Nat) (lo : List S49) : Prop where
  ca : Cur wr B1 A0 c0 l0 k1 g1
  cb : Cur wr B2 A1 c1 l1 k2 g2
  own : Own wr w.heap.size 49 3 bo m co (encs3 lo)
  len : m = lo.length
  ne : B1 ≠ B2
  la : w.heap.size ≤ B1
  lb : w.heap.size ≤ B2
  no : ∀ x, bo = some x → x.block ≠ B1 ∧ x.block ≠ B2
  ka : k1 ≤ l0.length
  kb : k2 ≤ l1.length
  below : Below w.heap.size w wr
theorem C5S.put {w wr wx w3 : World} {A0 A1 : Option Addr} {c0 c1 : Nat} {l0 l1 : List S49} {B1 B2 k1 g1 k2 g2 k1' g1' k2' g2' m m' co c3 : Nat} {bo a3 : Option Addr} {lo o : List S49} (h : C5S w wr A0 A1 c0 c1 l0 l1 B1 B2 k1 g1 k2 g2 bo m co lo) (hr0 : Kd.C k49 w A0 l0.length l0) (hr1 : Kd.C k49 w A1 l1.length l1)
    (ca : Cur wx B1 A0 c0 l0 k1' g1') (cb : Cur wx B2 A1 c1 l1 k2' g2') (ka : k1' ≤ l0.length) (kb : k2' ≤ l1.length) (hx : Ch (fun i => i = B1 ∨ i = B2) wr wx)
    (hc : Ch (fun k => ∃ b, bo = some b ∧ b.block = k) wx w3) (hm : m' = m + o.length) (ho : Own w3 w.heap.size 49 3 a3 m' c3 (encs3 lo ++ encs3 o)) (hn : a3 = bo ∧ c3 = co ∨ ∀ b, a3 = some b → wx.heap.size ≤ b.block) :
    C5S w w3 A0 A1 c0 c1 l0 l1 B1 B2 k1' g1' k2' g2' a3 m' c3 (lo ++ o) := by
  have n1 : ¬ ∃ b, bo = some b ∧ b.block = B1 := fun ⟨b, hb, e⟩ => (h.no b hb).1 e
  have n2 : ¬ ∃ b, bo = some b ∧ b.block = B2 := fun ⟨b, hb, e⟩ => (h.no b hb).2 e
  have b1 := lt_of_block ca.blk
  have b2 := lt_of_block cb.blk
  have hox : Own wx w.heap.size 49 3 bo m co (encs3 lo) := h.own.ch hx (fun b hb hk => by
    have := h.no b hb
    rcases hk with hk | hk
    · exact this.1 hk
    · exact this.2 hk)
  have hbx : Ch (fun _ => False) w wx := (Ch.of_below h.below).far2 hx h.la h.lb
  have hb3 : Below w.heap.size w w3 := Ch.below0 (Ch.app_own hbx hox (Nat.le_refl _) hc)
  refine ⟨ca.ch hc n1 (Kd.C_below hr0 hb3), cb.ch hc n2 (Kd.C_below hr1 hb3), ?_, ?_, h.ne, h.la, h.lb, ?_, ka, kb, hb3⟩
  · rw [encs3_app]; exact ho
  · have := h.len; simp; omega
  · intro b hb
    rcases hn with ⟨rfl, _⟩ | hn
    · exact h.no b hb
    · have := hn b hb
      constructor <;> omega
def CJ (w : World) (A0 A1 : Option Addr) (c0 c1 : Nat) (l0 l1 : List S49) (n : Nat) (a' : Act) (wr : World) : Prop :=
  ∃ (B1 B2 k1 g1 k2 g2 : Nat) (bo : Option Addr) (m co : Nat) (lo : List S49) (u2 u3 u4 u5 u9 u10 u11 u12 u13 u14 u15 u16 u17 u18 u19 u20 u21 u22 u23 u24 u25 u26 u27 u28 u29 u30 u31 u32 u33 u34 u35 u36 u37 u38 u39 u40 u41 u42 u43 u44 u45 u46 u47 u48 u49 u50 u51 u52 u53 u54 u55 u56 u57 u58 u59 u60 u61 u62 u63 u64 u65 u66 u67 u68 u69 u70 u71 u72 u73 u74 : Value), a' = { tmps := #[.slice A0 l0.length c0, .slice A1 l1.length c1, u2, u3, u4, u5, .pointer (some ⟨B1, 0, none⟩), .pointer (some ⟨B2, 0, none⟩), .slice bo m co, u9, u10, u11, u12, u13, u14, u15, u16, u17, u18, u19, u20, u21, u22, u23, u24, u25, u26, u27, u28, u29, u30, u31, u32, u33, u34, u35, u36, u37, u38, u39, u40, u41, u42, u43, u44, u45, u46, u47, u48, u49, u50, u51, u52, u53, u54, u55, u56, u57, u58, u59, u60, u61, u62, u63, u64, u65, u66, u67, u68, u69, u70, u71, u72, u73, u74], defers := [] } ∧
    Hid (C5S w wr A0 A1 c0 c1 l0 l1 B1 B2 k1 g1 k2 g2 bo m co lo) ∧ Hid (CM (cms l0) (cms l1) n (restS l0 k1 g1) (restS l1 k2 g2) lo)
def CTwoPost (w : World) (r1 : List S49) (r2 : Int) (e : Ending) (w' : World) : Prop := ∃ v0_ : Value, e = .returned (.tuple #[v0_, .int .i64 r2]) ∧ Kd.R k49 49 w' w.heap.size (fun _ => True) v0_ r1 ∧ Below w.heap.size w w'
attribute [local go_sem high] max_ints min_ints
set_option maxRecDepth 100000 in
set_option maxHeartbeats 1000000 in
theorem ctwo_bad (A0 A1 : Option Addr) (c0 c1 : Nat) (l0 l1 : List (S49)) (w : World) (hr0 : Kd.C k49 w A0 l0.length l0) (hc0 : l0.length ≤ c0) (hr1 : Kd.C k49 w A1 l1.length l1) (hc1 : l1.length ≤ c1) (hg : good2 (cms l0) (cms l1) = true) (hs : ¬ inC (cms l1) = outC (cms l0)) :
    Calls Try.prog 14 #[.slice A0 l0.length c0, .slice A1 l1.length c1] w (CTwoPost w [] 7) := by
  obtain ⟨hv0, hv1, hb⟩ := good2_iff.1 hg
  have hg0 : good (cms l0) = true := good_iff.2 ⟨hv0, by omega⟩
  have hg1 : good (cms l1) = true := good_iff.2 ⟨hv1, by omega⟩
  have t1 : ((inC (cms l1) : Int) != (outC (cms l0) : Int)) = true := by rw [bne_iff_ne]; omega
  have HIN : Hid (op_In.f l1 = some ((inC (cms l1) : Nat) : Int)) := Go.Cx.hid (by unfold op_In.f; rw [if_pos hg1])
  have HOUT : Hid (op_Out.f l0 = some ((outC (cms l0) : Nat) : Int)) := Go.Cx.hid (by unfold op_Out.f; rw [if_pos hg0])
  have HR0 := Go.Cx.hid hr0
  have HR1 := Go.Cx.hid hr1
  have HC0 := Go.Cx.hid hc0
  have HC1 := Go.Cx.hid hc1
  clear hr0 hr1 hg hs hc0 hc1 hv0 hv1 hb hg0 hg1
  go_enter Try.func14, Try.ntmps14
  go_wp2
  refine wp_scope_straight ?_
  go_wp2_with (first
      | (go_at_call 24; refine (op_In.calls A1 c1 l1 _ _ HR1.out HC1.out HIN.out).mono ?_; rintro e w1 ⟨rfl, hb⟩; have E1 := Go.Cx.hid (Ch.of_below hb); clear hb)
      | (go_at_call 25; refine (op_Out.calls A0 c0 l0 _ _ (Kd.C_below HR0.out E1.out.below0) HC0.out HOUT.out).mono ?_; rintro e w2 ⟨rfl, hb⟩; have E2 := Go.Cx.hid (E1.out.f (Ch.of_below hb)); clear hb))
  rw [Exit.noGoto_ret]
  go_ret2
  exact ⟨_, rfl, Kd.R_nil _ _ _ _ _, E2.out.below0⟩
theorem form3 {w : World} {base : Nat} {ok : Nat → Prop} {v : Value} {l : List S49} (h : Kd.R k49 49 w base ok v l) : ∃ a c, v = .slice a l.length c := by
  obtain ⟨inner, hi⟩ := Kd.R_own h
  obtain ⟨a, c, e⟩ := own_form hi
  subst e
  exact ⟨a, c, rfl⟩
set_option maxRecDepth 100000 in
set_option maxHeartbeats 4000000 in
theorem ctwo_any (A0 A1 : Option Addr) (c0 c1 : Nat) (l0 l1 : List (S49)) (w : World) (hr0 : Kd.C k49 w A0 l0.length l0) (hc0 : l0.length ≤ c0) (hr1 : Kd.C k49 w A1 l1.length l1) (hc1 : l1.length ≤ c1) (hg : good2 (cms l0) (cms l1) = true) (hs : inC (cms l1) = outC (cms l0)) :
    Calls Try.prog 14 #[.slice A0 l0.length c0, .slice A1 l1.length c1] w (CTwoPost w (scs (nf (comp (at_ (cms l0)) (at_ (cms l1))))) 0) := by
  obtain ⟨hv0, hv1, hb⟩ := good2_iff.1 hg
  have hg0 : good (cms l0) = true := good_iff.2 ⟨hv0, by omega⟩
  have hg1 : good (cms l1) = true := good_iff.2 ⟨hv1, by omega⟩
  have t1 : ((inC (cms l1) : Int) != (outC (cms l0) : Int)) = false := bne_eq_false_iff_eq.2 (by rw [hs])
  have HIN : Hid (op_In.f l1 = some ((inC (cms l1) : Nat) : Int)) := Go.Cx.hid (by unfold op_In.f; rw [if_pos hg1])
  have HOUT : Hid (op_Out.f l0 = some ((outC (cms l0) : Nat) : Int)) := Go.Cx.hid (by unfold op_Out.f; rw [if_pos hg0])
  have HR0 := Go.Cx.hid hr0
  have HR1 := Go.Cx.hid hr1
  have HV0 := Go.Cx.hid hv0
  have HV1 := Go.Cx.hid hv1
  have HS := Go.Cx.hid hs
  have HBD := Go.Cx.hid hb
  have HC0 := Go.Cx.hid hc0
  have HC1 := Go.Cx.hid hc1
  have hl0 := good_len hg0
  have hl1 := good_len hg1
  have hz0 : (at_ (cms l0)).length ≤ 50000 := by have := at_len (at_ (cms l0)); unfold inC outC at hb; omega
  have hz1 : (at_ (cms l1)).length ≤ 50000 := by have := at_len (at_ (cms l1)); unfold inC outC at hb; omega
  have HZ0 : Hid (∀ (k : Nat) (h : k < l0.length), csz (cm l0[k]) ≤ 50000) := Go.Cx.hid (fun k h => csz_le hv0 hz0 h)
  have HZ1 : Hid (∀ (k : Nat) (h : k < l1.length), csz (cm l1[k]) ≤ 50000) := Go.Cx.hid (fun k h => csz_le hv1 hz1 h)
  clear hr0 hr1 hg hs hc0 hc1 hv0 hv1 hb hg0 hg1 hz0 hz1
  go_enter Try.func14, Try.ntmps14
  go_wp2
  refine wp_scope_ghost 0 (CJ w A0 A1 c0 c1 l0 l1) rfl ?pass ?first
  case first =>
    intro PASS
    have HP := Go.Cx.hid PASS
    clear PASS
    go_wp2_with (first
      | (go_at_call 24; refine (op_In.calls A1 c1 l1 _ _ HR1.out HC1.out HIN.out).mono ?_; rintro e w1 ⟨rfl, hb⟩; have E1 := Go.Cx.hid (Ch.of_below hb); clear hb)
      | (go_at_call 25; refine (op_Out.calls A0 c0 l0 _ _ (Kd.C_below HR0.out E1.out.below0) HC0.out HOUT.out).mono ?_; rintro e w2 ⟨rfl, hb⟩; have E2 := Go.Cx.hid (E1.out.f (Ch.of_below hb)); clear hb)
      | ((with_reducible refine gate_dst (N := 19) rfl ?_); refine box_event ?hg (N := 19) ?hd (cs := #[.slice A0 l0.length c0, .complex .f64 0 0]) (t := 55) ?hr ?_; (case hd => rfl); (case hg => rfl); (case hr => first | (go_simp; done) | (go_simp; rfl)); intro B1 hgq w3 hbox hb; have hb := Ch.of_below hb; have E3 := Go.Cx.hid (E2.out.f hb); have HB1 := Go.Cx.hid hbox; have GB1 : w.heap.size ≤ B1 := (by rw [hgq]; exact E2.out.size); clear hbox hgq hb)
      | ((with_reducible refine gate_dst (N := 22) rfl ?_); refine box_event ?hg (N := 22) ?hd (cs := #[.slice A1 l1.length c1, .complex .f64 0 0]) (t := 55) ?hr ?_; (case hd => rfl); (case hg => rfl); (case hr => first | (go_simp; done) | (go_simp; rfl)); intro B2 hgq w4 hbox hb; have hb := Ch.of_below hb; have E4 := Go.Cx.hid (E3.out.f hb); have HB2 := Go.Cx.hid hbox; have GB2 : w.heap.size ≤ B2 := (by rw [hgq]; exact E3.out.size); have HB1n := Go.Cx.hid (hb.heap HB1.out id); have NB : B1 ≠ B2 := (by have := lt_of_block HB1.out; have e : B2 = w3.heap.size := hgq; omega); clear hbox hgq hb))
    refine wp_label ?_
    simp only [Exit.then]
    refine (show ∀ (a : Act) (w : World), Code.wp Try.prog _ _ a w → _ from by assumption) _ _ ?_
    have hb1 : w4.heap[B1]? = some (.cells #[.slice A0 l0.length c0, .complex .f64 (fl ((0 : Nat) : Int)) (fl ((0 : Nat) : Int))] 55 (0, 0)) := by rw [Int.natCast_zero, fl_zero]; exact HB1n.out
    have hb2 : w4.heap[B2]? = some (.cells #[.slice A1 l1.length c1, .complex .f64 (fl ((0 : Nat) : Int)) (fl ((0 : Nat) : Int))] 55 (0, 0)) := by rw [Int.natCast_zero, fl_zero]; exact HB2.out
    have hra : restS l0 0 0 = cms l0 := by unfold restS; rw [rest_next HV0.out]; rfl
    have hrb : restS l1 0 0 = cms l1 := by unfold restS; rw [rest_next HV1.out]; rfl
    refine HP.out ((at_ (cms l0)).length + (at_ (cms l1)).length) _ _ ⟨B1, B2, 0, 0, 0, 0, none, 0, 0, [], _, _, _, _, _, _, _, _, _, _, _, _, _, _, _, _, _, _, _, _, _, _, _, _, _, _, _, _, _, _, _, _, _, _, _, _, _, _, _, _, _, _, _, _, _, _, _, _, _, _, _, _, _, _, _, _, _, _, _, _, _, _, _, _, _, _, _, _, _, _, rfl, Go.Cx.hid ⟨⟨hb1, Kd.C_below HR0.out E4.out.below0, HV0.out, by omega, by omega, fun h => csz_pos (HV0.out _ (List.mem_map.2 ⟨_, List.getElem_mem h, rfl⟩))⟩, ⟨hb2, Kd.C_below HR1.out E4.out.below0, HV1.out, by omega, by omega, fun h => csz_pos (HV1.out _ (List.mem_map.2 ⟨_, List.getElem_mem h, rfl⟩))⟩, Own.nil _ _ _ _, rfl, NB, GB1, GB2, (fun _ h => by cases h), by omega, by omega, E4.out.below0⟩, Go.Cx.hid ?_⟩
    rw [hra, hrb]
    refine ⟨HV0.out, HV1.out, Vl.nil, ?_, by simp [cms], rfl, ?_⟩
    · have := HS.out; unfold inC outC at this; omega
    · have := HBD.out
      have h1 := at_len (at_ (cms l0))
      have h2 := at_len (at_ (cms l1))
      unfold inC outC at this; simp; omega
  case pass =>
    rintro n a' wr ⟨B1, B2, k1, g1, k2, g2, bo, m, co, lo, u2, u3, u4, u5, u9, u10, u11, u12, u13, u14, u15, u16, u17, u18, u19, u20, u21, u22, u23, u24, u25, u26, u27, u28, u29, u30, u31, u32, u33, u34, u35, u36, u37, u38, u39, u40, u41, u42, u43, u44, u45, u46, u47, u48, u49, u50, u51, u52, u53, u54, u55, u56, u57, u58, u59, u60, u61, u62, u63, u64, u65, u66, u67, u68, u69, u70, u71, u72, u73, u74, rfl, HS5, HM5⟩
    have hm5 := HS5.out.len
    have hml := HM5.out.len
    have hsz : m + 1 ≤ maxLen := by unfold maxLen; omega
    have hsz2 : (m + 1) * 32 ≤ 140737488355328 := by omega
    have BS := Go.Cx.hid HS5.out.below.size
    have hka := HS5.out.ka
    have hkb := HS5.out.kb
    obtain ⟨p0, p1, p2, hp⟩ : ∃ p0 p1 p2, (⟨p0, p1, p2⟩ : S49) = ptS l0 k1 g1 := ⟨_, _, _, rfl⟩
    obtain ⟨q0, q1, q2, hq⟩ : ∃ p0 p1 p2, (⟨p0, p1, p2⟩ : S49) = ptS l1 k2 g2 := ⟨_, _, _, rfl⟩
    have HPA := Go.Cx.hid (part_any HS5.out.ca (fun h => by have := HZ0.out _ h; omega) hp)
    have HPB := Go.Cx.hid (fun (w' : World) (hc : Ch (fun _ => False) wr w') => part_any (HS5.out.cb.ch hc id (Kd.C_below HS5.out.cb.row hc.below0)) (fun h => by have := HZ1.out _ h; omega) hq)
    have HPP := Go.Cx.hid hp
    have HQQ := Go.Cx.hid hq
    have HLM := Go.Cx.hid hm5
    have HML := Go.Cx.hid hml
    clear hp hq hm5 hml
    go_upto_region 8 with (first
      | (go_at_call 26; refine HPA.out.mono ?_; clear HPA; rintro e w1 ⟨rfl, hb⟩; have E1 := Go.Cx.hid hb; clear hb)
      | (go_at_call 26; refine (HPB.out _ E1.out).mono ?_; clear HPB; rintro e w2 ⟨rfl, hb⟩; have E2 := Go.Cx.hid (E1.out.f hb); clear hb)
      | ((with_reducible refine gate_dst (N := 9) rfl ?_); refine box_event ?hg (N := 9) ?hd (cs := #[.int .i64 0, .int .i64 0, .string ⟨#[]⟩]) (t := 49) ?hr ?_; (case hd => rfl); (case hg => rfl); (case hr => first | (go_simp; done) | (go_simp; rfl)); intro g9 hgq w3 hbox hb; have hb := Ch.of_below hb; have E3 := Go.Cx.hid (E2.out.f hb); have BG9 := Go.Cx.hid hbox; have GE9 : wr.heap.size ≤ g9 := (by rw [hgq]; exact E2.out.size); clear hbox hgq hb)
      | ((with_reducible refine gate_dst (N := 10) rfl ?_); refine box_event ?hg (N := 10) ?hd (cs := #[.int .i64 0, .int .i64 0, .string ⟨#[]⟩]) (t := 49) ?hr ?_; (case hd => rfl); (case hg => rfl); (case hr => first | (go_simp; done) | (go_simp; rfl)); intro g10 hgq w4 hbox hb; have hb := Ch.of_below hb; have E4 := Go.Cx.hid (E3.out.f hb); have BG10 := Go.Cx.hid hbox; have BG9n := Go.Cx.hid (hb.heap BG9.out id); have GE10 : wr.heap.size ≤ g10 := (by rw [hgq]; exact E3.out.size); have NE : g9 ≠ g10 := (by have := lt_of_block BG9.out; have e : g10 = w3.heap.size := hgq; omega); have NEs := NE.symm; have z90 : w4.cell? ⟨g9, 0, none⟩ = some (.int .i64 0) := (blk_cell BG9n.out 0).trans rfl; have z91 : w4.cell? ⟨g9, 1, none⟩ = some (.int .i64 0) := (blk_cell BG9n.out 1).trans rfl; have z92 : w4.cell? ⟨g9, 2, none⟩ = some (.string ⟨#[]⟩) := (blk_cell BG9n.out 2).trans rfl; have z9f := blk_frozen BG9n.out; have z100 : w4.cell? ⟨g10, 0, none⟩ = some (.int .i64 0) := (blk_cell BG10.out 0).trans rfl; have z101 : w4.cell? ⟨g10, 1, none⟩ = some (.int .i64 0) := (blk_cell BG10.out 1).trans rfl; have z102 : w4.cell? ⟨g10, 2, none⟩ = some (.string ⟨#[]⟩) := (blk_cell BG10.out 2).trans rfl; have z10f := blk_frozen BG10.out; clear hbox hgq hb))
    have E5 : Hid (Ch (fun _ => False) wr ((((((w4.setCell ⟨g9, 0, none⟩ (.int .i64 p0)).setCell ⟨g9, 1, none⟩ (.int .i64 p1)).setCell ⟨g9, 2, none⟩ (.string p2)).setCell ⟨g10, 0, none⟩ (.int .i64 q0)).setCell ⟨g10, 1, none⟩ (.int .i64 q1)).setCell ⟨g10, 2, none⟩ (.string q2))) := Go.Cx.hid (chn3 (chn3 E4.out GE9 0 1 2 _ _ _) GE10 0 1 2 _ _ _)
    have BP : Hid (((((((w4.setCell ⟨g9, 0, none⟩ (.int .i64 p0)).setCell ⟨g9, 1, none⟩ (.int .i64 p1)).setCell ⟨g9, 2, none⟩ (.string p2)).setCell ⟨g10, 0, none⟩ (.int .i64 q0)).setCell ⟨g10, 1, none⟩ (.int .i64 q1)).setCell ⟨g10, 2, none⟩ (.string q2)).heap[g9]? = some (.cells #[.int .i64 p0, .int .i64 p1, .string p2] 49 (0, 0))) := Go.Cx.hid ((far3 _ NE _ _ _ _ _ _).trans (put3 BG9n.out _ _ _))
    have BQ : Hid (((((((w4.setCell ⟨g9, 0, none⟩ (.int .i64 p0)).setCell ⟨g9, 1, none⟩ (.int .i64 p1)).setCell ⟨g9, 2, none⟩ (.string p2)).setCell ⟨g10, 0, none⟩ (.int .i64 q0)).setCell ⟨g10, 1, none⟩ (.int .i64 q1)).setCell ⟨g10, 2, none⟩ (.string q2)).heap[g10]? = some (.cells #[.int .i64 q0, .int .i64 q1, .string q2] 49 (0, 0))) := Go.Cx.hid (put3 ((far3 _ NE.symm _ _ _ _ _ _).trans BG10.out) _ _ _)
    generalize ((((((w4.setCell ⟨g9, 0, none⟩ (.int .i64 p0)).setCell ⟨g9, 1, none⟩ (.int .i64 p1)).setCell ⟨g9, 2, none⟩ (.string p2)).setCell ⟨g10, 0, none⟩ (.int .i64 q0)).setCell ⟨g10, 1, none⟩ (.int .i64 q1)).setCell ⟨g10, 2, none⟩ (.string q2)) = w5 at E5 BP BQ ⊢
    clear z90 z91 z92 z9f z100 z101 z102 z10f BG9 BG9n BG10 E4 E3
    have pc0 : w5.cell? ⟨g9, 0, none⟩ = some (.int .i64 p0) := (blk_cell BP.out 0).trans rfl
    have pc1 : w5.cell? ⟨g9, 1, none⟩ = some (.int .i64 p1) := (blk_cell BP.out 1).trans rfl
    have pc2 : w5.cell? ⟨g9, 2, none⟩ = some (.string p2) := (blk_cell BP.out 2).trans rfl
    have qc0 : w5.cell? ⟨g10, 0, none⟩ = some (.int .i64 q0) := (blk_cell BQ.out 0).trans rfl
    have qc1 : w5.cell? ⟨g10, 1, none⟩ = some (.int .i64 q1) := (blk_cell BQ.out 1).trans rfl
    have qc2 : w5.cell? ⟨g10, 2, none⟩ = some (.string q2) := (blk_cell BQ.out 2).trans rfl
    have qc00 := qc0
    have qc10 := qc1
    have qc20 := qc2
    have CA := Go.Cx.hid (HS5.out.ca.ch E5.out id (Kd.C_below HS5.out.ca.row E5.out.below0))
    have CB := Go.Cx.hid (HS5.out.cb.ch E5.out id (Kd.C_below HS5.out.cb.row E5.out.below0))
    have HO5 := Go.Cx.hid (HS5.out.own.f E5.out)
    have SZ5 := Go.Cx.hid E5.out.size
    have LB1 := lt_of_block HS5.out.ca.blk
    have LB2 := lt_of_block HS5.out.cb.blk
    have NP9 : ¬ g9 = B1 := by omega
    have NQ9 : ¬ g9 = B2 := by omega
    have NP10 : ¬ g10 = B1 := by omega
    have NQ10 : ¬ g10 = B2 := by omega
    clear LB1 LB2 NE NEs
    by_cases hA : k1 < l0.length ∧ p0 = 3
    · obtain ⟨hk, hp3⟩ := hA
      have hpe : (⟨p0, p1, p2⟩ : S49) = sc (bk g1 (cm l0[k1])) := by rw [HPP.out, ptS_at hk]
      have hbo := bk_ok (HS5.out.ca.ok hk) (HS5.out.ca.gin hk)
      have HZ := HZ0.out _ hk
      have hk3 : (bk g1 (cm l0[k1])).k = 3 := by rw [← hp3]; exact (congrArg S49.f0 hpe).symm
      have hst := CStep.cut (bk g1 (cm l0[k1])) ((cms l0).drop (k1 + 1)) (restS l1 k2 g2) hk3
      rw [← rest_atS hk] at hst
      have hbo1 := hbo.1
      obtain ⟨L, hL⟩ : ∃ L, L = csz (bk g1 (cm l0[k1])) := ⟨_, rfl⟩
      have hL1 : 1 ≤ L := by rw [hL]; exact csz_pos hbo1
      have hp1 : p1 = (L : Int) := by
        have e := congrArg S49.f1 hpe
        rw [hL]
        rcases Cm.cases hbo1 with ⟨x, hx, e2⟩ | ⟨x, hx, e2⟩ | ⟨x, hx, e2⟩
        · rw [e2] at hk3; cases hk3
        · rw [e2] at hk3; cases hk3
        · rw [e2] at e ⊢; simpa [sc, csz] using e
      have hfr : (⟨p0, p1, p2⟩ : S49) = sc (fr L (bk g1 (cm l0[k1]))) := by rw [hL, (fr_whole hbo1 (Nat.le_refl _)).1]; exact hpe
      have HT := Go.Cx.hid (take_any CA.out (fun h => by have := HZ0.out _ h; omega) (by omega) hk hL1 (by rw [hL]; exact Nat.le_refl _) hfr)
      have hgo := rest_goS (m := L) HS5.out.ca hk
      have hbk : bks L (bk g1 (cm l0[k1])) ((cms l0).drop (k1 + 1)) = (cms l0).drop (k1 + 1) := by unfold bks; rw [if_neg (by omega)]
      rw [hbk] at hgo
      rw [← hgo] at hst
      have ho : cms [(⟨p0, p1, p2⟩ : S49)] = [bk g1 (cm l0[k1])] := by simp only [cms, List.map_cons, List.map_nil, hpe, cm_sc]
      rw [← ho] at hst
      have HST := Go.Cx.hid hst
      have HNX := Go.Cx.hid (fun (w' : World) hc hr => cur_next (w' := w') (m := L) CA.out (fun h => by have := HZ0.out _ h; omega) hk (by omega) hc hr)
      have hnk : nextK (cms l0) k1 g1 L ≤ l0.length := by unfold nextK; split <;> (first | omega | (split <;> omega))
      subst hp1
      subst hp3
      clear hst ho hbk hgo hfr hpe hk3 hbo hbo1 HZ hL
      go_wp2_with (first
        | (go_at_call 27; refine HT.out.mono ?_; rintro e w6 ⟨rfl, hc, hbk⟩; have C6 := Go.Cx.hid hc; have K6 := Go.Cx.hid hbk; have pc0 := hc.cell pc0 NP9; have pc1 := hc.cell pc1 NP9; have pc2 := hc.cell pc2 NP9; clear hc hbk)
        | (at_builtin; refine wpList_app rfl _ _ _ _ rfl w.heap.size 49 3 32 _ et_comp bo m co _ rfl ((HO5.out.ch C6.out (fun b hb hk => (HS5.out.no b hb).1 hk)).f ((Ch.refl (fun _ => False) _).alloc _)) _ 1 _ rfl (src3 _ ⟨3, (L : Int), p2⟩ _ rfl) hsz hsz2 (by have := BS.out; have := SZ5.out; have := C6.out.size; simp; omega) ?_; intro a3 c3 w7 hO hS hC hN; have HO7 := Go.Cx.hid hO; have HC7 := Go.Cx.hid hC; have HN7 := Go.Cx.hid hN; clear hO hS hC hN))
      obtain ⟨n', hn', hM'⟩ := HM5.out.step HST.out
      have BB6 := ((Ch.of_below HS5.out.below).f E5.out).far1 C6.out HS5.out.la
      refine wp_goto ?_
      exact ⟨by trivial, n', hn', B1, B2, nextK (cms l0) k1 g1 L, nextG (cms l0) k1 g1 L, k2, g2, a3, m + 1, c3, _, _, _, _, _, _, _, _, _, _, _, _, _, _, _, _, _, _, _, _, _, _, _, _, _, _, _, _, _, _, _, _, _, _, _, _, _, _, _, _, _, _, _, _, _, _, _, _, _, _, _, _, _, _, _, _, _, _, _, _, _, _, _, _, _, _, _, _, _, _, _, rfl, Go.Cx.hid (HS5.out.put HR0.out HR1.out ((HNX.out _ K6.out (Kd.C_below HR0.out BB6.below0)).ch ((Ch.refl (fun _ => False) _).alloc _) id (Kd.C_below HR0.out (BB6.alloc _).below0)) ((CB.out.ch C6.out (fun e => HS5.out.ne e.symm) (Kd.C_below HR1.out BB6.below0)).ch ((Ch.refl (fun _ => False) _).alloc _) id (Kd.C_below HR1.out (BB6.alloc _).below0)) hnk hkb (((Ch.weaken (T := fun i => i = B1 ∨ i = B2) E5.out (fun _ _ h => h.elim)).trans C6.out (fun i _ e => .inl e)).alloc _) HC7.out rfl (by simpa [encs3] using HO7.out) HN7.out), Go.Cx.hid hM'⟩
    have hA1 : k1 < l0.length → p0 ≠ 3 := fun h e => hA ⟨h, e⟩
    clear hA
    have tp : (p0 == 3) = false := by
      rcases Nat.lt_or_ge k1 l0.length with h | h
      · exact beq_eq_false_iff_ne.2 (hA1 h)
      · have := HPP.out; rw [ptS_end h] at this; simp only [S49.mk.injEq] at this; rw [this.1]; rfl
    have hAk : ∀ d l, restS l0 k1 g1 = d :: l → d.k ≠ 3 := by
      intro d l e
      rcases Nat.lt_or_ge k1 l0.length with h | h
      · rw [rest_atS h] at e
        have e2 := (List.cons.inj e).1
        rw [← e2]
        have := HPP.out; rw [ptS_at h] at this
        have h3 := congrArg S49.f0 this
        have h4 := hA1 h
        intro h5; exact h4 (h3.trans h5)
      · rw [rest_endS h] at e; cases e
    by_cases hB : k2 < l1.length ∧ q0 = 2
    · obtain ⟨hk, hq2⟩ := hB
      have hqe : (⟨q0, q1, q2⟩ : S49) = sc (bk g2 (cm l1[k2])) := by rw [HQQ.out, ptS_at hk]
      have hbo := bk_ok (HS5.out.cb.ok hk) (HS5.out.cb.gin hk)
      have HZ := HZ1.out _ hk
      have hk3 : (bk g2 (cm l1[k2])).k = 2 := by rw [← hq2]; exact (congrArg S49.f0 hqe).symm
      have hst := CStep.put (restS l0 k1 g1) (bk g2 (cm l1[k2])) ((cms l1).drop (k2 + 1)) hk3 hAk
      rw [← rest_atS hk] at hst
      have hbo1 := hbo.1
      obtain ⟨L, hL⟩ : ∃ L, L = csz (bk g2 (cm l1[k2])) := ⟨_, rfl⟩
      have hL1 : 1 ≤ L := by rw [hL]; exact csz_pos hbo1
      obtain ⟨s, hs, hsl⟩ : ∃ s, q2 = str s ∧ s.length = L := by
        have e := congrArg S49.f2 hqe
        rcases Cm.cases hbo1 with ⟨x, hx, e2⟩ | ⟨x, hx, e2⟩ | ⟨x, hx, e2⟩
        · rw [e2] at hk3; cases hk3
        · rw [e2] at e; exact ⟨x, by simpa [sc, str] using e, by rw [hL, e2]; simp [csz]⟩
        · rw [e2] at hk3; cases hk3
      have hfr : (⟨q0, q1, q2⟩ : S49) = sc (fr L (bk g2 (cm l1[k2]))) := by rw [hL, (fr_whole hbo1 (Nat.le_refl _)).1]; exact hqe
      have HT := Go.Cx.hid (take_any CB.out (fun h => by have := HZ1.out _ h; omega) (by omega) hk hL1 (by rw [hL]; exact Nat.le_refl _) hfr)
      have hgo := rest_goS (m := L) HS5.out.cb hk
      have hbk : bks L (bk g2 (cm l1[k2])) ((cms l1).drop (k2 + 1)) = (cms l1).drop (k2 + 1) := by unfold bks; rw [if_neg (by omega)]
      rw [hbk] at hgo
      rw [← hgo] at hst
      have ho : cms [(⟨q0, q1, q2⟩ : S49)] = [bk g2 (cm l1[k2])] := by simp only [cms, List.map_cons, List.map_nil, hqe, cm_sc]
      rw [← ho] at hst
      have HST := Go.Cx.hid hst
      have HNX := Go.Cx.hid (fun (w' : World) hc hr => cur_next (w' := w') (m := L) CB.out (fun h => by have := HZ1.out _ h; omega) hk (by omega) hc hr)
      have hnk : nextK (cms l1) k2 g2 L ≤ l1.length := by unfold nextK; split <;> (first | omega | (split <;> omega))
      subst hq2
      subst hs
      clear hst ho hbk hgo hfr hqe hk3 hbo hbo1 HZ hL hAk hA1
      go_wp2_with (first
        | (go_at_call 27; (try rw [hsl]); refine HT.out.mono ?_; rintro e w6 ⟨rfl, hc, hbk⟩; have C6 := Go.Cx.hid hc; have K6 := Go.Cx.hid hbk; clear hc hbk)
        | (at_builtin; refine wpList_app rfl _ _ _ _ rfl w.heap.size 49 3 32 _ et_comp bo m co _ rfl ((HO5.out.ch C6.out (fun b hb hk => (HS5.out.no b hb).2 hk)).f ((Ch.refl (fun _ => False) _).alloc _)) _ 1 _ rfl (src3 _ ⟨2, q1, str s⟩ _ rfl) hsz hsz2 (by have := BS.out; have := SZ5.out; have := C6.out.size; simp; omega) ?_; intro a3 c3 w7 hO hS hC hN; have HO7 := Go.Cx.hid hO; have HC7 := Go.Cx.hid hC; have HN7 := Go.Cx.hid hN; clear hO hS hC hN))
      obtain ⟨n', hn', hM'⟩ := HM5.out.step HST.out
      have BB6 := ((Ch.of_below HS5.out.below).f E5.out).far1 C6.out HS5.out.lb
      refine wp_goto ?_
      exact ⟨by trivial, n', hn', B1, B2, k1, g1, nextK (cms l1) k2 g2 L, nextG (cms l1) k2 g2 L, a3, m + 1, c3, _, _, _, _, _, _, _, _, _, _, _, _, _, _, _, _, _, _, _, _, _, _, _, _, _, _, _, _, _, _, _, _, _, _, _, _, _, _, _, _, _, _, _, _, _, _, _, _, _, _, _, _, _, _, _, _, _, _, _, _, _, _, _, _, _, _, _, _, _, _, _, rfl, Go.Cx.hid (HS5.out.put HR0.out HR1.out ((CA.out.ch C6.out (fun e => HS5.out.ne e) (Kd.C_below HR0.out BB6.below0)).ch ((Ch.refl (fun _ => False) _).alloc _) id (Kd.C_below HR0.out (BB6.alloc _).below0)) ((HNX.out _ K6.out (Kd.C_below HR1.out BB6.below0)).ch ((Ch.refl (fun _ => False) _).alloc _) id (Kd.C_below HR1.out (BB6.alloc _).below0)) hka hnk (((Ch.weaken (T := fun i => i = B1 ∨ i = B2) E5.out (fun _ _ h => h.elim)).trans C6.out (fun i _ e => .inr e)).alloc _) HC7.out rfl (by simpa [encs3] using HO7.out) HN7.out), Go.Cx.hid hM'⟩
    have hB1 : k2 < l1.length → q0 ≠ 2 := fun h e => hB ⟨h, e⟩
    clear hB
    have tq : (q0 == 2) = false := by
      rcases Nat.lt_or_ge k2 l1.length with h | h
      · exact beq_eq_false_iff_ne.2 (hB1 h)
      · have := HQQ.out; rw [ptS_end h] at this; simp only [S49.mk.injEq] at this; rw [this.1]; rfl
    have hBk : ∀ d l, restS l1 k2 g2 = d :: l → d.k ≠ 2 := by
      intro d l e
      rcases Nat.lt_or_ge k2 l1.length with h | h
      · rw [rest_atS h] at e
        have e2 := (List.cons.inj e).1
        rw [← e2]
        have := HQQ.out; rw [ptS_at h] at this
        have h3 := congrArg S49.f0 this
        have h4 := hB1 h
        intro h5; exact h4 (h3.trans h5)
      · rw [rest_endS h] at e; cases e
    by_cases hD : l0.length ≤ k1 ∨ l1.length ≤ k2
    · have hh := cstep_end HM5.out.va HM5.out.vb HM5.out.fits hAk hBk (by rcases hD with h | h; exact .inl (rest_endS h); exact .inr (rest_endS h))
      have hk1 : l0.length ≤ k1 := by
        rcases Nat.lt_or_ge k1 l0.length with h | h
        · rw [rest_atS h] at hh; cases hh.1
        · exact h
      have hk2 : l1.length ≤ k2 := by
        rcases Nat.lt_or_ge k2 l1.length with h | h
        · rw [rest_atS h] at hh; cases hh.2
        · exact h
      have hp := HPP.out
      rw [ptS_end hk1] at hp
      simp only [S49.mk.injEq] at hp
      obtain ⟨rfl, rfl, rfl⟩ := hp
      have hsum : at_ (cms lo) = comp (at_ (cms l0)) (at_ (cms l1)) := by have := HM5.out.sum; rw [hh.1, hh.2] at this; simpa [comp] using this
      have hio : outs (at_ (cms l0)) = ins (at_ (cms l1)) := by have := HS.out; unfold inC outC at this; omega
      have hgo : good (cms lo) = true := good_iff.2 ⟨HM5.out.vo, by
        have h1 := ins_comp _ _ hio
        have h2 := outs_comp _ _ hio
        have := HBD.out
        unfold inC outC at *; rw [hsum, h1, h2]; omega⟩
      have hnf := normal_eq lo hgo (lo.length + 1) (by omega)
      rw [hsum] at hnf
      have hrd := (Kd.R_reads' (own3 HLM.out HO5.out)).2.2
      have HNF := Go.Cx.hid hnf
      have HRD := Go.Cx.hid hrd
      have HMC := Go.Cx.hid HO5.out.sl.2.1
      clear hh hsum hio hgo hnf hrd hAk hBk hA1 hB1 hD
      go_wp2_with (first
        | (go_at_call 28; refine (long_none _).mono ?_; rintro e w6 ⟨rfl, hc⟩; have C6 := Go.Cx.hid hc; clear hc)
        | (go_at_call 29; rw [HLM.out]; refine (op_Normal.calls _ bo co lo _ _ (Kd.C_below HRD.out C6.out.below0) (by rw [← HLM.out]; exact HMC.out) HNF.out).mono ?_; rintro e w7 ⟨v0, rfl, ho, hb⟩; have HV0 := Go.Cx.hid ho; have HB1 := Go.Cx.hid hb; clear ho hb))
      simp only [Exit.jump]
      go_ret2
      exact ⟨v0, rfl, Kd.R_lower HV0.out (Nat.le_trans BS.out (Nat.le_trans SZ5.out C6.out.size)), ((Ch.of_below HS5.out.below).f E5.out |>.f C6.out |>.f (Ch.of_below HB1.out)).below0⟩
    have hk1 : k1 < l0.length := by omega
    have hk2 : k2 < l1.length := by omega
    have hpe : (⟨p0, p1, p2⟩ : S49) = sc (bk g1 (cm l0[k1])) := by rw [HPP.out, ptS_at hk1]
    have hqe : (⟨q0, q1, q2⟩ : S49) = sc (bk g2 (cm l1[k2])) := by rw [HQQ.out, ptS_at hk2]
    have hbo1 := (bk_ok (HS5.out.ca.ok hk1) (HS5.out.ca.gin hk1)).1
    have hbo2 := (bk_ok (HS5.out.cb.ok hk2) (HS5.out.cb.gin hk2)).1
    have hZ1 : csz (bk g1 (cm l0[k1])) ≤ 50000 := by have := HZ0.out _ hk1; rw [csz_bk (HS5.out.ca.ok hk1)]; omega
    have hZ2 : csz (bk g2 (cm l1[k2])) ≤ 50000 := by have := HZ1.out _ hk2; rw [csz_bk (HS5.out.cb.ok hk2)]; omega
    have hst := CStep.both (bk g1 (cm l0[k1])) ((cms l0).drop (k1 + 1)) (bk g2 (cm l1[k2])) ((cms l1).drop (k2 + 1)) (hAk _ _ (rest_atS hk1)) (hBk _ _ (rest_atS hk2))
    rw [← rest_atS hk1, ← rest_atS hk2] at hst
    obtain ⟨L1, hL1⟩ : ∃ L, L = csz (bk g1 (cm l0[k1])) := ⟨_, rfl⟩
    obtain ⟨L2, hL2⟩ : ∃ L, L = csz (bk g2 (cm l1[k2])) := ⟨_, rfl⟩
    have hp1 := csz_pos hbo1
    have hp2 := csz_pos hbo2
    rw [← hL1, ← hL2] at hst
    obtain ⟨mn, hmn⟩ : ∃ mn, mn = min L1 L2 := ⟨_, rfl⟩
    rw [← hmn] at hst
    have hmin : min (L1 : Int) (L2 : Int) = (mn : Int) := by omega
    have tL1 : ((L1 : Int) == 0) = false := beq_eq_false_iff_ne.2 (by omega)
    have tL2 : ((L2 : Int) == 0) = false := beq_eq_false_iff_ne.2 (by omega)
    obtain ⟨r0, r1, r2, hr⟩ : ∃ p0 p1 p2, (⟨p0, p1, p2⟩ : S49) = sc (fr mn (bk g1 (cm l0[k1]))) := ⟨_, _, _, rfl⟩
    obtain ⟨s0, s1, s2, hs⟩ : ∃ p0 p1 p2, (⟨p0, p1, p2⟩ : S49) = sc (fr mn (bk g2 (cm l1[k2]))) := ⟨_, _, _, rfl⟩
    obtain ⟨o, ho⟩ : ∃ o : List S49, o = if s0 = 1 then [⟨r0, r1, r2⟩] else if r0 = 1 then [⟨s0, s1, s2⟩] else [] := ⟨_, rfl⟩
    have hol : o.length ≤ 1 := by rw [ho]; split; simp; split <;> simp
    have hco : cms o = bothC (fr mn (bk g1 (cm l0[k1]))) (fr mn (bk g2 (cm l1[k2]))) := by
      have er := cm_of hr
      have es := cm_of hs
      rw [← er, ← es, ho]
      unfold bothC
      show _ = if s0 = 1 then _ else if r0 = 1 then _ else _
      split
      · rfl
      · split <;> rfl
    rw [← hco] at hst
    have hg1 := rest_goS (m := mn) HS5.out.ca hk1
    have hg2 := rest_goS (m := mn) HS5.out.cb hk2
    rw [← hg1, ← hg2] at hst
    have HLP := Go.Cx.hid (fun w' => long_any hbo1 hpe w')
    have HLQ := Go.Cx.hid (fun w' => long_any hbo2 hqe w')
    rw [← hL1] at HLP
    rw [← hL2] at HLQ
    have HLP2 := HLP
    have HLQ2 := HLQ
    have HTA := Go.Cx.hid (fun (w' : World) (hc : Ch (fun _ => False) w5 w') => take_any (CA.out.ch hc id (Kd.C_below CA.out.row hc.below0)) (fun h => by have := HZ0.out _ h; omega) (by omega) hk1 (m := mn) (by omega) (by omega) hr)
    have HTB := Go.Cx.hid (fun (w' : World) (hcur : Cur w' B2 A1 c1 l1 k2 g2) => take_any hcur (fun h => by have := HZ1.out _ h; omega) (by omega) hk2 (m := mn) (by omega) (by omega) hs)
    have HNA := Go.Cx.hid (fun (w' : World) hc hr => cur_next (w' := w') (m := mn) CA.out (fun h => by have := HZ0.out _ h; omega) hk1 (by omega) hc hr)
    have HNB := Go.Cx.hid (fun (w' : World) hc hr => cur_next (w' := w') (m := mn) CB.out (fun h => by have := HZ1.out _ h; omega) hk2 (by omega) hc hr)
    have HBO : Hid (compose_both.f r0 r1 r2 s0 s1 s2 = some o) := Go.Cx.hid (by unfold compose_both.f; rw [ho]; split; rfl; split <;> rfl)
    have hnka : nextK (cms l0) k1 g1 mn ≤ l0.length := by unfold nextK; split <;> (first | omega | (split <;> omega))
    have hnkb : nextK (cms l1) k2 g2 mn ≤ l1.length := by unfold nextK; split <;> (first | omega | (split <;> omega))
    have hso : m + o.length ≤ maxLen := by omega
    have hso2 : (m + o.length) * 32 ≤ 140737488355328 := by omega
    have HST := Go.Cx.hid hst
    clear hst hg1 hg2 hco hol ho hr hs hL1 hL2 hp1 hp2 hZ1 hZ2 hbo1 hbo2 hpe hqe hAk hBk hA1 hB1 hD hmn
    go_upto_region 6 with (first
      | (go_at_call 28; refine (HLP.out _).mono ?_; clear HLP; rintro e w6 ⟨rfl, hc⟩; have C6 := Go.Cx.hid hc; have qc0 := hc.cell qc0 id; have qc1 := hc.cell qc1 id; have qc2 := hc.cell qc2 id; clear hc)
      | (go_at_call 28; refine (HLQ.out _).mono ?_; clear HLQ; rintro e w7 ⟨rfl, hc⟩; have C7 := Go.Cx.hid (C6.out.f hc); clear hc))
    have pd0 := C7.out.cell pc0 id
    have pd1 := C7.out.cell pc1 id
    have pd2 := C7.out.cell pc2 id
    have qd0 := C7.out.cell qc00 id
    have qd1 := C7.out.cell qc10 id
    have qd2 := C7.out.cell qc20 id
    refine start_ (n := 6) (S := fun w' => w'.cell? ⟨g9, 0, none⟩ = some (.int .i64 p0) ∧ w'.cell? ⟨g9, 1, none⟩ = some (.int .i64 p1) ∧ w'.cell? ⟨g9, 2, none⟩ = some (.string p2) ∧ w'.cell? ⟨g10, 0, none⟩ = some (.int .i64 q0) ∧ w'.cell? ⟨g10, 1, none⟩ = some (.int .i64 q1) ∧ w'.cell? ⟨g10, 2, none⟩ = some (.string q2)) (ds := []) #[false, false, false, false, false, false] (by kernel_rfl) rfl rfl ⟨pd0, pd1, pd2, qd0, qd1, qd2⟩ (fun hHeld => ?_)
    refine take_ (i := 0) (N := some 27) (v := ?_) (a' := ?_) #[true, false, false, false, false, false] rfl rfl (by kernel_rfl) (fun _ _ _ h => h) (Or.inl ⟨by rfl, ?_⟩) hHeld ?_ ?_
    rotate_left
    · rintro w' ⟨s0, s1, s2, s3, s4, s5⟩
      go_simp
      with_reducible rfl
    rotate_left
    · simp only [Act.put, List.setIfInBounds_toArray, List.set_cons_zero, List.set_cons_succ, i64_w, i32_w]
      rfl
    refine take_ (i := 2) (N := some 29) (v := ?_) (a' := ?_) #[true, false, true, false, false, false] rfl rfl (by kernel_rfl) (fun _ _ _ h => h) (Or.inl ⟨by rfl, ?_⟩) hHeld ?_ ?_
    rotate_left
    · rintro w' ⟨s0, s1, s2, s3, s4, s5⟩
      go_simp
      with_reducible rfl
    rotate_left
    · simp only [Act.put, List.setIfInBounds_toArray, List.set_cons_zero, List.set_cons_succ, i64_w, i32_w]
      rfl
    refine one_ (i := 1) (N := some 28) #[true, true, true, false, false, false] rfl rfl (by kernel_rfl) (by decide) (fun K hK => ?_)
    refine goes_ Try.func28 (by kernel_rfl) rfl #[.agg #[.int .i64 p0, .int .i64 p1, .string p2]] (by rfl) rfl rfl (by simp only [List.map_toArray, List.map_cons, List.map_nil]; rfl) ?_
    with_reducible refine (HLP2.out _).mono ?_
    rintro e w8 ⟨rfl, hb⟩
    refine ⟨_, rfl, ?_⟩
    have D1 := Go.Cx.hid hb
    refine hK.out _ _ ⟨(hb.cell hHeld.1 id), (hb.cell hHeld.2.1 id), (hb.cell hHeld.2.2.1 id), (hb.cell hHeld.2.2.2.1 id), (hb.cell hHeld.2.2.2.2.1 id), (hb.cell hHeld.2.2.2.2.2 id)⟩ (fun hHeld => ?_)
    clear hK K
    refine norm_ (a' := ?_) ?_ ?_
    rotate_left
    · show Act.put _ (some 28) _ = _
      simp only [Act.put, List.setIfInBounds_toArray, List.set_cons_zero, List.set_cons_succ, i64_w, i32_w]
      rfl
    refine one_ (i := 3) (N := some 30) #[true, true, true, true, false, false] rfl rfl (by kernel_rfl) (by decide) (fun K hK => ?_)
    refine goes_ Try.func28 (by kernel_rfl) rfl #[.agg #[.int .i64 q0, .int .i64 q1, .string q2]] (by rfl) rfl rfl (by simp only [List.map_toArray, List.map_cons, List.map_nil]; rfl) ?_
    with_reducible refine (HLQ2.out _).mono ?_
    rintro e w9 ⟨rfl, hb⟩
    refine ⟨_, rfl, ?_⟩
    have D2 := Go.Cx.hid hb
    refine hK.out _ _ ⟨(hb.cell hHeld.1 id), (hb.cell hHeld.2.1 id), (hb.cell hHeld.2.2.1 id), (hb.cell hHeld.2.2.2.1 id), (hb.cell hHeld.2.2.2.2.1 id), (hb.cell hHeld.2.2.2.2.2 id)⟩ (fun hHeld => ?_)
    clear hK K
    refine norm_ (a' := ?_) ?_ ?_
    rotate_left
    · show Act.put _ (some 30) _ = _
      simp only [Act.put, List.setIfInBounds_toArray, List.set_cons_zero, List.set_cons_succ, i64_w, i32_w]
      rfl
    refine pure_ (i := 4) (N := some 31) (v := ?_) (a' := ?_) #[true, true, true, true, true, false] rfl rfl (by kernel_rfl) (fun _ _ _ h => h) (Or.inl ⟨by rfl, ?_⟩) ?_ ?_
    rotate_left
    · intro w'
      go_simp
      with_reducible rfl
    rotate_left
    · simp only [Act.put, List.setIfInBounds_toArray, List.set_cons_zero, List.set_cons_succ, i64_w, i32_w]
      rfl
    refine pure_ (i := 5) (N := some 11) (v := ?_) (a' := ?_) #[true, true, true, true, true, true] rfl rfl (by kernel_rfl) (fun _ _ _ h => h) (Or.inl ⟨by rfl, ?_⟩) ?_ ?_
    rotate_left
    · intro w'
      go_simp
      with_reducible rfl
    rotate_left
    · simp only [Act.put, List.setIfInBounds_toArray, List.set_cons_zero, List.set_cons_succ, i64_w, i32_w]
      rfl
    refine done_ (by kernel_rfl) ?_
    clear hHeld
    have E9 := Go.Cx.hid (((C7.out.drew).f D1.out).f D2.out)
    go_wp2_with (first
      | (go_at_call 27; refine (HTA.out _ E9.out).mono ?_; clear HTA; rintro e w10 ⟨rfl, hc, hbk⟩; have C10 := Go.Cx.hid hc; have K10 := Go.Cx.hid hbk; have X10 : Hid (Ch (fun i => i = B1) wr w10) := Go.Cx.hid ((Ch.weaken (T := fun i => i = B1) (E5.out.f E9.out) (fun _ _ h => h.elim)).trans hc (fun _ _ e => e)); have BB10 : Hid (Ch (fun _ => False) w w10) := Go.Cx.hid ((Ch.of_below HS5.out.below).far1 X10.out HS5.out.la); have U10 := Go.Cx.hid (HS5.out.cb.ch X10.out (fun e => HS5.out.ne e.symm) (Kd.C_below HR1.out BB10.out.below0)); clear hc hbk)
      | (go_at_call 27; refine (HTB.out _ U10.out).mono ?_; clear HTB; rintro e w11 ⟨rfl, hc, hbk⟩; have C11 := Go.Cx.hid hc; have K11 := Go.Cx.hid hbk; have X11 : Hid (Ch (fun i => i = B1 ∨ i = B2) wr w11) := Go.Cx.hid ((Ch.weaken (T := fun i => i = B1 ∨ i = B2) X10.out (fun _ _ e => .inl e)).trans hc (fun _ _ e => .inr e)); have BB11 : Hid (Ch (fun _ => False) w w11) := Go.Cx.hid (BB10.out.far1 hc HS5.out.lb); have K10b := Go.Cx.hid (hc.heap K10.out (fun e => HS5.out.ne e)); clear hc hbk)
      | (go_at_call 30; refine (compose_both.calls r0 r1 r2 s0 s1 s2 o _ HBO.out).mono ?_; clear HBO; rintro e w12 ⟨v0, rfl, hv, hb⟩; obtain ⟨vA, vc, rfl⟩ := form3 hv; obtain ⟨_, hvc, hvC⟩ := Kd.R_reads' hv; have HVC := Go.Cx.hid hvC; have HB12 := Go.Cx.hid (Ch.of_below hb); clear hv hb hvc hvC)
      | (at_builtin; refine wpList_app rfl _ _ _ _ rfl w.heap.size 49 3 32 _ et_comp bo m co _ rfl ((HS5.out.own.ch X11.out (fun b hb hk => by have := HS5.out.no b hb; rcases hk with hk | hk; exact this.1 hk; exact this.2 hk)).f HB12.out) _ o.length (encs3 o) rfl (srcC HVC.out) hso hso2 (by have := BB11.out.size; have := HB12.out.size; omega) ?_; intro a3 c3 w13 hO hS hC hN; have HO13 := Go.Cx.hid hO; have HC13 := Go.Cx.hid hC; have HN13 := Go.Cx.hid hN; clear hO hS hC hN))
    obtain ⟨n', hn', hM'⟩ := HM5.out.step HST.out
    have hb12 : Below w.heap.size w w12 := (BB11.out.f HB12.out).below0
    have ka := (HNA.out w11 K10b.out (Kd.C_below HR0.out BB11.out.below0)).ch HB12.out id (Kd.C_below HR0.out hb12)
    have kb := (HNB.out w11 K11.out (Kd.C_below HR1.out BB11.out.below0)).ch HB12.out id (Kd.C_below HR1.out hb12)
    refine wp_goto ?_
    exact ⟨by trivial, n', hn', B1, B2, nextK (cms l0) k1 g1 mn, nextG (cms l0) k1 g1 mn, nextK (cms l1) k2 g2 mn, nextG (cms l1) k2 g2 mn, a3, m + o.length, c3, _, _, _, _, _, _, _, _, _, _, _, _, _, _, _, _, _, _, _, _, _, _, _, _, _, _, _, _, _, _, _, _, _, _, _, _, _, _, _, _, _, _, _, _, _, _, _, _, _, _, _, _, _, _, _, _, _, _, _, _, _, _, _, _, _, _, _, _, _, _, _, rfl, Go.Cx.hid (HS5.out.put HR0.out HR1.out ka kb hnka hnkb (X11.out.f HB12.out) HC13.out rfl HO13.out HN13.out), Go.Cx.hid hM'⟩
theorem compose_Two.calls (A0 : Option Addr) (c0 : Nat) (l0 : List (S49)) (A1 : Option Addr) (c1 : Nat) (l1 : List (S49)) (r1 : List (S49)) (r2 : Int) (w : World) (hr0 : Kd.C k49 w A0 l0.length l0) (hc0 : l0.length ≤ c0) (hr1 : Kd.C k49 w A1 l1.length l1) (hc1 : l1.length ≤ c1) (h : compose_Two.f l0 l1 = some (r1, r2)) :
    Calls Try.prog 14 #[.slice A0 l0.length c0, .slice A1 l1.length c1] w fun e w' => ∃ v0_ : Value, e = .returned (.tuple #[v0_, .int .i64 r2]) ∧ Kd.R k49 49 w' w.heap.size (fun _ => True) v0_ r1 ∧ Below w.heap.size w w' := by
  unfold compose_Two.f at h
  by_cases hg : good2 (cms l0) (cms l1) = true
  · rw [if_pos hg] at h
    by_cases hs : inC (cms l1) = outC (cms l0)
    · rw [if_pos hs] at h
      simp only [Option.some.injEq, Prod.mk.injEq] at h
      obtain ⟨rfl, rfl⟩ := h
      exact ctwo_any A0 A1 c0 c1 l0 l1 w hr0 hc0 hr1 hc1 hg hs
    · rw [if_neg hs] at h
      simp only [Option.some.injEq, Prod.mk.injEq] at h
      obtain ⟨rfl, rfl⟩ := h
      exact ctwo_bad A0 A1 c0 c1 l0 l1 w hr0 hc0 hr1 hc1 hg hs
  · rw [if_neg hg] at h
    cases h

end Go.Proofs.Ytmblpbaefoapaaa.Q

/- Contracts of Go functions: each call answers what the Lean function of its name answers. Conditions: stand in each theorem. Written by this seat's own program over the kit's printer. -/
import Derived.Test.YthfpohhkgcgbeaaQ0
import Derived.Test.YthfpohhkgcgbeaaQxcm
import Derived.Test.YthfpohhkgcgbeaaQxcomitialaw4known
import Derived.Test.YthfpohhkgcgbeaaQxcomitialaw4within
import Derived.Test.YthfpohhkgcgbeaaQxcomitialaw4Make
import Derived.Test.YthfpohhkgcgbeaaQxopSame
import Derived.WalkMore
import Derived.Outline
namespace Go.Proofs.Ythfpohhkgcgbeaa.Q
open Go.RowKit Go.Proofs.YthfpohhkgcgbeaaW.PrintWords Go.Proofs.YthfpohhkgcgbeaaW.PrintLast Go.Proofs.YthfpohhkgcgbeaaW.PrintMore
attribute [local go_sem] max2_int min2_int max_two min_two max_three min_three max_four min_four   -- for this text's walks alone
set_option linter.unusedVariables false
set_option linter.unusedSimpArgs false

-- HAND
/-! ### comitialaw4_OpSames: function 4 -/
open Go.OpM Go.Cx Go.F64
-- IMPORT Derived.WalkMore
-- IMPORT Derived.Outline
/-- A part with one thing turned. -/
def comitialaw4_OpSames.chg (c : S30) : S30 := if c.f0 = 2 then ⟨c.f0, c.f1, c.f2 ++ ⟨#[46]⟩⟩ else if c.f1 > 1 then ⟨c.f0, wrap64 (c.f1 - 1), c.f2⟩ else ⟨wrap64 (4 - c.f0), c.f1, c.f2⟩
def comitialaw4_OpSames.Pure : Prop := ∀ (a0 : Int) (l1 : List Int) (a2 : Int), (Lit.int .i64 a0).wf = true → l1.length ≤ maxLen → l1.length * 8 ≤ 140737488351232 → (∀ x ∈ l1, (Lit.int .i64 x).wf = true) → (Lit.int .i64 a2).wf = true → ∃ (k : Nat) (t n : Int) (o : List S30) (i : Nat) (c c' : S30),
  comitialaw4_known.f k = some true ∧ comitialaw4_within.f a0 90 = some t ∧ wrap64 (1 + t) = n ∧ comitialaw4_Make.f k n l1 = some o ∧ o.length ≤ 100 ∧ comitialaw4_within.f a2 (o.length : Int) = some (i : Int) ∧ i < o.length ∧ o[i]? = some c ∧ c.f2.size ≤ 1000 ∧ comitialaw4_OpSames.chg c = c' ∧
  op_Same.f k o o = some true ∧ op_Same.f k o (o.set i c') = some false ∧ op_Same.f k o (o.take (o.length - 1)) = some false
/-- A row of parts at the front of a block. -/
def RowB (w : World) (g : Nat) (l : List S30) : Prop := ∃ cur : Array Value, w.heap[g]? = some (.cells cur 30 (0, 0)) ∧ ∀ (j : Nat) u, (encs3 l)[j]? = some u → cur[j]? = some u
theorem RowB.ch {S : Nat → Prop} {w w' : World} {g : Nat} {l : List S30} (h : RowB w g l) (hc : Ch S w w') (hs : ¬ S g) : RowB w' g l := by
  obtain ⟨cur, h1, h2⟩ := h
  exact ⟨cur, hc.heap h1 hs, h2⟩
theorem RowB.of_own {w : World} {base g n c : Nat} {l : List S30} (h : Own w base 30 3 (some ⟨g, 0, none⟩) n c (encs3 l)) : RowB w g l := by
  obtain ⟨h1, ⟨h2, h3⟩ | ⟨g', cap, cur, h2, hg0, hg, hn, hm, hs, ht⟩⟩ := h
  · simp at h2
  · simp only [Value.slice.injEq, Option.some.injEq, Addr.mk.injEq, and_true] at h2
    obtain ⟨rfl, _, _⟩ := h2
    refine ⟨cur, hg, fun j u hu => ?_⟩
    rw [← ht, List.getElem?_take] at hu
    split at hu
    · rwa [Array.getElem?_toList] at hu
    · cases hu
theorem encs3_part {l : List S30} {i : Nat} {c : S30} (h : l[i]? = some c) : (encs3 l)[i * 3]? = some (.int .i64 c.f0) ∧ (encs3 l)[i * 3 + 1]? = some (.int .i64 c.f1) ∧ (encs3 l)[i * 3 + 2]? = some (.string c.f2) := by
  have e := encs3_at l i c h
  have g : ∀ j, j < 3 → (encs3 l)[i * 3 + j]? = (enc3 c)[j]? := by
    intro j hj
    rw [← e, List.getElem?_take, if_pos hj, List.getElem?_drop]
  exact ⟨g 0 (by omega), g 1 (by omega), g 2 (by omega)⟩
theorem encs3_set (l : List S30) : ∀ (i : Nat) (c : S30), i < l.length → encs3 (l.set i c) = (((encs3 l).set (i * 3) (.int .i64 c.f0)).set (i * 3 + 1) (.int .i64 c.f1)).set (i * 3 + 2) (.string c.f2) := by
  induction l with
  | nil => intro i c h; simp at h
  | cons x l ih =>
    intro i c h
    cases i with
    | zero => rfl
    | succ i =>
      have := ih i c (by simpa using h)
      have e : encs3 (x :: l) = enc3 x ++ encs3 l := rfl
      have e2 : encs3 ((x :: l).set (i + 1) c) = enc3 x ++ encs3 (l.set i c) := rfl
      have l3 : (enc3 x).length = 3 := rfl
      rw [e, e2, this]
      simp only [show (i + 1) * 3 = (enc3 x).length + i * 3 by rw [l3]; omega, Nat.add_assoc]
      rw [List.set_append_right _ _ (by omega), List.set_append_right _ _ (by omega), List.set_append_right _ _ (by omega)]
      simp
theorem RowB.cells {w : World} {g i : Nat} {l : List S30} {c : S30} (h : RowB w g l) (hi : l[i]? = some c) :
    w.cell? ⟨g, i * 3, none⟩ = some (.int .i64 c.f0) ∧ w.cell? ⟨g, i * 3 + 1, none⟩ = some (.int .i64 c.f1) ∧ w.cell? ⟨g, i * 3 + 2, none⟩ = some (.string c.f2) ∧ ∀ j, w.frozen? ⟨g, j, none⟩ = false := by
  obtain ⟨cur, h1, h2⟩ := h
  obtain ⟨e0, e1, e2⟩ := encs3_part hi
  exact ⟨by rw [cell_blk h1]; exact h2 _ _ e0, by rw [cell_blk h1]; exact h2 _ _ e1, by rw [cell_blk h1]; exact h2 _ _ e2, fun j => frozen_blk h1 j⟩
theorem RowB.set_ {w w' : World} {g i : Nat} {l : List S30} {c' : S30} (h : RowB w g l) (hi : i < l.length)
    (hw : w'.heap[g]? = (((w.setCell ⟨g, i * 3, none⟩ (.int .i64 c'.f0)).setCell ⟨g, i * 3 + 1, none⟩ (.int .i64 c'.f1)).setCell ⟨g, i * 3 + 2, none⟩ (.string c'.f2)).heap[g]?) : RowB w' g (l.set i c') := by
  obtain ⟨cur, h1, h2⟩ := h
  refine ⟨_, hw.trans (set_blk (set_blk (set_blk h1 _ _) _ _) _ _), fun j u hu => ?_⟩
  rw [encs3_set l i c' hi] at hu
  have hl := encs3_len l
  have hb : ∀ j, j < l.length * 3 → j < cur.size := by
    intro j hj
    have := h2 j _ (List.getElem?_eq_getElem (by omega))
    exact (Array.getElem?_eq_some_iff.1 this).1
  have hb2 := hb (i * 3 + 2) (by omega)
  rw [List.getElem?_set, List.getElem?_set, List.getElem?_set] at hu
  simp only [List.length_set] at hu
  simp only [Array.getElem?_setIfInBounds, Array.size_setIfInBounds]
  by_cases j2 : i * 3 + 2 = j
  · rw [if_pos j2] at hu ⊢
    rw [if_pos (by omega)] at hu
    rw [if_pos (by omega)]; exact hu
  · rw [if_neg j2] at hu ⊢
    by_cases j1 : i * 3 + 1 = j
    · rw [if_pos j1] at hu ⊢
      rw [if_pos (by omega)] at hu
      rw [if_pos (by omega)]; exact hu
    · rw [if_neg j1] at hu ⊢
      by_cases j0 : i * 3 = j
      · rw [if_pos j0] at hu ⊢
        rw [if_pos (by omega)] at hu
        rw [if_pos (by omega)]; exact hu
      · rw [if_neg j0] at hu ⊢
        exact h2 j u hu
theorem RowB.C {w : World} {g : Nat} {l : List S30} (h : RowB w g l) (hl : l.length ≤ 1000) : Kd.C k30 w (some ⟨g, 0, none⟩) l.length l := by
  obtain ⟨cur, h1, h2⟩ := h
  refine ⟨rfl, by omega, fun _ => ⟨_, rfl, fun j p hj => ⟨enc3 p, rfl, (k30).K_of_M (base := 0) (ok := fun _ => True) (k30_mkM _ 0 (fun _ => True) p), fun i u hu => ?_⟩⟩⟩
  have e := encs3_at l j p hj
  have hi : i < 3 := (List.getElem?_eq_some_iff.1 hu).1
  rw [← e, List.getElem?_take, if_pos hi, List.getElem?_drop] at hu
  show w.cell? ((⟨g, 0, none⟩ : Addr).add (j * 3 + i)) = some u
  rw [add_eq, cell_blk h1, Nat.zero_add]
  exact h2 _ _ hu
set_option maxRecDepth 100000 in
set_option maxHeartbeats 8000000 in
theorem comitialaw4_OpSames.walk (P : comitialaw4_OpSames.Pure) (a0 : Int) (a1 : Option Addr) (len1 cap1 : Nat) (z1 : List Int) (a2 : Int) (w : World) (w0 : (Lit.int .i64 a0).wf = true) (w1 : (a1 = none ∧ len1 = 0 ∧ cap1 = 0 ∧ z1 = []) ∨ ∃ x, a1 = some x ∧ len1 ≤ cap1 ∧ cap1 ≤ maxLen ∧ z1.length = cap1 ∧ (∀ i, i < z1.length → w.cell? (x.add i) = some (.int .i64 (z1.getD i 0))) ∧ ∀ n ∈ z1, (Lit.int .i64 n).wf = true) (y1 : len1 * 8 ≤ 140737488351232) (w2 : (Lit.int .i64 a2).wf = true) :
    Calls Try.prog 4 #[.int .i64 a0, .slice a1 len1 cap1, .int .i64 a2] w fun e w' => e = .returned (.bool true) ∧ Below w.heap.size w w' := by
  obtain ⟨l1, rfl, hr1, hm1, hw1, hc1⟩ := ReadsInt.ofRowC w1
  obtain ⟨k, t, n, o, i, c, c', A1, A2, E1, A3, hol, A4, hi, hci, hcs, hch, A5, A6, A7⟩ := P a0 l1 a2 w0 hm1 y1 hw1 w2
  have C1 := Aside0.mk (Kd.C_of_reads (d := (0 : Int)) (h1 := fun _ => rfl) hr1)
  have L1 := Aside0.mk hc1
  clear w0 w1 w2 y1 hr1 hm1 hw1 hc1 P
  have HB := Aside0.mk (Below.refl w.heap.size w)
  replace A1 := Aside0.mk A1
  replace A2 := Aside0.mk A2
  replace A3 := Aside0.mk A3
  replace A4 := Aside0.mk A4
  replace A5 := Aside0.mk A5
  replace A6 := Aside0.mk A6
  replace A7 := Aside0.mk A7
  have E1' : IntKind.i64.wrap (1 + t) = n := (i64_w _).trans E1
  have HI := Aside0.mk hi
  have HCI := Aside0.mk hci
  have HCH := Aside0.mk hch
  have HOL := Aside0.mk hol
  clear E1 hci hch
  go_enter Try.func4, Try.ntmps4
  go_upto_region 6 with (first
    | (go_at_call 11; have q_ := A1; (with_reducible refine (comitialaw4_known.calls k true _ q_.out).mono ?_); rintro e wa ⟨rfl, hb⟩; clear A1 q_; have HB1 := Aside0.mk (below_step HB.out hb); clear hb HB)
    | (go_at_call 14; have q_ := A2; (with_reducible refine (comitialaw4_within.calls a0 90 t _ q_.out).mono ?_); rintro e wb ⟨rfl, hd⟩; clear A2 q_; have HB2 := Aside0.mk (below_step HB1.out hd.below); clear hd HB1)
    | (go_at_call 13; have q_ := A3; (with_reducible refine (comitialaw4_Make.calls k n _ _ l1 o _ ?s1 ?s2 q_.out).mono ?_); (case s1 => exact Kd.C_below C1.out HB2.out); (case s2 => exact L1.out); rintro e wc ⟨v, rfl, ho, hb⟩; clear A3 q_; obtain ⟨ao, co, rfl, hl, hC⟩ := Kd.R_reads ho; clear ho; have CO := Aside0.mk hC; have LO := Aside0.mk hl; have HB3 := Aside0.mk (below_step HB2.out hb); clear hb HB2 hC hl C1)
    | (at_builtin; refine wpList_app rfl _ _ _ _ rfl wc.heap.size 30 3 32 _ et_comp _ 0 _ [] rfl (World.ownsRow_made wc #[] 0 (Nat.le_refl _) (Nat.zero_le _) rfl) _ o.length (encs3 o) rfl (srcC (Kd.C_alloc CO.out _)) (by unfold maxLen; omega) (by omega) (by simp) ?_; intro a' m' wd hO hS hC hN; rw [List.nil_append, Nat.zero_add] at hO; have HO := Aside0.mk hO; have HC := Aside0.mk (Ch.app_new hC); clear hO hS hC hN)
    | (go_at_call 14; have q_ := A4; (with_reducible refine (comitialaw4_within.calls a2 (o.length : Int) (i : Int) _ q_.out).mono ?_); rintro e we ⟨rfl, hd⟩; clear A4 q_; have HD := Aside0.mk (Ch.of_below hd.below); clear hd))
  obtain ⟨g, rfl⟩ := HO.out.some_ (by omega)
  have hgb := (HO.out.block _ rfl).1
  have hgl := (HO.out.block _ rfl).2
  have HR := Aside0.mk ((RowB.of_own HO.out).ch HD.out id)
  have HCC := Aside0.mk (HC.out.f HD.out)
  have hig : (i : Int) < (o.length : Int) := by omega
  have hi0 : (0 : Int) ≤ (i : Int) := by omega
  obtain ⟨x0, x1, x2, xf⟩ := HR.out.cells HCI.out
  go_upto_region 8 with (fail)
  have BK := alloc_blk_new (w := we) (.cells #[.int .i64 c.f0, .int .i64 c.f1, .string c.f2] 30) rfl
  have HF := (Ch.refl (fun _ => False) we).alloc (.cells #[.int .i64 c.f0, .int .i64 c.f1, .string c.f2] 30)
  generalize we.alloc (.cells #[.int .i64 c.f0, .int .i64 c.f1, .string c.f2] 30) = wf at BK HF ⊢
  clear x0 x1 x2 xf
  obtain ⟨p, q, s⟩ := c
  simp only at BK hcs
  have hs1 : s.size + 1 ≤ 9223372036854775807 := by omega
  have y0 : wf.cell? ⟨we.heap.size, 0, none⟩ = some (.int .i64 p) := by rw [cell_blk BK]; rfl
  have y1 : wf.cell? ⟨we.heap.size, 1, none⟩ = some (.int .i64 q) := by rw [cell_blk BK]; rfl
  have y2 : wf.cell? ⟨we.heap.size, 2, none⟩ = some (.string s) := by rw [cell_blk BK]; rfl
  have yf : ∀ j, wf.frozen? ⟨we.heap.size, j, none⟩ = false := fun j => frozen_blk BK j
  have hch := HCH.out
  unfold comitialaw4_OpSames.chg at hch
  simp only at hch
  have HBK := Aside0.mk BK
  have HHF := Aside0.mk HF
  clear BK HF HCH
  by_cases c1 : p = 2
  · rw [if_pos c1] at hch
    subst c1
    have e0 : ((2 : Int) == 2) = true := rfl
    go_upto_region 12 with (fail)
    have BK2 := blk_put HBK.out 2 (.string (s ++ ⟨#[46]⟩)) (cs' := #[.int .i64 2, .int .i64 q, .string (s ++ ⟨#[46]⟩)]) rfl
    have HG := HHF.out.set (p := we.heap.size) (i := 2) (u := .string (s ++ ⟨#[46]⟩))
    generalize wf.setCell ⟨we.heap.size, 2, none⟩ (.string (s ++ ⟨#[46]⟩)) = wg at BK2 HG ⊢
    clear HBK HHF y0 y1 y2 yf
    have y0 : wg.cell? ⟨we.heap.size, 0, none⟩ = some (.int .i64 c'.f0) := by rw [cell_blk BK2, ← hch]; rfl
    have y1 : wg.cell? ⟨we.heap.size, 1, none⟩ = some (.int .i64 c'.f1) := by rw [cell_blk BK2, ← hch]; rfl
    have y2 : wg.cell? ⟨we.heap.size, 2, none⟩ = some (.string c'.f2) := by rw [cell_blk BK2, ← hch]; rfl
    have HRG := Aside0.mk (HR.out.ch HG id)
    obtain ⟨x0, x1, x2, xf⟩ := HRG.out.cells HCI.out
    have HHG := Aside0.mk HG
    clear BK2 HG hch HR
    go_upto_region 13 with (fail)
    have HS := Aside0.mk (HRG.out.set_ (w' := ((wg.setCell ⟨g, i * 3, none⟩ (.int .i64 c'.f0)).setCell ⟨g, i * 3 + 1, none⟩ (.int .i64 c'.f1)).setCell ⟨g, i * 3 + 2, none⟩ (.string c'.f2)) HI.out rfl)
    have hgs : wc.heap.size ≤ g := hgb
    have HH := Aside0.mk ((((HCC.out.f HHG.out).set (p := g) (i := i * 3) (u := .int .i64 c'.f0)).set (p := g) (i := i * 3 + 1) (u := .int .i64 c'.f1)).set (p := g) (i := i * 3 + 2) (u := .string c'.f2))
    generalize ((wg.setCell ⟨g, i * 3, none⟩ (.int .i64 c'.f0)).setCell ⟨g, i * 3 + 1, none⟩ (.int .i64 c'.f1)).setCell ⟨g, i * 3 + 2, none⟩ (.string c'.f2) = wh at HS HH ⊢
    clear x0 x1 x2 xf y0 y1 y2 HRG HHG
    have CO2 := Aside0.mk (Kd.C_below CO.out HH.out.below0)
    have hm' := HO.out.sl.2.1
    have M9 := Aside0.mk hm'
    have hlen1 : IntKind.i64.wrap ((o.length : Int) - 1) = ((o.length - 1 : Nat) : Int) := by rw [IntKind.wrap_i64]; omega
    have hi9 : (Try.prog.info? 30).map (fun i => i.size) = some 3 := by kernel_rfl
    obtain ⟨i9, hi9, hs9⟩ := Option.map_eq_some_iff.1 hi9
    have s1 : ∀ W : World, (Instr.slice 25 (.slice ao o.length co) none (some (.int .i64 ((o.length - 1 : Nat) : Int))) none).run Try.prog W = .ok (.slice ao (o.length - 1) co) W := by
      simpa using cut_to (P := Try.prog) 25 30 .i64 Try.underlying25 hi9 ao o.length co ((o.length - 1 : Nat) : Int) (by omega) (by omega) LO.out
    clear hi9 hs9 i9 hm' hgb hgl
    go_wp2_with (first
      | (at_builtin; refine wpList_app rfl _ _ _ _ rfl wh.heap.size 30 3 32 _ et_comp _ 0 _ [] rfl (World.ownsRow_made wh #[] 0 (Nat.le_refl _) (Nat.zero_le _) rfl) _ o.length (encs3 o) rfl (srcC (Kd.C_alloc CO2.out _)) (by unfold maxLen; omega) (by omega) (by simp) ?_; intro a9 m9 wi hO hS hC hN; rw [List.nil_append, Nat.zero_add] at hO; have HO9 := Aside0.mk hO; have HC9 := Aside0.mk (Ch.app_new hC); clear hO hS hC hN)
      | (go_at_call 15; have q_ := A5; (with_reducible refine (op_Same.calls k _ _ o _ _ o true _ ?s1 ?s2 ?s3 ?s4 q_.out).mono ?_); (case s1 => exact Kd.C_below CO2.out HC9.out.below0); (case s2 => exact LO.out); (case s3 => exact (by have h_ := Kd.R_reads (own3 rfl HO9.out); obtain ⟨A_, c_, e_, _, hC_⟩ := h_; injection e_ with e1_ _ _; subst e1_; exact hC_)); (case s4 => exact HO9.out.sl.2.1); rintro e wj ⟨rfl, hd⟩; have HJ := Aside0.mk (HC9.out.f (Ch.of_below hd.below)); clear hd A5 q_)
      | (go_at_call 15; have q_ := A6; refine calls_of_args (args' := #[.slice ao o.length co, .slice (some ⟨g, 0, none⟩) (o.set i c').length m']) (by rw [List.length_set]) ?_; (with_reducible refine (op_Same.calls k _ _ o _ _ (o.set i c') false _ ?s1 ?s2 ?s3 ?s4 q_.out).mono ?_); (case s1 => exact Kd.C_below CO2.out HJ.out.below0); (case s2 => exact LO.out); (case s3 => exact (HS.out.ch HJ.out id).C (by rw [List.length_set]; have := HOL.out; omega)); (case s4 => (rw [List.length_set]; exact M9.out)); rintro e wl ⟨rfl, hd⟩; have HL := Aside0.mk (HJ.out.f (Ch.of_below hd.below)); clear hd A6 q_)
      | (go_at_call 15; have q_ := A7; refine calls_of_args (args' := #[.slice ao o.length co, .slice ao (o.take (o.length - 1)).length co]) (by rw [List.length_take, Nat.min_eq_left (Nat.sub_le _ _)]) ?_; (with_reducible refine (op_Same.calls k _ _ o _ _ (o.take (o.length - 1)) false _ ?s1 ?s2 ?s3 ?s4 q_.out).mono ?_); (case s1 => exact Kd.C_below CO2.out HL.out.below0); (case s2 => exact LO.out); (case s3 => exact Kd.C_take (Kd.C_below CO2.out HL.out.below0) (Nat.sub_le _ _)); (case s4 => (rw [List.length_take, Nat.min_eq_left (Nat.sub_le _ _)]; have := LO.out; omega)); rintro e wk ⟨rfl, hd⟩; have HKK := Aside0.mk (HL.out.f (Ch.of_below hd.below)); clear hd A7 q_))
    go_ret
    exact ⟨by first | rfl | simp, (HB3.out.trans ((HH.out.f HKK.out).below _ HB3.out.size (fun _ _ => id)))⟩
  · rw [if_neg c1] at hch
    have e0 : (p == 2) = false := beq_eq_false_iff_ne.2 c1
    clear c1
    by_cases c2 : q > 1
    · rw [if_pos c2] at hch
      have e1 : decide (1 < q) = true := decide_eq_true c2
      obtain ⟨r, hr⟩ : ∃ r, wrap64 (q - 1) = r := ⟨_, rfl⟩
      rw [hr] at hch
      have hr2 : IntKind.i64.wrap (q - 1) = r := (i64_w _).trans hr
      clear hr
      go_upto_region 12 with (fail)
      have BK2 := blk_put HBK.out 1 (.int .i64 r) (cs' := #[.int .i64 p, .int .i64 r, .string s]) rfl
      have HG := HHF.out.set (p := we.heap.size) (i := 1) (u := .int .i64 r)
      generalize wf.setCell ⟨we.heap.size, 1, none⟩ (.int .i64 r) = wg at BK2 HG ⊢
      clear HBK HHF y0 y1 y2 yf
      have y0 : wg.cell? ⟨we.heap.size, 0, none⟩ = some (.int .i64 c'.f0) := by rw [cell_blk BK2, ← hch]; rfl
      have y1 : wg.cell? ⟨we.heap.size, 1, none⟩ = some (.int .i64 c'.f1) := by rw [cell_blk BK2, ← hch]; rfl
      have y2 : wg.cell? ⟨we.heap.size, 2, none⟩ = some (.string c'.f2) := by rw [cell_blk BK2, ← hch]; rfl
      have HRG := Aside0.mk (HR.out.ch HG id)
      obtain ⟨x0, x1, x2, xf⟩ := HRG.out.cells HCI.out
      have HHG := Aside0.mk HG
      clear BK2 HG hch HR
      go_upto_region 13 with (fail)
      have HS := Aside0.mk (HRG.out.set_ (w' := ((wg.setCell ⟨g, i * 3, none⟩ (.int .i64 c'.f0)).setCell ⟨g, i * 3 + 1, none⟩ (.int .i64 c'.f1)).setCell ⟨g, i * 3 + 2, none⟩ (.string c'.f2)) HI.out rfl)
      have hgs : wc.heap.size ≤ g := hgb
      have HH := Aside0.mk ((((HCC.out.f HHG.out).set (p := g) (i := i * 3) (u := .int .i64 c'.f0)).set (p := g) (i := i * 3 + 1) (u := .int .i64 c'.f1)).set (p := g) (i := i * 3 + 2) (u := .string c'.f2))
      generalize ((wg.setCell ⟨g, i * 3, none⟩ (.int .i64 c'.f0)).setCell ⟨g, i * 3 + 1, none⟩ (.int .i64 c'.f1)).setCell ⟨g, i * 3 + 2, none⟩ (.string c'.f2) = wh at HS HH ⊢
      clear x0 x1 x2 xf y0 y1 y2 HRG HHG
      have CO2 := Aside0.mk (Kd.C_below CO.out HH.out.below0)
      have hm' := HO.out.sl.2.1
      have M9 := Aside0.mk hm'
      have hlen1 : IntKind.i64.wrap ((o.length : Int) - 1) = ((o.length - 1 : Nat) : Int) := by rw [IntKind.wrap_i64]; omega
      have hi9 : (Try.prog.info? 30).map (fun i => i.size) = some 3 := by kernel_rfl
      obtain ⟨i9, hi9, hs9⟩ := Option.map_eq_some_iff.1 hi9
      have s1 : ∀ W : World, (Instr.slice 25 (.slice ao o.length co) none (some (.int .i64 ((o.length - 1 : Nat) : Int))) none).run Try.prog W = .ok (.slice ao (o.length - 1) co) W := by
        simpa using cut_to (P := Try.prog) 25 30 .i64 Try.underlying25 hi9 ao o.length co ((o.length - 1 : Nat) : Int) (by omega) (by omega) LO.out
      clear hi9 hs9 i9 hm' hgb hgl
      go_wp2_with (first
        | (at_builtin; refine wpList_app rfl _ _ _ _ rfl wh.heap.size 30 3 32 _ et_comp _ 0 _ [] rfl (World.ownsRow_made wh #[] 0 (Nat.le_refl _) (Nat.zero_le _) rfl) _ o.length (encs3 o) rfl (srcC (Kd.C_alloc CO2.out _)) (by unfold maxLen; omega) (by omega) (by simp) ?_; intro a9 m9 wi hO hS hC hN; rw [List.nil_append, Nat.zero_add] at hO; have HO9 := Aside0.mk hO; have HC9 := Aside0.mk (Ch.app_new hC); clear hO hS hC hN)
        | (go_at_call 15; have q_ := A5; (with_reducible refine (op_Same.calls k _ _ o _ _ o true _ ?s1 ?s2 ?s3 ?s4 q_.out).mono ?_); (case s1 => exact Kd.C_below CO2.out HC9.out.below0); (case s2 => exact LO.out); (case s3 => exact (by have h_ := Kd.R_reads (own3 rfl HO9.out); obtain ⟨A_, c_, e_, _, hC_⟩ := h_; injection e_ with e1_ _ _; subst e1_; exact hC_)); (case s4 => exact HO9.out.sl.2.1); rintro e wj ⟨rfl, hd⟩; have HJ := Aside0.mk (HC9.out.f (Ch.of_below hd.below)); clear hd A5 q_)
        | (go_at_call 15; have q_ := A6; refine calls_of_args (args' := #[.slice ao o.length co, .slice (some ⟨g, 0, none⟩) (o.set i c').length m']) (by rw [List.length_set]) ?_; (with_reducible refine (op_Same.calls k _ _ o _ _ (o.set i c') false _ ?s1 ?s2 ?s3 ?s4 q_.out).mono ?_); (case s1 => exact Kd.C_below CO2.out HJ.out.below0); (case s2 => exact LO.out); (case s3 => exact (HS.out.ch HJ.out id).C (by rw [List.length_set]; have := HOL.out; omega)); (case s4 => (rw [List.length_set]; exact M9.out)); rintro e wl ⟨rfl, hd⟩; have HL := Aside0.mk (HJ.out.f (Ch.of_below hd.below)); clear hd A6 q_)
        | (go_at_call 15; have q_ := A7; refine calls_of_args (args' := #[.slice ao o.length co, .slice ao (o.take (o.length - 1)).length co]) (by rw [List.length_take, Nat.min_eq_left (Nat.sub_le _ _)]) ?_; (with_reducible refine (op_Same.calls k _ _ o _ _ (o.take (o.length - 1)) false _ ?s1 ?s2 ?s3 ?s4 q_.out).mono ?_); (case s1 => exact Kd.C_below CO2.out HL.out.below0); (case s2 => exact LO.out); (case s3 => exact Kd.C_take (Kd.C_below CO2.out HL.out.below0) (Nat.sub_le _ _)); (case s4 => (rw [List.length_take, Nat.min_eq_left (Nat.sub_le _ _)]; have := LO.out; omega)); rintro e wk ⟨rfl, hd⟩; have HKK := Aside0.mk (HL.out.f (Ch.of_below hd.below)); clear hd A7 q_))
      go_ret
      exact ⟨by first | rfl | simp, (HB3.out.trans ((HH.out.f HKK.out).below _ HB3.out.size (fun _ _ => id)))⟩
    · rw [if_neg c2] at hch
      have e1 : decide (1 < q) = false := decide_eq_false c2
      obtain ⟨r, hr⟩ : ∃ r, wrap64 (4 - p) = r := ⟨_, rfl⟩
      rw [hr] at hch
      have hr2 : IntKind.i64.wrap (4 - p) = r := (i64_w _).trans hr
      clear hr
      go_upto_region 12 with (fail)
      have BK2 := blk_put HBK.out 0 (.int .i64 r) (cs' := #[.int .i64 r, .int .i64 q, .string s]) rfl
      have HG := HHF.out.set (p := we.heap.size) (i := 0) (u := .int .i64 r)
      generalize wf.setCell ⟨we.heap.size, 0, none⟩ (.int .i64 r) = wg at BK2 HG ⊢
      clear HBK HHF y0 y1 y2 yf
      have y0 : wg.cell? ⟨we.heap.size, 0, none⟩ = some (.int .i64 c'.f0) := by rw [cell_blk BK2, ← hch]; rfl
      have y1 : wg.cell? ⟨we.heap.size, 1, none⟩ = some (.int .i64 c'.f1) := by rw [cell_blk BK2, ← hch]; rfl
      have y2 : wg.cell? ⟨we.heap.size, 2, none⟩ = some (.string c'.f2) := by rw [cell_blk BK2, ← hch]; rfl
      have HRG := Aside0.mk (HR.out.ch HG id)
      obtain ⟨x0, x1, x2, xf⟩ := HRG.out.cells HCI.out
      have HHG := Aside0.mk HG
      clear BK2 HG hch HR
      go_upto_region 13 with (fail)
      have HS := Aside0.mk (HRG.out.set_ (w' := ((wg.setCell ⟨g, i * 3, none⟩ (.int .i64 c'.f0)).setCell ⟨g, i * 3 + 1, none⟩ (.int .i64 c'.f1)).setCell ⟨g, i * 3 + 2, none⟩ (.string c'.f2)) HI.out rfl)
      have hgs : wc.heap.size ≤ g := hgb
      have HH := Aside0.mk ((((HCC.out.f HHG.out).set (p := g) (i := i * 3) (u := .int .i64 c'.f0)).set (p := g) (i := i * 3 + 1) (u := .int .i64 c'.f1)).set (p := g) (i := i * 3 + 2) (u := .string c'.f2))
      generalize ((wg.setCell ⟨g, i * 3, none⟩ (.int .i64 c'.f0)).setCell ⟨g, i * 3 + 1, none⟩ (.int .i64 c'.f1)).setCell ⟨g, i * 3 + 2, none⟩ (.string c'.f2) = wh at HS HH ⊢
      clear x0 x1 x2 xf y0 y1 y2 HRG HHG
      have CO2 := Aside0.mk (Kd.C_below CO.out HH.out.below0)
      have hm' := HO.out.sl.2.1
      have M9 := Aside0.mk hm'
      have hlen1 : IntKind.i64.wrap ((o.length : Int) - 1) = ((o.length - 1 : Nat) : Int) := by rw [IntKind.wrap_i64]; omega
      have hi9 : (Try.prog.info? 30).map (fun i => i.size) = some 3 := by kernel_rfl
      obtain ⟨i9, hi9, hs9⟩ := Option.map_eq_some_iff.1 hi9
      have s1 : ∀ W : World, (Instr.slice 25 (.slice ao o.length co) none (some (.int .i64 ((o.length - 1 : Nat) : Int))) none).run Try.prog W = .ok (.slice ao (o.length - 1) co) W := by
        simpa using cut_to (P := Try.prog) 25 30 .i64 Try.underlying25 hi9 ao o.length co ((o.length - 1 : Nat) : Int) (by omega) (by omega) LO.out
      clear hi9 hs9 i9 hm' hgb hgl
      go_wp2_with (first
        | (at_builtin; refine wpList_app rfl _ _ _ _ rfl wh.heap.size 30 3 32 _ et_comp _ 0 _ [] rfl (World.ownsRow_made wh #[] 0 (Nat.le_refl _) (Nat.zero_le _) rfl) _ o.length (encs3 o) rfl (srcC (Kd.C_alloc CO2.out _)) (by unfold maxLen; omega) (by omega) (by simp) ?_; intro a9 m9 wi hO hS hC hN; rw [List.nil_append, Nat.zero_add] at hO; have HO9 := Aside0.mk hO; have HC9 := Aside0.mk (Ch.app_new hC); clear hO hS hC hN)
        | (go_at_call 15; have q_ := A5; (with_reducible refine (op_Same.calls k _ _ o _ _ o true _ ?s1 ?s2 ?s3 ?s4 q_.out).mono ?_); (case s1 => exact Kd.C_below CO2.out HC9.out.below0); (case s2 => exact LO.out); (case s3 => exact (by have h_ := Kd.R_reads (own3 rfl HO9.out); obtain ⟨A_, c_, e_, _, hC_⟩ := h_; injection e_ with e1_ _ _; subst e1_; exact hC_)); (case s4 => exact HO9.out.sl.2.1); rintro e wj ⟨rfl, hd⟩; have HJ := Aside0.mk (HC9.out.f (Ch.of_below hd.below)); clear hd A5 q_)
        | (go_at_call 15; have q_ := A6; refine calls_of_args (args' := #[.slice ao o.length co, .slice (some ⟨g, 0, none⟩) (o.set i c').length m']) (by rw [List.length_set]) ?_; (with_reducible refine (op_Same.calls k _ _ o _ _ (o.set i c') false _ ?s1 ?s2 ?s3 ?s4 q_.out).mono ?_); (case s1 => exact Kd.C_below CO2.out HJ.out.below0); (case s2 => exact LO.out); (case s3 => exact (HS.out.ch HJ.out id).C (by rw [List.length_set]; have := HOL.out; omega)); (case s4 => (rw [List.length_set]; exact M9.out)); rintro e wl ⟨rfl, hd⟩; have HL := Aside0.mk (HJ.out.f (Ch.of_below hd.below)); clear hd A6 q_)
        | (go_at_call 15; have q_ := A7; refine calls_of_args (args' := #[.slice ao o.length co, .slice ao (o.take (o.length - 1)).length co]) (by rw [List.length_take, Nat.min_eq_left (Nat.sub_le _ _)]) ?_; (with_reducible refine (op_Same.calls k _ _ o _ _ (o.take (o.length - 1)) false _ ?s1 ?s2 ?s3 ?s4 q_.out).mono ?_); (case s1 => exact Kd.C_below CO2.out HL.out.below0); (case s2 => exact LO.out); (case s3 => exact Kd.C_take (Kd.C_below CO2.out HL.out.below0) (Nat.sub_le _ _)); (case s4 => (rw [List.length_take, Nat.min_eq_left (Nat.sub_le _ _)]; have := LO.out; omega)); rintro e wk ⟨rfl, hd⟩; have HKK := Aside0.mk (HL.out.f (Ch.of_below hd.below)); clear hd A7 q_))
      go_ret
      exact ⟨by first | rfl | simp, (HB3.out.trans ((HH.out.f HKK.out).below _ HB3.out.size (fun _ _ => id)))⟩

end Go.Proofs.Ythfpohhkgcgbeaa.Q

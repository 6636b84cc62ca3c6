/- Contracts of Go functions: each call answers what the Lean function of its name answers. Conditions: stand in each theorem. Written by this seat's own program over the kit's printer. -/
import Derived.Test.YtjmnflgicolbdaaQ0
import Derived.ScopeJumps
import Derived.WalkMore
import Derived.WalkMore
import Derived.ScopeJumps
import Derived.Deep.RegionLaw
namespace Go.Proofs.Ytjmnflgicolbdaa.Q
open Go.RowKit Go.Proofs.YtjmnflgicolbdaaW.PrintWords Go.Proofs.YtjmnflgicolbdaaW.PrintLast Go.Proofs.YtjmnflgicolbdaaW.PrintMore
attribute [local go_sem] max2_int min2_int max_two min_two max_three min_three max_four min_four   -- for this text's walks alone
set_option linter.unusedVariables false
set_option linter.unusedSimpArgs false

/-! ### Parts as the plain texts have them -/
open Go.OpM Go.Cx Go.F64
def cm (x : S43) : Cm := ⟨x.f0, x.f1, x.f2.data.toList⟩
def sc (c : Cm) : S43 := ⟨c.k, c.n, ⟨c.s.toArray⟩⟩
theorem cm_sc (c : Cm) : cm (sc c) = c := by simp [cm, sc]
theorem sc_cm (x : S43) : sc (cm x) = x := by
  obtain ⟨a, b, c⟩ := x
  cases c
  simp [cm, sc]
def cms (l : List S43) : List Cm := l.map cm
def scs (l : List Cm) : List S43 := l.map sc
@[simp] theorem cms_scs (l : List Cm) : cms (scs l) = l := by
  unfold cms scs
  rw [List.map_map]
  exact (List.map_congr_left fun c _ => cm_sc c).trans (List.map_id _)
@[simp] theorem scs_cms (l : List S43) : scs (cms l) = l := by
  unfold cms scs
  rw [List.map_map]
  exact (List.map_congr_left fun c _ => sc_cm c).trans (List.map_id _)
/-- Valid, and of a size that all counters bear. -/
def good (l : List Cm) : Bool := decide (∀ c ∈ l, c.ok) && decide (inC l + outC l ≤ 100000)
theorem good_iff {l : List Cm} : good l = true ↔ Vl l ∧ inC l + outC l ≤ 100000 := by
  unfold good Vl
  rw [Bool.and_eq_true, decide_eq_true_iff, decide_eq_true_iff]
theorem emp_ne (l : List UInt8) : (!l.isEmpty) = (l != []) := by cases l <;> rfl
theorem ext_size (s : ByteArray) (j : Int) (h : j ≤ s.size) : ((s.extract 0 j.toNat).size : Int) = max j 0 := by
  rw [ByteArray.size_extract]; omega
theorem oda {p : Prop} [Decidable p] (h : decide p = true := by first | (with_reducible assumption) | assumption) : p := of_decide_eq_true h
theorem at_len0 (x : List A) : x.length ≤ ins x + outs x := by
  induction x with
  | nil => simp
  | cons a x ih => cases a <;> simp [ins, outs] <;> omega
theorem vl_len0 {l : List Cm} (h : Vl l) : l.length ≤ (at_ l).length := by
  induction l with
  | nil => simp
  | cons c l ih =>
    have := ih h.tail
    rcases Cm.cases h.head with ⟨n, hn, rfl⟩ | ⟨s, hs, rfl⟩ | ⟨n, hn, rfl⟩
    · simp [keeps]; omega
    · have := List.length_pos_iff.2 hs; simp [puts]; omega
    · simp [cuts]; omega

/-! ### Operations in memory, cell by cell -/
open Go.OpM Go.Cx Go.F64
def enc3 (x : S43) : List Value := [.int .i64 x.f0, .int .i64 x.f1, .string x.f2]
def encs3 (l : List S43) : List Value := l.flatMap enc3
theorem encs3_len (l : List S43) : (encs3 l).length = l.length * 3 := by
  induction l with
  | nil => rfl
  | cons c l ih => simp only [encs3, List.flatMap_cons, List.length_append, List.length_cons] at *; rw [ih]; simp [enc3]; omega
theorem encs3_at (l : List S43) : ∀ (j : Nat) (p : S43), l[j]? = some p → ((encs3 l).drop (j * 3)).take 3 = enc3 p := by
  induction l with
  | nil => intro j p h; simp at h
  | cons c l ih =>
    intro j p h
    cases j with
    | zero => simp at h; subst h; simp [encs3, enc3]
    | succ j =>
      have := ih j p (by simpa using h)
      have e : (encs3 (c :: l)).drop ((j + 1) * 3) = (encs3 l).drop (j * 3) := by
        simp only [encs3, List.flatMap_cons]
        have : (j + 1) * 3 = (enc3 c).length + j * 3 := by simp [enc3]; omega
        rw [this, List.drop_append]
        simp
      rw [e, this]
theorem encs3_get (l : List S43) (i : Nat) (u : Value) (h : (encs3 l)[i]? = some u) : ∃ p, l[i / 3]? = some p ∧ (enc3 p)[i % 3]? = some u := by
  have hi : i < l.length * 3 := by rw [← encs3_len]; exact (List.getElem?_eq_some_iff.1 h).1
  have hj : i / 3 < l.length := by omega
  refine ⟨l[i / 3], List.getElem?_eq_getElem hj, ?_⟩
  rw [← encs3_at l (i / 3) _ (List.getElem?_eq_getElem hj), List.getElem?_take, if_pos (by omega), List.getElem?_drop]
  rw [show i / 3 * 3 + i % 3 = i by omega]; exact h
theorem encs3_one (l : List S43) : ∀ u ∈ encs3 l, u.oneCell' = true := by
  intro u hu
  obtain ⟨p, _, hp⟩ := List.mem_flatMap.1 hu
  simp only [enc3, List.mem_cons, List.not_mem_nil, or_false] at hp
  rcases hp with rfl | rfl | rfl <;> rfl
/-- What is read lies there cell by cell. -/
theorem cells3 {w : World} {A : Option Addr} {l : List S43} (h : Kd.C k43 w A l.length l) : ∀ b, A = some b → ∀ j u, (encs3 l)[j]? = some u → w.cell? (b.add j) = some u := by
  rintro b rfl j u hu
  obtain ⟨p, hp, hu2⟩ := encs3_get l j u hu
  have hl : 0 < l.length := by have := (List.getElem?_eq_some_iff.1 hp).1; omega
  obtain ⟨ad, e, hc⟩ := h.2.2 hl
  cases e
  obtain ⟨c, _, hK, hcell⟩ := hc _ _ hp
  obtain rfl := k43_open hK
  have := hcell (j % 3) u hu2
  have e3 : j / 3 * (k43).sz + j % 3 = j := by show j / 3 * 3 + j % 3 = j; omega
  rwa [e3] at this
theorem cells3_none {w : World} {l : List S43} (h : Kd.C k43 w none l.length l) : l = [] := by
  rcases Nat.eq_zero_or_pos l.length with h0 | h0
  · exact List.eq_nil_of_length_eq_zero h0
  · obtain ⟨ad, e, _⟩ := h.2.2 h0
    cases e
/-- What is owned cell by cell is a row of operations' parts. -/
theorem own3 {w : World} {base : Nat} {a : Option Addr} {n c : Nat} {l : List S43} (hn : n = l.length) (h : Own w base 43 3 a n c (encs3 l)) : Kd.R k43 43 w base (fun _ => True) (.slice a n c) l := by
  subst hn
  refine ⟨fun _ _ => trivial, encs3 l, h, encs3_len l, fun j p hp => ?_⟩
  have : ((encs3 l).drop (j * (k43).sz)).take (k43).sz = enc3 p := encs3_at l j p hp
  rw [this]
  exact k43_mkM _ _ _ p
theorem et_comp : ElemT Try.prog 27 43 3 32 (.agg #[.int .i64 0, .int .i64 0, .string ⟨#[]⟩]) := ElemT.mk' Try.underlying27 (by kernel_rfl) rfl (by decide)
theorem encs3_app (a b : List S43) : encs3 (a ++ b) = encs3 a ++ encs3 b := by simp [encs3]
theorem src3 (w : World) (c : S43) (H : Nat) (hH : H = w.heap.size) : Src Try.prog 3 27 (.slice (some ⟨H, 0, none⟩) 1 1) 1 (enc3 c) (w.alloc (.cells #[.int .i64 c.f0, .int .i64 c.f1, .string c.f2] 43)) :=
  Src.ofSlice _ Try.underlying27 _ 1 1 (enc3 c) rfl (fun j u hu => by
    rw [add_eq, Nat.zero_add, cell_blk (alloc_blk_new _ hH) j]
    simpa [enc3] using hu) (by intro u hu; simp only [enc3, List.mem_cons, List.not_mem_nil, or_false] at hu; rcases hu with rfl | rfl | rfl <;> rfl)
theorem srcC {w : World} {A : Option Addr} {l : List S43} {c : Nat} (h : Kd.C k43 w A l.length l) : Src Try.prog 3 27 (.slice A l.length c) l.length (encs3 l) w := by
  cases A with
  | none => have := cells3_none h; subst this; exact Src.ofNil _ Try.underlying27 c
  | some b => exact Src.ofSlice _ Try.underlying27 b _ c (encs3 l) (encs3_len l) (cells3 h b rfl) (encs3_one l)

/-! ### op.sizes -/
open Go.OpM Go.Cx Go.F64
theorem op_long_put (N : Int) (s : ByteArray) (w : World) : Calls Try.prog 42 #[.agg #[.int .i64 2, .int .i64 N, .string s]] w fun e w' => e = .returned (.int .i64 s.size) ∧ Ch (fun _ => False) w w' := by
  go_enter Try.func42, Try.ntmps42
  go_wp2
  go_ret
  exact ⟨rfl, (Ch.refl _ w).alloc _⟩
theorem op_long_ne (K N : Int) (s : ByteArray) (w : World) (h : K ≠ 2) : Calls Try.prog 42 #[.agg #[.int .i64 K, .int .i64 N, .string s]] w fun e w' => e = .returned (.int .i64 N) ∧ Ch (fun _ => False) w w' := by
  have hb : (K == 2) = false := beq_eq_false_iff_ne.2 h
  clear h
  go_enter Try.func42, Try.ntmps42
  go_wp2
  go_ret
  exact ⟨rfl, (Ch.refl _ w).alloc _⟩
theorem inC_take {l : List S43} {k : Nat} (h : k < l.length) : inC (cms (l.take (k + 1))) = inC (cms (l.take k)) + ins (cm l[k]).at_ := by
  have : l.take (k + 1) = l.take k ++ [l[k]] := by rw [List.take_succ_eq_append_getElem h]
  rw [this]; unfold cms inC; rw [List.map_append, at_append, ins_append]; simp only [List.map_cons, List.map_nil, at_cons, at_nil, List.append_nil]
theorem outC_take {l : List S43} {k : Nat} (h : k < l.length) : outC (cms (l.take (k + 1))) = outC (cms (l.take k)) + outs (cm l[k]).at_ := by
  have : l.take (k + 1) = l.take k ++ [l[k]] := by rw [List.take_succ_eq_append_getElem h]
  rw [this]; unfold cms outC; rw [List.map_append, at_append, outs_append]; simp only [List.map_cons, List.map_nil, at_cons, at_nil, List.append_nil]
theorem takes_le (l : List S43) (k : Nat) : inC (cms (l.take k)) ≤ inC (cms l) ∧ outC (cms (l.take k)) ≤ outC (cms l) := by
  have h : cms l = cms (l.take k) ++ cms (l.drop k) := by unfold cms; rw [← List.map_append, List.take_append_drop]
  rw [h]; simp [inC, outC]
theorem rd_get {l : List S43} {k : Nat} (h : k < l.length) : rd_T43 l (k : Int) = l[k] := by
  unfold rd_T43; simp [List.getD_eq_getElem?_getD, h]
/-- The whole number in a complex number's real part. -/
def fk (v : Value) : Nat := match v with | .complex _ x _ => ((floatToIntVal .f64 x .i64).getD 0).toNat | _ => 0
theorem fk_fl (k : Nat) (h : k ≤ 1000000) (y : Nat) : fk (.complex .f64 (fl ((k : Nat) : Int)) y) = k := by
  show ((floatToIntVal .f64 (fl (k : Int)) .i64).getD 0).toNat = k
  rw [toInt_fl (by omega)]
  simp
theorem str_cut (d : List UInt8) (a n : Nat) : (⟨((d.drop a).take n).toArray⟩ : ByteArray) = (str d).extract a (a + n) := by
  apply ByteArray.ext
  simp [str, ByteArray.data_extract, List.extract_toArray, List.extract_eq_take_drop]
def SizesPost (w : World) (l : List S43) (e : Ending) (w' : World) : Prop := e = .returned (.complex .f64 (fl (inC (cms l) : Nat)) (fl (outC (cms l) : Nat))) ∧ Below w.heap.size w w'
theorem fl0 : fl 0 = 0 := fl_zero
set_option maxRecDepth 100000 in
set_option maxHeartbeats 2000000 in
theorem sizes_any (A0 : Option Addr) (c0 : Nat) (l0 : List (S43)) (w : World) (hr0 : Kd.C k43 w A0 l0.length l0) (hg : good (cms l0) = true) :
    Calls Try.prog 38 #[.slice A0 l0.length c0] w (SizesPost w l0) := by
  obtain ⟨hv, hs⟩ := good_iff.1 hg
  obtain ⟨n, hn⟩ : ∃ n, n = l0.length := ⟨_, rfl⟩
  have hnb : n ≤ 100000 := by
    have h1 := at_len0 (at_ (cms l0))
    have h2 := vl_len0 hv
    unfold inC outC at hs
    have : (cms l0).length = l0.length := by simp [cms]
    omega
  have HR := Go.Cx.hid hr0
  have HV := Go.Cx.hid hv
  have HS := Go.Cx.hid hs
  rw [← hn]
  have HN := Go.Cx.hid hn
  have hnb2 : (n : Int) ≤ 9223372036854775807 := by omega
  clear hr0 hg hv hs hn
  go_enter Try.func38, Try.ntmps38
  go_wp2
  go_loopw [3, 9] (fun v3 v9 wr => ∃ k : Nat, k ≤ n ∧ v9 = .int .i64 k ∧ v3 = .complex .f64 (fl (inC (cms (l0.take k)) : Nat)) (fl (outC (cms (l0.take k)) : Nat)) ∧ Hid (Below w.heap.size w wr)) (fun _ v9 _ => n - (intOf v9).toNat)
  case atStart => exact ⟨0, Nat.zero_le _, rfl, by simp [cms, inC, outC, ins, outs, fl0], Go.Cx.hid (Below.refl _ _)⟩
  case round =>
    obtain ⟨k, hk, rfl, rfl, HB⟩ := hrel
    by_cases hlt : k < n
    · have hkl : k < l0.length := by rw [← HN.out]; exact hlt
      have hlti : (k : Int) < n := by omega
      obtain ⟨ad, e, x0, x1, x2⟩ := at_T43 (Kd.C_below HR.out HB.out) (k : Int) (by omega) (by omega)
      subst e
      rw [rd_get hkl] at x0 x1 x2
      simp only [Int.toNat_natCast] at x0 x1 x2
      have hok : (cm l0[k]).ok := HV.out _ (List.mem_map.2 ⟨l0[k], List.getElem_mem hkl, rfl⟩)
      have e1 := inC_take hkl
      have e2 := outC_take hkl
      have b1 := takes_le l0 (k + 1)
      have hs := HS.out
      have ok1 : Ok ((inC (cms (l0.take k)) : Nat) : Int) := Ok.nat (by omega)
      have ok2 : Ok ((outC (cms (l0.take k)) : Nat) : Int) := Ok.nat (by omega)
      have E1 := Go.Cx.hid e1
      have E2 := Go.Cx.hid e2
      have sc0 : l0[k] = sc (cm l0[k]) := (sc_cm _).symm
      rcases Cm.cases hok with ⟨m, hm, hc⟩ | ⟨q, hq, hc⟩ | ⟨m, hm, hc⟩
      · rw [hc] at e1 e2 sc0
        rw [sc0] at x0 x1 x2
        simp only [sc] at x0 x1 x2
        have okm : Ok ((m : Nat) : Int) := Ok.nat (by simp at e1; omega)
        have G1 := Go.Cx.hid (show inC (cms (l0.take (k + 1))) = inC (cms (l0.take k)) + m by simpa using e1)
        have G2 := Go.Cx.hid (show outC (cms (l0.take (k + 1))) = outC (cms (l0.take k)) + m by simpa using e2)
        clear e1 e2 sc0 hc hs b1 E1 E2 hok
        go_wp2_with (go_at_call 42; refine (op_long_ne 1 m ⟨#[]⟩ _ (by decide)).mono ?_; rintro e w1 ⟨rfl, hc⟩; have C1 := Go.Cx.hid hc; have y0 := hc.cell (p := ⟨wr.heap.size, 0, none⟩) (cell_blk (alloc_blk_new (w := wr) (.cells #[.int .i64 1, .int .i64 m, .string ⟨#[]⟩] 43) rfl) 0) id; clear hc)
        go_roundw
        case rel => exact ⟨k + 1, by omega, by go_num, by rw [G1.out, G2.out]; simp, Go.Cx.hid (HB.out.trans (((Ch.refl (fun _ => False) wr).alloc _).f C1.out |>.below _ HB.out.size (fun _ _ => id)))⟩
        case measure => simp [intOf]; omega
      · rw [hc] at e1 e2 sc0
        rw [sc0] at x0 x1 x2
        simp only [sc] at x0 x1 x2
        have okm : Ok ((q.length : Nat) : Int) := Ok.nat (by simp at e2; omega)
        have G1 := Go.Cx.hid (show inC (cms (l0.take (k + 1))) = inC (cms (l0.take k)) by simpa using e1)
        have G2 := Go.Cx.hid (show outC (cms (l0.take (k + 1))) = outC (cms (l0.take k)) + q.length by simpa using e2)
        have hsz : (⟨q.toArray⟩ : ByteArray) = str q := rfl
        rw [hsz] at x2
        clear e1 e2 sc0 hc hs b1 E1 E2 hok hsz
        go_wp2_with (go_at_call 42; refine (op_long_put 0 (str q) _).mono ?_; rintro e w1 ⟨rfl, hc⟩; have C1 := Go.Cx.hid hc; have y0 := hc.cell (p := ⟨wr.heap.size, 0, none⟩) (cell_blk (alloc_blk_new (w := wr) (.cells #[.int .i64 2, .int .i64 0, .string (str q)] 43) rfl) 0) id; clear hc)
        go_roundw
        case rel => exact ⟨k + 1, by omega, by go_num, by rw [G1.out, G2.out]; simp, Go.Cx.hid (HB.out.trans (((Ch.refl (fun _ => False) wr).alloc _).f C1.out |>.below _ HB.out.size (fun _ _ => id)))⟩
        case measure => simp [intOf]; omega
      · rw [hc] at e1 e2 sc0
        rw [sc0] at x0 x1 x2
        simp only [sc] at x0 x1 x2
        have okm : Ok ((m : Nat) : Int) := Ok.nat (by simp at e1; omega)
        have G1 := Go.Cx.hid (show inC (cms (l0.take (k + 1))) = inC (cms (l0.take k)) + m by simpa using e1)
        have G2 := Go.Cx.hid (show outC (cms (l0.take (k + 1))) = outC (cms (l0.take k)) by simpa using e2)
        clear e1 e2 sc0 hc hs b1 E1 E2 hok
        go_wp2_with (go_at_call 42; refine (op_long_ne 3 m ⟨#[]⟩ _ (by decide)).mono ?_; rintro e w1 ⟨rfl, hc⟩; have C1 := Go.Cx.hid hc; have y0 := hc.cell (p := ⟨wr.heap.size, 0, none⟩) (cell_blk (alloc_blk_new (w := wr) (.cells #[.int .i64 3, .int .i64 m, .string ⟨#[]⟩] 43) rfl) 0) id; clear hc)
        go_roundw
        case rel => exact ⟨k + 1, by omega, by go_num, by rw [G1.out, G2.out]; simp, Go.Cx.hid (HB.out.trans (((Ch.refl (fun _ => False) wr).alloc _).f C1.out |>.below _ HB.out.size (fun _ _ => id)))⟩
        case measure => simp [intOf]; omega
    · have hkn : k = n := by omega
      have H1 := Go.Cx.hid (show l0.take k = l0 by rw [hkn, HN.out]; exact List.take_length)
      clear hkn
      go_wp2
      go_ret
      rw [H1.out]
      exact ⟨rfl, HB.out⟩

-- IMPORT Derived.ScopeJumps
-- IMPORT Derived.WalkMore
/-! ### A scope with one label, jumped back to -/
theorem wp_scope_again {P : Program} {a : Act} {w : World} {Q : Exit → Act → World → Prop} {c body : Code} (l : Nat) (J : Act → World → Prop) (μ : Act → World → Nat) (hf : findLabel c l = some (Code.skip.seq body))
    (pass : ∀ a w, J a w → body.wp P (Exit.jump l (fun a' w' => J a' w' ∧ μ a' w' < μ a w) Q) a w)
    (first : (∀ a w, J a w → body.wp P (Exit.jump l J Q) a w) → c.wp P (Exit.jump l J Q) a w) : (Code.scope c).wp P Q a w :=
  wp_scope_jumps l J μ hf (first (fun a w h => wp_mono (pass a w h) (fun e a w hq => by cases e <;> first | exact hq | exact ⟨hq.1, hq.2.1⟩))) (fun a w h => wp_seq (wp_skip (pass a w h)))

/-! ### Rows that are eaten from the front -/
open Go.OpM Go.Cx Go.F64
/-- What two operations must be for the walk: valid, and not too long. -/
def good2 (a b : List Cm) : Bool := good a && good b && decide (inC a + outC a + inC b + outC b ≤ 50000)
theorem good2_iff {a b : List Cm} : good2 a b = true ↔ Vl a ∧ Vl b ∧ inC a + outC a + inC b + outC b ≤ 50000 := by
  unfold good2
  rw [Bool.and_eq_true, Bool.and_eq_true, decide_eq_true_iff, good_iff, good_iff]
  constructor
  · rintro ⟨⟨h1, h2⟩, h3⟩; exact ⟨h1.1, h2.1, h3⟩
  · rintro ⟨h1, h2, h3⟩; exact ⟨⟨⟨h1, by omega⟩, ⟨h2, by omega⟩⟩, h3⟩
/-- A row of parts that is eaten from the front, and whose first part may be written: it lies in block g, none other's. -/
def Rem (w : World) (g : Nat) (v : Value) (l : List S43) : Prop :=
  ∃ (A : Option Addr) (c : Nat), v = .slice A l.length c ∧ l.length ≤ c ∧ c ≤ maxLen ∧ (l ≠ [] → ∃ (o : Nat) (cur : Array Value), A = some ⟨g, o, none⟩ ∧ w.heap[g]? = some (.cells cur 43 (0, 0)) ∧ (cur.toList.drop o).take (l.length * 3) = encs3 l ∧ o + l.length * 3 ≤ cur.size)
theorem rem_of_own {w : World} {base : Nat} {a : Option Addr} {n c : Nat} {l : List S43} (hn : n = l.length) (h : Own w base 43 3 a n c (encs3 l)) (hb : base < w.heap.size) : ∃ g, Rem w g (.slice a n c) l ∧ base ≤ g ∧ g < w.heap.size := by
  subst hn
  have hsl := h.sl
  obtain ⟨h1, ⟨h2, h3⟩ | ⟨g, cap, cur, h2, hg0, hg, hn, hm, hs, ht⟩⟩ := h
  · simp only [Value.slice.injEq] at h2
    refine ⟨base, ⟨a, c, rfl, hsl.2.1, hsl.2.2.1, fun hne => ?_⟩, Nat.le_refl _, hb⟩
    exact absurd (List.eq_nil_of_length_eq_zero h3) hne
  · simp only [Value.slice.injEq] at h2
    obtain ⟨rfl, _, rfl⟩ := h2
    refine ⟨g, ⟨_, c, rfl, hn, hm, fun _ => ⟨0, cur, rfl, hg, by simpa using ht, ?_⟩⟩, hg0, lt_of_block hg⟩
    rw [hs, Nat.zero_add]; exact Nat.mul_le_mul_right _ hn
theorem Rem.ch {S : Nat → Prop} {w w' : World} {g : Nat} {v : Value} {l : List S43} (h : Rem w g v l) (hc : Ch S w w') (hs : ¬ S g) : Rem w' g v l := by
  obtain ⟨A, c, e, h1, h2, h3⟩ := h
  refine ⟨A, c, e, h1, h2, fun hne => ?_⟩
  obtain ⟨o, cur, e1, hg, h4⟩ := h3 hne
  exact ⟨o, cur, e1, hc.heap hg hs, h4⟩
theorem Rem.cells {w : World} {g : Nat} {v : Value} {x : S43} {l : List S43} (h : Rem w g v (x :: l)) :
    ∃ o c, v = .slice (some ⟨g, o, none⟩) (l.length + 1) c ∧ l.length + 1 ≤ c ∧ w.cell? ⟨g, o, none⟩ = some (.int .i64 x.f0) ∧ w.cell? ⟨g, o + 1, none⟩ = some (.int .i64 x.f1) ∧ w.cell? ⟨g, o + 2, none⟩ = some (.string x.f2) ∧ (∀ j, w.frozen? ⟨g, j, none⟩ = false) ∧
      Rem w g (.slice (some ⟨g, o + 3, none⟩) l.length (c - 1)) l ∧
      (∀ (y : S43) (w' : World), w'.heap[g]? = (((w.setCell ⟨g, o, none⟩ (.int .i64 y.f0)).setCell ⟨g, o + 1, none⟩ (.int .i64 y.f1)).setCell ⟨g, o + 2, none⟩ (.string y.f2)).heap[g]? → Rem w' g v (y :: l)) := by
  obtain ⟨A, c, e, h1, h2, h3⟩ := h
  obtain ⟨o, cur, rfl, hg, ht, hsz⟩ := h3 (by simp)
  have e2 : encs3 (x :: l) = enc3 x ++ encs3 l := rfl
  have hl3 := encs3_len l
  have hat : ∀ j, j < (x :: l).length * 3 → cur[o + j]? = (encs3 (x :: l))[j]? := by
    intro j hj
    rw [← ht, List.getElem?_take, if_pos hj, List.getElem?_drop, Array.getElem?_toList]
  simp only [List.length_cons] at *
  refine ⟨o, c, e, h1, ?_, ?_, ?_, fun j => frozen_blk hg j, ⟨_, c - 1, rfl, by omega, by omega, fun hne => ⟨o + 3, cur, rfl, hg, ?_, by omega⟩⟩, ?_⟩
  · rw [cell_blk hg, ← Nat.add_zero o, hat 0 (by omega)]; rfl
  · rw [cell_blk hg, hat 1 (by omega)]; rfl
  · rw [cell_blk hg, hat 2 (by omega)]; rfl
  · have : (cur.toList.drop (o + 3)).take (l.length * 3) = (((cur.toList.drop o).take ((l.length + 1) * 3))).drop 3 := by
      rw [List.drop_take, List.drop_drop]; congr 1; omega
    rw [this, ht, e2]; rfl
  · intro y w' hw
    refine ⟨_, c, e, by simpa using h1, h2, fun _ => ⟨o, _, rfl, hw.trans (set_blk (set_blk (set_blk hg _ _) _ _) _ _), ?_, ?_⟩⟩
    · have e3 : encs3 (y :: l) = enc3 y ++ encs3 l := rfl
      apply List.ext_getElem?
      intro j
      rw [List.getElem?_take]
      by_cases hj : j < (y :: l).length * 3
      · rw [if_pos hj, List.getElem?_drop, Array.getElem?_toList]
        simp only [List.length_cons] at hj
        have hh := hat j (by omega)
        simp only [Array.getElem?_setIfInBounds, Array.size_setIfInBounds]
        by_cases j0 : j = 0
        · subst j0; rw [if_neg (by omega), if_neg (by omega), if_pos (by omega), if_pos (by omega)]; rfl
        · by_cases j1 : j = 1
          · subst j1; rw [if_neg (by omega), if_pos (by omega), if_pos (by omega)]; rfl
          · by_cases j2 : j = 2
            · subst j2; rw [if_pos (by omega), if_pos (by omega)]; rfl
            · rw [if_neg (by omega), if_neg (by omega), if_neg (by omega), hh, e2, e3]
              rw [List.getElem?_append_right (by simp [enc3]; omega), List.getElem?_append_right (by simp [enc3]; omega)]; rfl
      · rw [if_neg hj, eq_comm, List.getElem?_eq_none_iff, encs3_len]; omega
    · simp only [Array.size_setIfInBounds, List.length_cons]; exact hsz
theorem rem_nil (w : World) (g : Nat) (A : Option Addr) (c : Nat) (h : c ≤ maxLen) : Rem w g (.slice A 0 c) [] := ⟨A, c, rfl, Nat.zero_le _, h, fun h => absurd rfl h⟩
/-- What the slice behind the first part is: where nothing more is held its address stays. -/
theorem rem_next {w : World} {g o n c : Nat} {l : List S43} (h : Rem w g (.slice (some ⟨g, o + 3, none⟩) n (c - 1)) l) (hn : n = l.length) (hc : n + 1 ≤ c) (h1 : c = 1) : Rem w g (.slice (some ⟨g, o, none⟩) n 0) l := by
  subst h1
  have : n = 0 := by omega
  subst this
  have : l = [] := List.eq_nil_of_length_eq_zero hn.symm
  subst this
  exact rem_nil _ _ _ _ (Nat.zero_le _)
theorem Ch.app_new1 {w w1 w2 : World} {g : Nat} (h : Ch (fun _ => False) w w1) (k : Ch (fun k => ∃ b, some (⟨g, 0, none⟩ : Addr) = some b ∧ b.block = k) w1 w2) (hg : w.heap.size ≤ g) : Ch (fun _ => False) w w2 :=
  h.trans k (fun i hi ⟨b, hb, he⟩ => by cases hb; have : g = i := he; omega)
theorem own_made (w : World) (base : Nat) (h : base ≤ w.heap.size) : Own (w.alloc (.cells #[] 43)) base 43 3 (some ⟨w.heap.size, 0, none⟩) 0 0 [] := by
  have h2 : Own (w.alloc (.cells #[] 43)) w.heap.size 43 3 (some ⟨w.heap.size, 0, none⟩) 0 0 [] := World.ownsRow_made w #[] 0 (Nat.le_refl _) (Nat.zero_le _) rfl
  exact h2.base_le h
theorem set_congr {X Y : World} {g : Nat} (h : X.heap[g]? = Y.heap[g]?) (i : Nat) (u : Value) : (X.setCell ⟨g, i, none⟩ u).heap[g]? = (Y.setCell ⟨g, i, none⟩ u).heap[g]? := by
  simp only [World.setCell, Array.getElem?_modify, if_true, h]
theorem set3_congr {X Y : World} {g : Nat} (h : X.heap[g]? = Y.heap[g]?) (i j k : Nat) (u v z : Value) : (((X.setCell ⟨g, i, none⟩ u).setCell ⟨g, j, none⟩ v).setCell ⟨g, k, none⟩ z).heap[g]? = (((Y.setCell ⟨g, i, none⟩ u).setCell ⟨g, j, none⟩ v).setCell ⟨g, k, none⟩ z).heap[g]? :=
  set_congr (set_congr (set_congr h _ _) _ _) _ _
theorem drew_heap (W : World) : W.drew.heap = W.heap := rfl
theorem far_set (W : World) {g b : Nat} (h : g ≠ b) (i : Nat) (u : Value) : (W.setCell ⟨b, i, none⟩ u).heap[g]? = W.heap[g]? := Below.heap_setCell W ⟨b, i, none⟩ u g h
theorem far3 (W : World) {g b : Nat} (h : g ≠ b) (i j k : Nat) (u v z : Value) : (((W.setCell ⟨b, i, none⟩ u).setCell ⟨b, j, none⟩ v).setCell ⟨b, k, none⟩ z).heap[g]? = W.heap[g]? :=
  (far_set _ h k z).trans ((far_set _ h j v).trans (far_set _ h i u))
theorem six_a (W : World) {ga gb : Nat} (h : ga ≠ gb) (i1 i2 i3 j1 j2 j3 : Nat) (u1 u2 u3 v1 v2 v3 : Value) : ((((((W.setCell ⟨ga, i1, none⟩ u1).setCell ⟨ga, i2, none⟩ u2).setCell ⟨ga, i3, none⟩ u3).setCell ⟨gb, j1, none⟩ v1).setCell ⟨gb, j2, none⟩ v2).setCell ⟨gb, j3, none⟩ v3).drew.heap[ga]? = (((W.setCell ⟨ga, i1, none⟩ u1).setCell ⟨ga, i2, none⟩ u2).setCell ⟨ga, i3, none⟩ u3).heap[ga]? := by
  rw [drew_heap]
  exact far3 _ h j1 j2 j3 v1 v2 v3
theorem six_b (W : World) {ga gb : Nat} (h : ga ≠ gb) (i1 i2 i3 j1 j2 j3 : Nat) (u1 u2 u3 v1 v2 v3 : Value) : ((((((W.setCell ⟨ga, i1, none⟩ u1).setCell ⟨ga, i2, none⟩ u2).setCell ⟨ga, i3, none⟩ u3).setCell ⟨gb, j1, none⟩ v1).setCell ⟨gb, j2, none⟩ v2).setCell ⟨gb, j3, none⟩ v3).drew.heap[gb]? = (((W.setCell ⟨gb, j1, none⟩ v1).setCell ⟨gb, j2, none⟩ v2).setCell ⟨gb, j3, none⟩ v3).heap[gb]? := by
  rw [drew_heap]
  exact set3_congr (far3 W h.symm i1 i2 i3 u1 u2 u3) j1 j2 j3 v1 v2 v3
theorem ch3 {S : Nat → Prop} {W X : World} (h : Ch S W X) {g : Nat} (hg : S g) (i j k : Nat) (u v z : Value) : Ch S W (((X.setCell ⟨g, i, none⟩ u).setCell ⟨g, j, none⟩ v).setCell ⟨g, k, none⟩ z) :=
  ((h.set (u := u) (i := i) (.inl hg)).set (u := v) (i := j) (.inl hg)).set (u := z) (i := k) (.inl hg)
theorem six_ch (W : World) (ga gb : Nat) (i1 i2 i3 j1 j2 j3 : Nat) (u1 u2 u3 v1 v2 v3 : Value) : Ch (fun k => k = ga ∨ k = gb) W ((((((W.setCell ⟨ga, i1, none⟩ u1).setCell ⟨ga, i2, none⟩ u2).setCell ⟨ga, i3, none⟩ u3).setCell ⟨gb, j1, none⟩ v1).setCell ⟨gb, j2, none⟩ v2).setCell ⟨gb, j3, none⟩ v3).drew :=
  (ch3 (ch3 (Ch.refl _ W) (.inl rfl) i1 i2 i3 u1 u2 u3) (.inr rfl) j1 j2 j3 v1 v2 v3).drew
theorem cm_of {p : S43} {c : Cm} (h : p = sc c) : cm p = c := by rw [h, cm_sc]
theorem chn3 {S : Nat → Prop} {W X : World} (h : Ch S W X) {g : Nat} (hg : W.heap.size ≤ g) (i j k : Nat) (u v z : Value) : Ch S W (((X.setCell ⟨g, i, none⟩ u).setCell ⟨g, j, none⟩ v).setCell ⟨g, k, none⟩ z) :=
  ((h.set (u := u) (i := i) (.inr hg)).set (u := v) (i := j) (.inr hg)).set (u := z) (i := k) (.inr hg)
theorem put3 {w : World} {g : Nat} {t : TypeId} {a b c : Value} (h : w.heap[g]? = some (.cells #[a, b, c] t (0, 0))) (u v z : Value) : (((w.setCell ⟨g, 0, none⟩ u).setCell ⟨g, 1, none⟩ v).setCell ⟨g, 2, none⟩ z).heap[g]? = some (.cells #[u, v, z] t (0, 0)) := set_blk (set_blk (set_blk h _ _) _ _) _ _
theorem set_blk1 {w : World} {g : Nat} {t : TypeId} {cs : Array Value} (h : w.heap[g]? = some (.cells cs t (0, 0))) (i : Nat) (u : Value) (cs' : Array Value) (e : cs.setIfInBounds i u = cs') : (w.setCell ⟨g, i, none⟩ u).heap[g]? = some (.cells cs' t (0, 0)) := e ▸ set_blk h i u

-- IMPORT Derived.WalkMore
-- IMPORT Derived.ScopeJumps
-- IMPORT Derived.Deep.RegionLaw
open Go.OpM Go.Cx Go.F64
/-! ### The cursor of transform -/
/-- A cursor in memory: at part k of l, of which g bytes are gone. -/
structure Cur (w : World) (B : Nat) (A0 : Option Addr) (c0 : Nat) (l0 : List S43) (k g : Nat) : Prop where
  blk : w.heap[B]? = some (.cells #[.slice A0 l0.length c0, .complex .f64 (fl (k : Nat)) (fl (g : Nat))] 62 (0, 0))
  row : Kd.C k43 w A0 l0.length l0
  vl : Vl (cms l0)
  kb : k ≤ 1000000
  gb : g ≤ 1000000
  gin : ∀ h : k < l0.length, g < csz (cm l0[k])
def restS (l0 : List S43) (k g : Nat) : List Cm := rest (cms l0) k g
/-- The part that it is at. -/
def ptS (l0 : List S43) (k g : Nat) : S43 := if h : k < l0.length then sc (bk g (cm l0[k])) else ⟨0, 0, ⟨#[]⟩⟩
theorem Cur.ch {S : Nat → Prop} {w w' : World} {B : Nat} {A0 : Option Addr} {c0 : Nat} {l0 : List S43} {k g : Nat} (h : Cur w B A0 c0 l0 k g) (hc : Ch S w w') (hs : ¬ S B) (hr : Kd.C k43 w' A0 l0.length l0) : Cur w' B A0 c0 l0 k g :=
  ⟨hc.heap h.blk hs, hr, h.vl, h.kb, h.gb, h.gin⟩
theorem strFrom (D : List UInt8) (q : Nat) : (str D).extract q D.length = str (D.drop q) := by
  apply ByteArray.ext
  simp [str, ByteArray.data_extract, List.extract_toArray, List.extract_eq_take_drop]
  exact List.take_of_length_le (by simp)
theorem strFront (D : List UInt8) (q : Nat) : (str D).extract 0 q = str (D.take q) := by
  apply ByteArray.ext
  simp [str, ByteArray.data_extract, List.extract_toArray, List.extract_eq_take_drop]
attribute [local go_sem high] max_ints min_ints
set_option maxRecDepth 100000 in
set_option maxHeartbeats 1000000 in
theorem cur_end (B : Nat) (A0 : Option Addr) (c0 : Nat) (l0 : List S43) (k g : Nat) (w : World) (H : Cur w B A0 c0 l0 k g) (hk : l0.length ≤ k) :
    Calls Try.prog 32 #[.pointer (some ⟨B, 0, none⟩)] w fun e w' => e = .returned (.agg #[.int .i64 0, .int .i64 0, .string ⟨#[]⟩]) ∧ Ch (fun _ => False) w w' := by
  obtain ⟨n, hn⟩ : ∃ n, n = l0.length := ⟨_, rfl⟩
  have hb := H.blk
  rw [← hn] at hk hb
  have okk : Ok ((k : Nat) : Int) := Ok.nat (by have := H.kb; omega)
  have okg : Ok ((g : Nat) : Int) := Ok.nat (by have := H.gb; omega)
  have hki : (n : Int) ≤ (k : Int) := by omega
  have HB := Go.Cx.hid hb
  clear H hb hk hn
  go_enter Try.func32, Try.ntmps32
  go_upto_region 1 with ((with_reducible refine gate_dst (N := 2) rfl ?_); refine box_event ?hg (N := 2) ?hd (cs := #[.int .i64 0, .int .i64 0, .string ⟨#[]⟩]) (t := 43) ?hr ?_; (case hd => rfl); (case hg => rfl); (case hr => first | (go_simp; done) | (go_simp; rfl)); intro g2 hgq w1 hbox hb; have hb := Ch.of_below hb; have B2 := Go.Cx.hid hbox; have E1 := Go.Cx.hid hb; have HB1 := Go.Cx.hid (hb.heap HB.out id); have G2 : w.heap.size ≤ g2 := (by omega); clear hbox hgq hb)
  have hc0 : w1.cell? ⟨B, 0, none⟩ = some (.slice A0 n c0) := (blk_cell HB1.out 0).trans rfl
  have hc1 : w1.cell? ⟨B, 1, none⟩ = some (.complex .f64 (fl (k : Nat)) (fl (g : Nat))) := (blk_cell HB1.out 1).trans rfl
  refine start_ (n := 14) (S := fun w' => w'.cell? ⟨B, 1, none⟩ = some (.complex .f64 (fl (k : Nat)) (fl (g : Nat)))) (ds := []) #[false, false, false, false, false, false, false, false, false, false, false, false, false, false] (by kernel_rfl) rfl rfl (hc1) (fun hHeld => ?_)
  refine pure_ (i := 0) (N := some 6) (v := ?_) (a' := ?_) #[true, false, false, false, false, false, false, false, false, false, false, false, false, false] rfl rfl (by kernel_rfl) (fun _ _ _ h => h) (Or.inl ⟨by rfl, ?_⟩) ?_ ?_
  rotate_left
  · intro w'
    go_simp
    with_reducible rfl
  rotate_left
  · simp only [Act.put, List.setIfInBounds_toArray, List.set_cons_zero, List.set_cons_succ, i64_w, i32_w]
    rfl
  refine pure_ (i := 1) (N := some 7) (v := ?_) (a' := ?_) #[true, true, false, false, false, false, false, false, false, false, false, false, false, false] rfl rfl (by kernel_rfl) (fun _ _ _ h => h) (Or.inl ⟨by rfl, ?_⟩) ?_ ?_
  rotate_left
  · intro w'
    go_simp
    with_reducible rfl
  rotate_left
  · simp only [Act.put, List.setIfInBounds_toArray, List.set_cons_zero, List.set_cons_succ, i64_w, i32_w]
    rfl
  refine pure_ (i := 2) (N := some 8) (v := ?_) (a' := ?_) #[true, true, true, false, false, false, false, false, false, false, false, false, false, false] rfl rfl (by kernel_rfl) (fun _ _ _ h => h) (Or.inl ⟨by rfl, ?_⟩) ?_ ?_
  rotate_left
  · intro w'
    go_simp
    with_reducible rfl
  rotate_left
  · simp only [Act.put, List.setIfInBounds_toArray, List.set_cons_zero, List.set_cons_succ, i64_w, i32_w]
    rfl
  refine pure_ (i := 6) (N := some 12) (v := ?_) (a' := ?_) #[true, true, true, false, false, false, true, false, false, false, false, false, false, false] rfl rfl (by kernel_rfl) (fun _ _ _ h => h) (Or.inl ⟨by rfl, ?_⟩) ?_ ?_
  rotate_left
  · intro w'
    go_simp
    with_reducible rfl
  rotate_left
  · simp only [Act.put, List.setIfInBounds_toArray, List.set_cons_zero, List.set_cons_succ, i64_w, i32_w]
    rfl
  refine pure_ (i := 7) (N := some 13) (v := ?_) (a' := ?_) #[true, true, true, false, false, false, true, true, false, false, false, false, false, false] rfl rfl (by kernel_rfl) (fun _ _ _ h => h) (Or.inl ⟨by rfl, ?_⟩) ?_ ?_
  rotate_left
  · intro w'
    go_simp
    with_reducible rfl
  rotate_left
  · simp only [Act.put, List.setIfInBounds_toArray, List.set_cons_zero, List.set_cons_succ, i64_w, i32_w]
    rfl
  refine pure_ (i := 8) (N := some 14) (v := ?_) (a' := ?_) #[true, true, true, false, false, false, true, true, true, false, false, false, false, false] rfl rfl (by kernel_rfl) (fun _ _ _ h => h) (Or.inl ⟨by rfl, ?_⟩) ?_ ?_
  rotate_left
  · intro w'
    go_simp
    with_reducible rfl
  rotate_left
  · simp only [Act.put, List.setIfInBounds_toArray, List.set_cons_zero, List.set_cons_succ, i64_w, i32_w]
    rfl
  refine take_ (i := 3) (N := some 9) (v := ?_) (a' := ?_) #[true, true, true, true, false, false, true, true, true, false, false, false, false, false] rfl rfl (by kernel_rfl) (fun _ _ _ h => h) (Or.inl ⟨by rfl, ?_⟩) hHeld ?_ ?_
  rotate_left
  · intro w' s0
    go_simp
    with_reducible rfl
  rotate_left
  · simp only [Act.put, List.setIfInBounds_toArray, List.set_cons_zero, List.set_cons_succ, i64_w, i32_w]
    rfl
  refine pure_ (i := 4) (N := some 10) (v := ?_) (a' := ?_) #[true, true, true, true, true, false, true, true, true, false, false, false, false, false] rfl rfl (by kernel_rfl) (fun _ _ _ h => h) (Or.inl ⟨by rfl, ?_⟩) ?_ ?_
  rotate_left
  · intro w'
    go_simp
    with_reducible rfl
  rotate_left
  · simp only [Act.put, List.setIfInBounds_toArray, List.set_cons_zero, List.set_cons_succ, i64_w, i32_w]
    rfl
  refine pure_ (i := 5) (N := some 11) (v := ?_) (a' := ?_) #[true, true, true, true, true, true, true, true, true, false, false, false, false, false] rfl rfl (by kernel_rfl) (fun _ _ _ h => h) (Or.inl ⟨by rfl, ?_⟩) ?_ ?_
  rotate_left
  · intro w'
    go_simp
    with_reducible rfl
  rotate_left
  · simp only [Act.put, List.setIfInBounds_toArray, List.set_cons_zero, List.set_cons_succ, i64_w, i32_w]
    rfl
  refine pure_ (i := 12) (N := some 3) (v := ?_) (a' := ?_) #[true, true, true, true, true, true, true, true, true, false, false, false, true, false] rfl rfl (by kernel_rfl) (fun _ _ _ h => h) (Or.inl ⟨by rfl, ?_⟩) ?_ ?_
  rotate_left
  · intro w'
    go_simp
    with_reducible rfl
  rotate_left
  · simp only [Act.put, List.setIfInBounds_toArray, List.set_cons_zero, List.set_cons_succ, i64_w, i32_w]
    rfl
  refine take_ (i := 9) (N := some 15) (v := ?_) (a' := ?_) #[true, true, true, true, true, true, true, true, true, true, false, false, true, false] rfl rfl (by kernel_rfl) (fun _ _ _ h => h) (Or.inl ⟨by rfl, ?_⟩) hHeld ?_ ?_
  rotate_left
  · intro w' s0
    go_simp
    with_reducible rfl
  rotate_left
  · simp only [Act.put, List.setIfInBounds_toArray, List.set_cons_zero, List.set_cons_succ, i64_w, i32_w]
    rfl
  refine pure_ (i := 10) (N := some 16) (v := ?_) (a' := ?_) #[true, true, true, true, true, true, true, true, true, true, true, false, true, false] rfl rfl (by kernel_rfl) (fun _ _ _ h => h) (Or.inl ⟨by rfl, ?_⟩) ?_ ?_
  rotate_left
  · intro w'
    go_simp
    with_reducible rfl
  rotate_left
  · simp only [Act.put, List.setIfInBounds_toArray, List.set_cons_zero, List.set_cons_succ, i64_w, i32_w]
    rfl
  refine pure_ (i := 11) (N := some 17) (v := ?_) (a' := ?_) #[true, true, true, true, true, true, true, true, true, true, true, true, true, false] rfl rfl (by kernel_rfl) (fun _ _ _ h => h) (Or.inl ⟨by rfl, ?_⟩) ?_ ?_
  rotate_left
  · intro w'
    go_simp
    with_reducible rfl
  rotate_left
  · simp only [Act.put, List.setIfInBounds_toArray, List.set_cons_zero, List.set_cons_succ, i64_w, i32_w]
    rfl
  refine pure_ (i := 13) (N := some 4) (v := ?_) (a' := ?_) #[true, true, true, true, true, true, true, true, true, true, true, true, true, true] rfl rfl (by kernel_rfl) (fun _ _ _ h => h) (Or.inl ⟨by rfl, ?_⟩) ?_ ?_
  rotate_left
  · intro w'
    go_simp
    with_reducible rfl
  rotate_left
  · simp only [Act.put, List.setIfInBounds_toArray, List.set_cons_zero, List.set_cons_succ, i64_w, i32_w]
    rfl
  refine done_ (by kernel_rfl) ?_
  have z0 : w1.cell? ⟨g2, 0, none⟩ = some (.int .i64 0) := (blk_cell B2.out 0).trans rfl
  have z1 : w1.cell? ⟨g2, 1, none⟩ = some (.int .i64 0) := (blk_cell B2.out 1).trans rfl
  have z2 : w1.cell? ⟨g2, 2, none⟩ = some (.string ⟨#[]⟩) := (blk_cell B2.out 2).trans rfl
  have zf := blk_frozen B2.out
  clear hHeld
  go_wp2
  refine bodyPost_ret (results_cell_row rfl _ _ g2 43 #[.int .i64 0, .int .i64 0, .string ⟨#[]⟩] (0, 0) _ rfl (blk_drew (put3 B2.out _ _ _)) Try.underlying43 rfl (by kernel_rfl)) rfl ?_
  exact ⟨rfl, (chn3 E1.out G2 0 1 2 _ _ _).drew⟩
set_option maxRecDepth 100000 in
set_option maxHeartbeats 1000000 in
theorem cur_put (B : Nat) (A0 : Option Addr) (c0 : Nat) (l0 : List S43) (k g : Nat) (w : World) (H : Cur w B A0 c0 l0 k g) (hk : k < l0.length) (m : Int) (s : List UInt8) (hx : l0[k] = ⟨2, m, str s⟩) (hgs : g ≤ s.length) :
    Calls Try.prog 32 #[.pointer (some ⟨B, 0, none⟩)] w fun e w' => e = .returned (.agg #[.int .i64 2, .int .i64 m, .string (str (s.drop g))]) ∧ Ch (fun _ => False) w w' := by
  obtain ⟨n, hn⟩ : ∃ n, n = l0.length := ⟨_, rfl⟩
  have hb := H.blk
  rw [← hn] at hb
  have okk : Ok ((k : Nat) : Int) := Ok.nat (by have := H.kb; omega)
  have okg : Ok ((g : Nat) : Int) := Ok.nat (by have := H.gb; omega)
  have hki : (k : Int) < (n : Int) := by omega
  have k0 : (0 : Int) ≤ (k : Int) := by omega
  have HB := Go.Cx.hid hb
  have HR := Go.Cx.hid H.row
  have HX := Go.Cx.hid hx
  have HK := Go.Cx.hid hk
  clear H hb hn hx
  go_enter Try.func32, Try.ntmps32
  go_upto_region 1 with ((with_reducible refine gate_dst (N := 2) rfl ?_); refine box_event ?hg (N := 2) ?hd (cs := #[.int .i64 0, .int .i64 0, .string ⟨#[]⟩]) (t := 43) ?hr ?_; (case hd => rfl); (case hg => rfl); (case hr => first | (go_simp; done) | (go_simp; rfl)); intro g2 hgq w1 hbox hb; have hb := Ch.of_below hb; have B2 := Go.Cx.hid hbox; have E1 := Go.Cx.hid hb; have HB1 := Go.Cx.hid (hb.heap HB.out id); have G2 : w.heap.size ≤ g2 := (by omega); clear hbox hgq hb)
  have hc0 : w1.cell? ⟨B, 0, none⟩ = some (.slice A0 n c0) := (blk_cell HB1.out 0).trans rfl
  have hc1 : w1.cell? ⟨B, 1, none⟩ = some (.complex .f64 (fl (k : Nat)) (fl (g : Nat))) := (blk_cell HB1.out 1).trans rfl
  refine start_ (n := 14) (S := fun w' => w'.cell? ⟨B, 1, none⟩ = some (.complex .f64 (fl (k : Nat)) (fl (g : Nat)))) (ds := []) #[false, false, false, false, false, false, false, false, false, false, false, false, false, false] (by kernel_rfl) rfl rfl (hc1) (fun hHeld => ?_)
  refine pure_ (i := 0) (N := some 6) (v := ?_) (a' := ?_) #[true, false, false, false, false, false, false, false, false, false, false, false, false, false] rfl rfl (by kernel_rfl) (fun _ _ _ h => h) (Or.inl ⟨by rfl, ?_⟩) ?_ ?_
  rotate_left
  · intro w'
    go_simp
    with_reducible rfl
  rotate_left
  · simp only [Act.put, List.setIfInBounds_toArray, List.set_cons_zero, List.set_cons_succ, i64_w, i32_w]
    rfl
  refine pure_ (i := 1) (N := some 7) (v := ?_) (a' := ?_) #[true, true, false, false, false, false, false, false, false, false, false, false, false, false] rfl rfl (by kernel_rfl) (fun _ _ _ h => h) (Or.inl ⟨by rfl, ?_⟩) ?_ ?_
  rotate_left
  · intro w'
    go_simp
    with_reducible rfl
  rotate_left
  · simp only [Act.put, List.setIfInBounds_toArray, List.set_cons_zero, List.set_cons_succ, i64_w, i32_w]
    rfl
  refine pure_ (i := 2) (N := some 8) (v := ?_) (a' := ?_) #[true, true, true, false, false, false, false, false, false, false, false, false, false, false] rfl rfl (by kernel_rfl) (fun _ _ _ h => h) (Or.inl ⟨by rfl, ?_⟩) ?_ ?_
  rotate_left
  · intro w'
    go_simp
    with_reducible rfl
  rotate_left
  · simp only [Act.put, List.setIfInBounds_toArray, List.set_cons_zero, List.set_cons_succ, i64_w, i32_w]
    rfl
  refine pure_ (i := 6) (N := some 12) (v := ?_) (a' := ?_) #[true, true, true, false, false, false, true, false, false, false, false, false, false, false] rfl rfl (by kernel_rfl) (fun _ _ _ h => h) (Or.inl ⟨by rfl, ?_⟩) ?_ ?_
  rotate_left
  · intro w'
    go_simp
    with_reducible rfl
  rotate_left
  · simp only [Act.put, List.setIfInBounds_toArray, List.set_cons_zero, List.set_cons_succ, i64_w, i32_w]
    rfl
  refine pure_ (i := 7) (N := some 13) (v := ?_) (a' := ?_) #[true, true, true, false, false, false, true, true, false, false, false, false, false, false] rfl rfl (by kernel_rfl) (fun _ _ _ h => h) (Or.inl ⟨by rfl, ?_⟩) ?_ ?_
  rotate_left
  · intro w'
    go_simp
    with_reducible rfl
  rotate_left
  · simp only [Act.put, List.setIfInBounds_toArray, List.set_cons_zero, List.set_cons_succ, i64_w, i32_w]
    rfl
  refine pure_ (i := 8) (N := some 14) (v := ?_) (a' := ?_) #[true, true, true, false, false, false, true, true, true, false, false, false, false, false] rfl rfl (by kernel_rfl) (fun _ _ _ h => h) (Or.inl ⟨by rfl, ?_⟩) ?_ ?_
  rotate_left
  · intro w'
    go_simp
    with_reducible rfl
  rotate_left
  · simp only [Act.put, List.setIfInBounds_toArray, List.set_cons_zero, List.set_cons_succ, i64_w, i32_w]
    rfl
  refine take_ (i := 3) (N := some 9) (v := ?_) (a' := ?_) #[true, true, true, true, false, false, true, true, true, false, false, false, false, false] rfl rfl (by kernel_rfl) (fun _ _ _ h => h) (Or.inl ⟨by rfl, ?_⟩) hHeld ?_ ?_
  rotate_left
  · intro w' s0
    go_simp
    with_reducible rfl
  rotate_left
  · simp only [Act.put, List.setIfInBounds_toArray, List.set_cons_zero, List.set_cons_succ, i64_w, i32_w]
    rfl
  refine pure_ (i := 4) (N := some 10) (v := ?_) (a' := ?_) #[true, true, true, true, true, false, true, true, true, false, false, false, false, false] rfl rfl (by kernel_rfl) (fun _ _ _ h => h) (Or.inl ⟨by rfl, ?_⟩) ?_ ?_
  rotate_left
  · intro w'
    go_simp
    with_reducible rfl
  rotate_left
  · simp only [Act.put, List.setIfInBounds_toArray, List.set_cons_zero, List.set_cons_succ, i64_w, i32_w]
    rfl
  refine pure_ (i := 5) (N := some 11) (v := ?_) (a' := ?_) #[true, true, true, true, true, true, true, true, true, false, false, false, false, false] rfl rfl (by kernel_rfl) (fun _ _ _ h => h) (Or.inl ⟨by rfl, ?_⟩) ?_ ?_
  rotate_left
  · intro w'
    go_simp
    with_reducible rfl
  rotate_left
  · simp only [Act.put, List.setIfInBounds_toArray, List.set_cons_zero, List.set_cons_succ, i64_w, i32_w]
    rfl
  refine pure_ (i := 12) (N := some 3) (v := ?_) (a' := ?_) #[true, true, true, true, true, true, true, true, true, false, false, false, true, false] rfl rfl (by kernel_rfl) (fun _ _ _ h => h) (Or.inl ⟨by rfl, ?_⟩) ?_ ?_
  rotate_left
  · intro w'
    go_simp
    with_reducible rfl
  rotate_left
  · simp only [Act.put, List.setIfInBounds_toArray, List.set_cons_zero, List.set_cons_succ, i64_w, i32_w]
    rfl
  refine take_ (i := 9) (N := some 15) (v := ?_) (a' := ?_) #[true, true, true, true, true, true, true, true, true, true, false, false, true, false] rfl rfl (by kernel_rfl) (fun _ _ _ h => h) (Or.inl ⟨by rfl, ?_⟩) hHeld ?_ ?_
  rotate_left
  · intro w' s0
    go_simp
    with_reducible rfl
  rotate_left
  · simp only [Act.put, List.setIfInBounds_toArray, List.set_cons_zero, List.set_cons_succ, i64_w, i32_w]
    rfl
  refine pure_ (i := 10) (N := some 16) (v := ?_) (a' := ?_) #[true, true, true, true, true, true, true, true, true, true, true, false, true, false] rfl rfl (by kernel_rfl) (fun _ _ _ h => h) (Or.inl ⟨by rfl, ?_⟩) ?_ ?_
  rotate_left
  · intro w'
    go_simp
    with_reducible rfl
  rotate_left
  · simp only [Act.put, List.setIfInBounds_toArray, List.set_cons_zero, List.set_cons_succ, i64_w, i32_w]
    rfl
  refine pure_ (i := 11) (N := some 17) (v := ?_) (a' := ?_) #[true, true, true, true, true, true, true, true, true, true, true, true, true, false] rfl rfl (by kernel_rfl) (fun _ _ _ h => h) (Or.inl ⟨by rfl, ?_⟩) ?_ ?_
  rotate_left
  · intro w'
    go_simp
    with_reducible rfl
  rotate_left
  · simp only [Act.put, List.setIfInBounds_toArray, List.set_cons_zero, List.set_cons_succ, i64_w, i32_w]
    rfl
  refine pure_ (i := 13) (N := some 4) (v := ?_) (a' := ?_) #[true, true, true, true, true, true, true, true, true, true, true, true, true, true] rfl rfl (by kernel_rfl) (fun _ _ _ h => h) (Or.inl ⟨by rfl, ?_⟩) ?_ ?_
  rotate_left
  · intro w'
    go_simp
    with_reducible rfl
  rotate_left
  · simp only [Act.put, List.setIfInBounds_toArray, List.set_cons_zero, List.set_cons_succ, i64_w, i32_w]
    rfl
  refine done_ (by kernel_rfl) ?_
  have z20 : w1.cell? ⟨g2, 0, none⟩ = some (.int .i64 0) := (blk_cell B2.out 0).trans rfl
  have z21 : w1.cell? ⟨g2, 1, none⟩ = some (.int .i64 0) := (blk_cell B2.out 1).trans rfl
  have z22 : w1.cell? ⟨g2, 2, none⟩ = some (.string ⟨#[]⟩) := (blk_cell B2.out 2).trans rfl
  have z2f := blk_frozen B2.out
  clear hHeld
  obtain ⟨ad, e, x0, x1, x2⟩ := at_T43 (Kd.C_below HR.out E1.out.below0) (k : Int) (by omega) (by have := HK.out; omega)
  subst e
  rw [rd_get HK.out, HX.out] at x0 x1 x2
  simp only [Int.toNat_natCast] at x0 x1 x2
  have hgi : (g : Int) ≤ s.length := by omega
  have g0 : (0 : Int) ≤ g := by omega
  clear hgs
  go_upto_region 8 with ((with_reducible refine gate_dst (N := 5) rfl ?_); refine box_event ?hg (N := 5) ?hd (cs := #[.int .i64 0, .int .i64 0, .string ⟨#[]⟩]) (t := 43) ?hr ?_; (case hd => rfl); (case hg => rfl); (case hr => first | (go_simp; done) | (go_simp; rfl)); intro g5 hgq w2 hbox hb; have hb := Ch.of_below hb; have E2 := Go.Cx.hid (E1.out.drew.f hb); have B5 := Go.Cx.hid hbox; have B2b := Go.Cx.hid (hb.heap (blk_drew B2.out) id); have G5 : w.heap.size ≤ g5 := (by rw [hgq]; exact E1.out.size); have N25 : g2 ≠ g5 := (by have := lt_of_block B2.out; have e : g5 = w1.heap.size := hgq; omega); have N52 := N25.symm; have z20 := hb.cell z20 id; have z21 := hb.cell z21 id; have z22 := hb.cell z22 id; have z2f := blk_frozen B2b.out; have z50 : w2.cell? ⟨g5, 0, none⟩ = some (.int .i64 0) := (blk_cell B5.out 0).trans rfl; have z51 : w2.cell? ⟨g5, 1, none⟩ = some (.int .i64 0) := (blk_cell B5.out 1).trans rfl; have z52 : w2.cell? ⟨g5, 2, none⟩ = some (.string ⟨#[]⟩) := (blk_cell B5.out 2).trans rfl; have z5f := blk_frozen B5.out; clear hbox hgq hb)
  have B5m : Hid (((((w2.setCell ⟨g5, 0, none⟩ (.int .i64 2)).setCell ⟨g5, 1, none⟩ (.int .i64 m)).setCell ⟨g5, 2, none⟩ (.string (str s))).setCell ⟨g5, 2, none⟩ (.string ((str s).extract g s.length))).heap[g5]? = some (.cells #[.int .i64 2, .int .i64 m, .string ((str s).extract g s.length)] 43 (0, 0))) := Go.Cx.hid (set_blk1 (put3 B5.out _ _ _) 2 _ _ rfl)
  have B2m : Hid (((((w2.setCell ⟨g5, 0, none⟩ (.int .i64 2)).setCell ⟨g5, 1, none⟩ (.int .i64 m)).setCell ⟨g5, 2, none⟩ (.string (str s))).setCell ⟨g5, 2, none⟩ (.string ((str s).extract g s.length))).heap[g2]? = some (.cells #[.int .i64 0, .int .i64 0, .string ⟨#[]⟩] 43 (0, 0))) := Go.Cx.hid (((far_set _ N25 _ _).trans (far3 _ N25 _ _ _ _ _ _)).trans B2b.out)
  have E3 : Hid (Ch (fun _ => False) w ((((w2.setCell ⟨g5, 0, none⟩ (.int .i64 2)).setCell ⟨g5, 1, none⟩ (.int .i64 m)).setCell ⟨g5, 2, none⟩ (.string (str s))).setCell ⟨g5, 2, none⟩ (.string ((str s).extract g s.length)))) := Go.Cx.hid ((chn3 E2.out G5 0 1 2 _ _ _).set (.inr G5))
  generalize ((((w2.setCell ⟨g5, 0, none⟩ (.int .i64 2)).setCell ⟨g5, 1, none⟩ (.int .i64 m)).setCell ⟨g5, 2, none⟩ (.string (str s))).setCell ⟨g5, 2, none⟩ (.string ((str s).extract g s.length))) = w3 at B5m B2m E3 ⊢
  clear z20 z21 z22 z2f z50 z51 z52 z5f B5 B2b hc0 hc1 x0 x1 x2 HB1 B2
  have z50 : w3.cell? ⟨g5, 0, none⟩ = some (.int .i64 2) := (blk_cell B5m.out 0).trans rfl
  have z51 : w3.cell? ⟨g5, 1, none⟩ = some (.int .i64 m) := (blk_cell B5m.out 1).trans rfl
  have z52 : w3.cell? ⟨g5, 2, none⟩ = some (.string ((str s).extract g s.length)) := (blk_cell B5m.out 2).trans rfl
  have z20 : w3.cell? ⟨g2, 0, none⟩ = some (.int .i64 0) := (blk_cell B2m.out 0).trans rfl
  have z21 : w3.cell? ⟨g2, 1, none⟩ = some (.int .i64 0) := (blk_cell B2m.out 1).trans rfl
  have z22 : w3.cell? ⟨g2, 2, none⟩ = some (.string ⟨#[]⟩) := (blk_cell B2m.out 2).trans rfl
  have z2f := blk_frozen B2m.out
  go_wp2
  rw [strFrom]
  refine bodyPost_ret (results_cell_row rfl _ _ g2 43 #[.int .i64 2, .int .i64 m, .string (str (s.drop g))] (0, 0) _ rfl (put3 B2m.out _ _ _) Try.underlying43 rfl (by kernel_rfl)) rfl ?_
  exact ⟨rfl, chn3 E3.out G2 0 1 2 _ _ _⟩
set_option maxRecDepth 100000 in
set_option maxHeartbeats 1000000 in
theorem cur_num (B : Nat) (A0 : Option Addr) (c0 : Nat) (l0 : List S43) (k g : Nat) (w : World) (H : Cur w B A0 c0 l0 k g) (hk : k < l0.length) (kd : Int) (m : Nat) (s : ByteArray) (hx : l0[k] = ⟨kd, m, s⟩) (h2 : kd ≠ 2) (hm : m ≤ 1000000) (hgs : g ≤ m) :
    Calls Try.prog 32 #[.pointer (some ⟨B, 0, none⟩)] w fun e w' => e = .returned (.agg #[.int .i64 kd, .int .i64 ((m - g : Nat) : Int), .string s]) ∧ Ch (fun _ => False) w w' := by
  have t2 : (kd == 2) = false := beq_eq_false_iff_ne.2 h2
  have hmg : (m : Int) - (g : Int) = ((m - g : Nat) : Int) := by omega
  obtain ⟨n, hn⟩ : ∃ n, n = l0.length := ⟨_, rfl⟩
  have hb := H.blk
  rw [← hn] at hb
  have okk : Ok ((k : Nat) : Int) := Ok.nat (by have := H.kb; omega)
  have okg : Ok ((g : Nat) : Int) := Ok.nat (by have := H.gb; omega)
  have hki : (k : Int) < (n : Int) := by omega
  have k0 : (0 : Int) ≤ (k : Int) := by omega
  have HB := Go.Cx.hid hb
  have HR := Go.Cx.hid H.row
  have HX := Go.Cx.hid hx
  have HK := Go.Cx.hid hk
  clear H hb hn hx
  go_enter Try.func32, Try.ntmps32
  go_upto_region 1 with ((with_reducible refine gate_dst (N := 2) rfl ?_); refine box_event ?hg (N := 2) ?hd (cs := #[.int .i64 0, .int .i64 0, .string ⟨#[]⟩]) (t := 43) ?hr ?_; (case hd => rfl); (case hg => rfl); (case hr => first | (go_simp; done) | (go_simp; rfl)); intro g2 hgq w1 hbox hb; have hb := Ch.of_below hb; have B2 := Go.Cx.hid hbox; have E1 := Go.Cx.hid hb; have HB1 := Go.Cx.hid (hb.heap HB.out id); have G2 : w.heap.size ≤ g2 := (by omega); clear hbox hgq hb)
  have hc0 : w1.cell? ⟨B, 0, none⟩ = some (.slice A0 n c0) := (blk_cell HB1.out 0).trans rfl
  have hc1 : w1.cell? ⟨B, 1, none⟩ = some (.complex .f64 (fl (k : Nat)) (fl (g : Nat))) := (blk_cell HB1.out 1).trans rfl
  refine start_ (n := 14) (S := fun w' => w'.cell? ⟨B, 1, none⟩ = some (.complex .f64 (fl (k : Nat)) (fl (g : Nat)))) (ds := []) #[false, false, false, false, false, false, false, false, false, false, false, false, false, false] (by kernel_rfl) rfl rfl (hc1) (fun hHeld => ?_)
  refine pure_ (i := 0) (N := some 6) (v := ?_) (a' := ?_) #[true, false, false, false, false, false, false, false, false, false, false, false, false, false] rfl rfl (by kernel_rfl) (fun _ _ _ h => h) (Or.inl ⟨by rfl, ?_⟩) ?_ ?_
  rotate_left
  · intro w'
    go_simp
    with_reducible rfl
  rotate_left
  · simp only [Act.put, List.setIfInBounds_toArray, List.set_cons_zero, List.set_cons_succ, i64_w, i32_w]
    rfl
  refine pure_ (i := 1) (N := some 7) (v := ?_) (a' := ?_) #[true, true, false, false, false, false, false, false, false, false, false, false, false, false] rfl rfl (by kernel_rfl) (fun _ _ _ h => h) (Or.inl ⟨by rfl, ?_⟩) ?_ ?_
  rotate_left
  · intro w'
    go_simp
    with_reducible rfl
  rotate_left
  · simp only [Act.put, List.setIfInBounds_toArray, List.set_cons_zero, List.set_cons_succ, i64_w, i32_w]
    rfl
  refine pure_ (i := 2) (N := some 8) (v := ?_) (a' := ?_) #[true, true, true, false, false, false, false, false, false, false, false, false, false, false] rfl rfl (by kernel_rfl) (fun _ _ _ h => h) (Or.inl ⟨by rfl, ?_⟩) ?_ ?_
  rotate_left
  · intro w'
    go_simp
    with_reducible rfl
  rotate_left
  · simp only [Act.put, List.setIfInBounds_toArray, List.set_cons_zero, List.set_cons_succ, i64_w, i32_w]
    rfl
  refine pure_ (i := 6) (N := some 12) (v := ?_) (a' := ?_) #[true, true, true, false, false, false, true, false, false, false, false, false, false, false] rfl rfl (by kernel_rfl) (fun _ _ _ h => h) (Or.inl ⟨by rfl, ?_⟩) ?_ ?_
  rotate_left
  · intro w'
    go_simp
    with_reducible rfl
  rotate_left
  · simp only [Act.put, List.setIfInBounds_toArray, List.set_cons_zero, List.set_cons_succ, i64_w, i32_w]
    rfl
  refine pure_ (i := 7) (N := some 13) (v := ?_) (a' := ?_) #[true, true, true, false, false, false, true, true, false, false, false, false, false, false] rfl rfl (by kernel_rfl) (fun _ _ _ h => h) (Or.inl ⟨by rfl, ?_⟩) ?_ ?_
  rotate_left
  · intro w'
    go_simp
    with_reducible rfl
  rotate_left
  · simp only [Act.put, List.setIfInBounds_toArray, List.set_cons_zero, List.set_cons_succ, i64_w, i32_w]
    rfl
  refine pure_ (i := 8) (N := some 14) (v := ?_) (a' := ?_) #[true, true, true, false, false, false, true, true, true, false, false, false, false, false] rfl rfl (by kernel_rfl) (fun _ _ _ h => h) (Or.inl ⟨by rfl, ?_⟩) ?_ ?_
  rotate_left
  · intro w'
    go_simp
    with_reducible rfl
  rotate_left
  · simp only [Act.put, List.setIfInBounds_toArray, List.set_cons_zero, List.set_cons_succ, i64_w, i32_w]
    rfl
  refine take_ (i := 3) (N := some 9) (v := ?_) (a' := ?_) #[true, true, true, true, false, false, true, true, true, false, false, false, false, false] rfl rfl (by kernel_rfl) (fun _ _ _ h => h) (Or.inl ⟨by rfl, ?_⟩) hHeld ?_ ?_
  rotate_left
  · intro w' s0
    go_simp
    with_reducible rfl
  rotate_left
  · simp only [Act.put, List.setIfInBounds_toArray, List.set_cons_zero, List.set_cons_succ, i64_w, i32_w]
    rfl
  refine pure_ (i := 4) (N := some 10) (v := ?_) (a' := ?_) #[true, true, true, true, true, false, true, true, true, false, false, false, false, false] rfl rfl (by kernel_rfl) (fun _ _ _ h => h) (Or.inl ⟨by rfl, ?_⟩) ?_ ?_
  rotate_left
  · intro w'
    go_simp
    with_reducible rfl
  rotate_left
  · simp only [Act.put, List.setIfInBounds_toArray, List.set_cons_zero, List.set_cons_succ, i64_w, i32_w]
    rfl
  refine pure_ (i := 5) (N := some 11) (v := ?_) (a' := ?_) #[true, true, true, true, true, true, true, true, true, false, false, false, false, false] rfl rfl (by kernel_rfl) (fun _ _ _ h => h) (Or.inl ⟨by rfl, ?_⟩) ?_ ?_
  rotate_left
  · intro w'
    go_simp
    with_reducible rfl
  rotate_left
  · simp only [Act.put, List.setIfInBounds_toArray, List.set_cons_zero, List.set_cons_succ, i64_w, i32_w]
    rfl
  refine pure_ (i := 12) (N := some 3) (v := ?_) (a' := ?_) #[true, true, true, true, true, true, true, true, true, false, false, false, true, false] rfl rfl (by kernel_rfl) (fun _ _ _ h => h) (Or.inl ⟨by rfl, ?_⟩) ?_ ?_
  rotate_left
  · intro w'
    go_simp
    with_reducible rfl
  rotate_left
  · simp only [Act.put, List.setIfInBounds_toArray, List.set_cons_zero, List.set_cons_succ, i64_w, i32_w]
    rfl
  refine take_ (i := 9) (N := some 15) (v := ?_) (a' := ?_) #[true, true, true, true, true, true, true, true, true, true, false, false, true, false] rfl rfl (by kernel_rfl) (fun _ _ _ h => h) (Or.inl ⟨by rfl, ?_⟩) hHeld ?_ ?_
  rotate_left
  · intro w' s0
    go_simp
    with_reducible rfl
  rotate_left
  · simp only [Act.put, List.setIfInBounds_toArray, List.set_cons_zero, List.set_cons_succ, i64_w, i32_w]
    rfl
  refine pure_ (i := 10) (N := some 16) (v := ?_) (a' := ?_) #[true, true, true, true, true, true, true, true, true, true, true, false, true, false] rfl rfl (by kernel_rfl) (fun _ _ _ h => h) (Or.inl ⟨by rfl, ?_⟩) ?_ ?_
  rotate_left
  · intro w'
    go_simp
    with_reducible rfl
  rotate_left
  · simp only [Act.put, List.setIfInBounds_toArray, List.set_cons_zero, List.set_cons_succ, i64_w, i32_w]
    rfl
  refine pure_ (i := 11) (N := some 17) (v := ?_) (a' := ?_) #[true, true, true, true, true, true, true, true, true, true, true, true, true, false] rfl rfl (by kernel_rfl) (fun _ _ _ h => h) (Or.inl ⟨by rfl, ?_⟩) ?_ ?_
  rotate_left
  · intro w'
    go_simp
    with_reducible rfl
  rotate_left
  · simp only [Act.put, List.setIfInBounds_toArray, List.set_cons_zero, List.set_cons_succ, i64_w, i32_w]
    rfl
  refine pure_ (i := 13) (N := some 4) (v := ?_) (a' := ?_) #[true, true, true, true, true, true, true, true, true, true, true, true, true, true] rfl rfl (by kernel_rfl) (fun _ _ _ h => h) (Or.inl ⟨by rfl, ?_⟩) ?_ ?_
  rotate_left
  · intro w'
    go_simp
    with_reducible rfl
  rotate_left
  · simp only [Act.put, List.setIfInBounds_toArray, List.set_cons_zero, List.set_cons_succ, i64_w, i32_w]
    rfl
  refine done_ (by kernel_rfl) ?_
  have z20 : w1.cell? ⟨g2, 0, none⟩ = some (.int .i64 0) := (blk_cell B2.out 0).trans rfl
  have z21 : w1.cell? ⟨g2, 1, none⟩ = some (.int .i64 0) := (blk_cell B2.out 1).trans rfl
  have z22 : w1.cell? ⟨g2, 2, none⟩ = some (.string ⟨#[]⟩) := (blk_cell B2.out 2).trans rfl
  have z2f := blk_frozen B2.out
  clear hHeld
  obtain ⟨ad, e, x0, x1, x2⟩ := at_T43 (Kd.C_below HR.out E1.out.below0) (k : Int) (by omega) (by have := HK.out; omega)
  subst e
  rw [rd_get HK.out, HX.out] at x0 x1 x2
  simp only [Int.toNat_natCast] at x0 x1 x2
  have hmi : (m : Int) ≤ 1000000 := by omega
  have m0 : (0 : Int) ≤ (m : Int) := by omega
  have g0 : (0 : Int) ≤ g := by omega
  have hgi : (g : Int) ≤ (m : Int) := by omega
  clear hgs hm h2
  go_upto_region 8 with ((with_reducible refine gate_dst (N := 5) rfl ?_); refine box_event ?hg (N := 5) ?hd (cs := #[.int .i64 0, .int .i64 0, .string ⟨#[]⟩]) (t := 43) ?hr ?_; (case hd => rfl); (case hg => rfl); (case hr => first | (go_simp; done) | (go_simp; rfl)); intro g5 hgq w2 hbox hb; have hb := Ch.of_below hb; have E2 := Go.Cx.hid (E1.out.drew.f hb); have B5 := Go.Cx.hid hbox; have B2b := Go.Cx.hid (hb.heap (blk_drew B2.out) id); have G5 : w.heap.size ≤ g5 := (by rw [hgq]; exact E1.out.size); have N25 : g2 ≠ g5 := (by have := lt_of_block B2.out; have e : g5 = w1.heap.size := hgq; omega); have N52 := N25.symm; have z20 := hb.cell z20 id; have z21 := hb.cell z21 id; have z22 := hb.cell z22 id; have z2f := blk_frozen B2b.out; have z50 : w2.cell? ⟨g5, 0, none⟩ = some (.int .i64 0) := (blk_cell B5.out 0).trans rfl; have z51 : w2.cell? ⟨g5, 1, none⟩ = some (.int .i64 0) := (blk_cell B5.out 1).trans rfl; have z52 : w2.cell? ⟨g5, 2, none⟩ = some (.string ⟨#[]⟩) := (blk_cell B5.out 2).trans rfl; have z5f := blk_frozen B5.out; clear hbox hgq hb)
  have B5m : Hid (((((w2.setCell ⟨g5, 0, none⟩ (.int .i64 kd)).setCell ⟨g5, 1, none⟩ (.int .i64 (m : Nat))).setCell ⟨g5, 2, none⟩ (.string s)).setCell ⟨g5, 1, none⟩ (.int .i64 ((m - g : Nat) : Int))).heap[g5]? = some (.cells #[.int .i64 kd, .int .i64 ((m - g : Nat) : Int), .string s] 43 (0, 0))) := Go.Cx.hid (set_blk1 (put3 B5.out _ _ _) 1 _ _ rfl)
  have B2m : Hid (((((w2.setCell ⟨g5, 0, none⟩ (.int .i64 kd)).setCell ⟨g5, 1, none⟩ (.int .i64 (m : Nat))).setCell ⟨g5, 2, none⟩ (.string s)).setCell ⟨g5, 1, none⟩ (.int .i64 ((m - g : Nat) : Int))).heap[g2]? = some (.cells #[.int .i64 0, .int .i64 0, .string ⟨#[]⟩] 43 (0, 0))) := Go.Cx.hid (((far_set _ N25 _ _).trans (far3 _ N25 _ _ _ _ _ _)).trans B2b.out)
  have E3 : Hid (Ch (fun _ => False) w ((((w2.setCell ⟨g5, 0, none⟩ (.int .i64 kd)).setCell ⟨g5, 1, none⟩ (.int .i64 (m : Nat))).setCell ⟨g5, 2, none⟩ (.string s)).setCell ⟨g5, 1, none⟩ (.int .i64 ((m - g : Nat) : Int)))) := Go.Cx.hid ((chn3 E2.out G5 0 1 2 _ _ _).set (.inr G5))
  generalize ((((w2.setCell ⟨g5, 0, none⟩ (.int .i64 kd)).setCell ⟨g5, 1, none⟩ (.int .i64 (m : Nat))).setCell ⟨g5, 2, none⟩ (.string s)).setCell ⟨g5, 1, none⟩ (.int .i64 ((m - g : Nat) : Int))) = w3 at B5m B2m E3 ⊢
  clear z20 z21 z22 z2f z50 z51 z52 z5f B5 B2b hc0 hc1 x0 x1 x2 HB1 B2
  have z50 : w3.cell? ⟨g5, 0, none⟩ = some (.int .i64 kd) := (blk_cell B5m.out 0).trans rfl
  have z51 : w3.cell? ⟨g5, 1, none⟩ = some (.int .i64 ((m - g : Nat) : Int)) := (blk_cell B5m.out 1).trans rfl
  have z52 : w3.cell? ⟨g5, 2, none⟩ = some (.string s) := (blk_cell B5m.out 2).trans rfl
  have z20 : w3.cell? ⟨g2, 0, none⟩ = some (.int .i64 0) := (blk_cell B2m.out 0).trans rfl
  have z21 : w3.cell? ⟨g2, 1, none⟩ = some (.int .i64 0) := (blk_cell B2m.out 1).trans rfl
  have z22 : w3.cell? ⟨g2, 2, none⟩ = some (.string ⟨#[]⟩) := (blk_cell B2m.out 2).trans rfl
  have z2f := blk_frozen B2m.out
  go_wp2
  refine bodyPost_ret (results_cell_row rfl _ _ g2 43 #[.int .i64 kd, .int .i64 ((m - g : Nat) : Int), .string s] (0, 0) _ rfl (put3 B2m.out _ _ _) Try.underlying43 rfl (by kernel_rfl)) rfl ?_
  exact ⟨rfl, chn3 E3.out G2 0 1 2 _ _ _⟩
set_option maxRecDepth 100000 in
set_option maxHeartbeats 1000000 in
theorem cur_take_whole (B : Nat) (A0 : Option Addr) (n0 c0 : Nat) (k g m L : Nat) (x0 x1 : Int) (x2 : ByteArray) (w : World) (hb : w.heap[B]? = some (.cells #[.slice A0 n0 c0, .complex .f64 (fl (k : Nat)) (fl (g : Nat))] 62 (0, 0))) (hk : k ≤ 900000) (hg : g ≤ 900000)
    (HP : ∀ w', Ch (fun _ => False) w w' → Calls Try.prog 32 #[.pointer (some ⟨B, 0, none⟩)] w' fun e w'' => e = .returned (.agg #[.int .i64 x0, .int .i64 x1, .string x2]) ∧ Ch (fun _ => False) w' w'')
    (HL : ∀ w', Calls Try.prog 35 #[.agg #[.int .i64 x0, .int .i64 x1, .string x2]] w' fun e w'' => e = .returned (.int .i64 (L : Int)) ∧ Ch (fun _ => False) w' w'') (hm : L ≤ m) :
    Calls Try.prog 33 #[.pointer (some ⟨B, 0, none⟩), .int .i64 (m : Int)] w fun e w' => e = .returned (.agg #[.int .i64 x0, .int .i64 x1, .string x2]) ∧ Ch (fun i => i = B) w w' ∧ w'.heap[B]? = some (.cells #[.slice A0 n0 c0, .complex .f64 (fl ((k + 1 : Nat) : Int)) (fl ((0 : Nat) : Int))] 62 (0, 0)) := by
  have okk : Ok ((k : Nat) : Int) := Ok.nat (by omega)
  have okg : Ok ((g : Nat) : Int) := Ok.nat (by omega)
  have hmi : (L : Int) ≤ (m : Int) := by omega
  have HPH := Go.Cx.hid HP
  have HLH := Go.Cx.hid HL
  have HB := Go.Cx.hid hb
  have LB := lt_of_block hb
  clear HP HL hb hm hk hg
  go_enter Try.func33, Try.ntmps33
  go_wp2_with (first
    | ((with_reducible refine gate_dst (N := 4) rfl ?_); refine box_event ?hg (N := 4) ?hd (cs := #[.int .i64 0, .int .i64 0, .string ⟨#[]⟩]) (t := 43) ?hr ?_; (case hd => rfl); (case hg => rfl); (case hr => first | (go_simp; done) | (go_simp; rfl)); intro g4 hgq w1 hbox hb; have hb := Ch.of_below hb; have E1 := Go.Cx.hid hb; have B4 := Go.Cx.hid hbox; have G4 : w.heap.size ≤ g4 := (by omega); clear hbox hgq hb)
    | (go_at_call 32; refine (HPH.out _ E1.out).mono ?_; clear HPH; rintro e w2 ⟨rfl, hb⟩; have E2 := Go.Cx.hid (E1.out.f hb); have B4a := Go.Cx.hid (hb.heap B4.out id); clear hb)
    | ((with_reducible refine gate_dst (N := 5) rfl ?_); refine box_event ?hg (N := 5) ?hd (cs := #[.int .i64 0, .int .i64 0, .string ⟨#[]⟩]) (t := 43) ?hr ?_; (case hd => rfl); (case hg => rfl); (case hr => first | (go_simp; done) | (go_simp; rfl)); intro g5 hgq w3 hbox hb; have hb := Ch.of_below hb; have E3 := Go.Cx.hid (E2.out.f hb); have B5 := Go.Cx.hid hbox; have B4b := Go.Cx.hid (hb.heap B4a.out id); have G5 : w.heap.size ≤ g5 := (by rw [hgq]; exact E2.out.size); have N45 : g4 ≠ g5 := (by have := lt_of_block B4a.out; have e : g5 = w2.heap.size := hgq; omega); have z50 : w3.cell? ⟨g5, 0, none⟩ = some (.int .i64 0) := (blk_cell B5.out 0).trans rfl; have z51 : w3.cell? ⟨g5, 1, none⟩ = some (.int .i64 0) := (blk_cell B5.out 1).trans rfl; have z52 : w3.cell? ⟨g5, 2, none⟩ = some (.string ⟨#[]⟩) := (blk_cell B5.out 2).trans rfl; have z5f := blk_frozen B5.out; clear hbox hgq hb)
    | (go_at_call 35; refine (HLH.out _).mono ?_; clear HLH; rintro e w4 ⟨rfl, hb⟩; have E4 : Hid (Ch (fun _ => False) w w4) := Go.Cx.hid ((chn3 E3.out G5 0 1 2 _ _ _).f hb); have NB4 : B ≠ g4 := (by omega); have NB5 : B ≠ g5 := (by omega); have B5m := Go.Cx.hid (hb.heap (put3 B5.out _ _ _) id); have B4m := Go.Cx.hid (hb.heap ((far3 _ N45 _ _ _ _ _ _).trans B4b.out) id); have BBm := Go.Cx.hid (E4.out.heap HB.out id); clear hb z50 z51 z52 z5f B5 B4 B4a B4b E1 E2 E3; have z50 : w4.cell? ⟨g5, 0, none⟩ = some (.int .i64 x0) := (blk_cell B5m.out 0).trans rfl; have z51 : w4.cell? ⟨g5, 1, none⟩ = some (.int .i64 x1) := (blk_cell B5m.out 1).trans rfl; have z52 : w4.cell? ⟨g5, 2, none⟩ = some (.string x2) := (blk_cell B5m.out 2).trans rfl; have z5f := blk_frozen B5m.out; have z40 : w4.cell? ⟨g4, 0, none⟩ = some (.int .i64 0) := (blk_cell B4m.out 0).trans rfl; have z41 : w4.cell? ⟨g4, 1, none⟩ = some (.int .i64 0) := (blk_cell B4m.out 1).trans rfl; have z42 : w4.cell? ⟨g4, 2, none⟩ = some (.string ⟨#[]⟩) := (blk_cell B4m.out 2).trans rfl; have z4f := blk_frozen B4m.out; have zb1 : w4.cell? ⟨B, 1, none⟩ = some (.complex .f64 (fl (k : Nat)) (fl (g : Nat))) := (blk_cell BBm.out 1).trans rfl; have zbf := blk_frozen BBm.out; have NB4s := NB4.symm; have NB5s := NB5.symm; have N54 := N45.symm))
  refine bodyPost_ret (results_cell_row rfl _ _ g4 43 #[.int .i64 x0, .int .i64 x1, .string x2] (0, 0) _ rfl (put3 ((far_set _ NB4.symm _ _).trans B4m.out) _ _ _) Try.underlying43 rfl (by kernel_rfl)) rfl ?_
  refine ⟨rfl, chn3 ((Ch.weaken (T := fun i => i = B) E4.out (fun _ _ h => h.elim)).set (.inl rfl)) G4 0 1 2 _ _ _, (far3 _ NB4 _ _ _ _ _ _).trans (set_blk1 BBm.out 1 _ _ ?_)⟩
  rw [show ((k + 1 : Nat) : Int) = (k : Int) + 1 from by omega, Int.natCast_zero, fl_zero]; rfl
set_option maxRecDepth 100000 in
set_option maxHeartbeats 1000000 in
theorem cur_take_put (B : Nat) (A0 : Option Addr) (n0 c0 : Nat) (k g m : Nat) (x1 : Int) (s : List UInt8) (w : World) (hb : w.heap[B]? = some (.cells #[.slice A0 n0 c0, .complex .f64 (fl (k : Nat)) (fl (g : Nat))] 62 (0, 0))) (hk : k ≤ 900000) (hg : g ≤ 900000)
    (HP : ∀ w', Ch (fun _ => False) w w' → Calls Try.prog 32 #[.pointer (some ⟨B, 0, none⟩)] w' fun e w'' => e = .returned (.agg #[.int .i64 2, .int .i64 x1, .string (str s)]) ∧ Ch (fun _ => False) w' w'')
    (HL : ∀ w', Calls Try.prog 35 #[.agg #[.int .i64 2, .int .i64 x1, .string (str s)]] w' fun e w'' => e = .returned (.int .i64 (s.length : Int)) ∧ Ch (fun _ => False) w' w'') (hm : m < s.length) (hm2 : m ≤ 900000) :
    Calls Try.prog 33 #[.pointer (some ⟨B, 0, none⟩), .int .i64 (m : Int)] w fun e w' => e = .returned (.agg #[.int .i64 2, .int .i64 x1, .string (str (s.take m))]) ∧ Ch (fun i => i = B) w w' ∧ w'.heap[B]? = some (.cells #[.slice A0 n0 c0, .complex .f64 (fl (k : Nat)) (fl ((g + m : Nat) : Int))] 62 (0, 0)) := by
  have okk : Ok ((k : Nat) : Int) := Ok.nat (by omega)
  have okg : Ok ((g : Nat) : Int) := Ok.nat (by omega)
  have okm : Ok ((m : Nat) : Int) := Ok.nat (by omega)
  have hmi : (m : Int) < (s.length : Int) := by omega
  have hmj : (m : Int) ≤ (s.length : Int) := by omega
  have m0 : (0 : Int) ≤ (m : Int) := by omega
  have HPH := Go.Cx.hid HP
  have HLH := Go.Cx.hid HL
  have HB := Go.Cx.hid hb
  have LB := lt_of_block hb
  clear HP HL hb hm hk hg hm2
  go_enter Try.func33, Try.ntmps33
  go_wp2_with (first
    | ((with_reducible refine gate_dst (N := 4) rfl ?_); refine box_event ?hg (N := 4) ?hd (cs := #[.int .i64 0, .int .i64 0, .string ⟨#[]⟩]) (t := 43) ?hr ?_; (case hd => rfl); (case hg => rfl); (case hr => first | (go_simp; done) | (go_simp; rfl)); intro g4 hgq w1 hbox hb; have hb := Ch.of_below hb; have E1 := Go.Cx.hid hb; have B4 := Go.Cx.hid hbox; have G4 : w.heap.size ≤ g4 := (by omega); clear hbox hgq hb)
    | (go_at_call 32; refine (HPH.out _ E1.out).mono ?_; clear HPH; rintro e w2 ⟨rfl, hb⟩; have E2 := Go.Cx.hid (E1.out.f hb); have B4a := Go.Cx.hid (hb.heap B4.out id); clear hb)
    | ((with_reducible refine gate_dst (N := 5) rfl ?_); refine box_event ?hg (N := 5) ?hd (cs := #[.int .i64 0, .int .i64 0, .string ⟨#[]⟩]) (t := 43) ?hr ?_; (case hd => rfl); (case hg => rfl); (case hr => first | (go_simp; done) | (go_simp; rfl)); intro g5 hgq w3 hbox hb; have hb := Ch.of_below hb; have E3 := Go.Cx.hid (E2.out.f hb); have B5 := Go.Cx.hid hbox; have B4b := Go.Cx.hid (hb.heap B4a.out id); have G5 : w.heap.size ≤ g5 := (by rw [hgq]; exact E2.out.size); have N45 : g4 ≠ g5 := (by have := lt_of_block B4a.out; have e : g5 = w2.heap.size := hgq; omega); have z50 : w3.cell? ⟨g5, 0, none⟩ = some (.int .i64 0) := (blk_cell B5.out 0).trans rfl; have z51 : w3.cell? ⟨g5, 1, none⟩ = some (.int .i64 0) := (blk_cell B5.out 1).trans rfl; have z52 : w3.cell? ⟨g5, 2, none⟩ = some (.string ⟨#[]⟩) := (blk_cell B5.out 2).trans rfl; have z5f := blk_frozen B5.out; clear hbox hgq hb)
    | (go_at_call 35; refine (HLH.out _).mono ?_; clear HLH; rintro e w4 ⟨rfl, hb⟩; have E4 : Hid (Ch (fun _ => False) w w4) := Go.Cx.hid ((chn3 E3.out G5 0 1 2 _ _ _).f hb); have NB4 : B ≠ g4 := (by omega); have NB5 : B ≠ g5 := (by omega); have B5m := Go.Cx.hid (hb.heap (put3 B5.out _ _ _) id); have B4m := Go.Cx.hid (hb.heap ((far3 _ N45 _ _ _ _ _ _).trans B4b.out) id); have BBm := Go.Cx.hid (E4.out.heap HB.out id); clear hb z50 z51 z52 z5f B5 B4 B4a B4b E1 E2 E3; have z50 : w4.cell? ⟨g5, 0, none⟩ = some (.int .i64 2) := (blk_cell B5m.out 0).trans rfl; have z51 : w4.cell? ⟨g5, 1, none⟩ = some (.int .i64 x1) := (blk_cell B5m.out 1).trans rfl; have z52 : w4.cell? ⟨g5, 2, none⟩ = some (.string (str s)) := (blk_cell B5m.out 2).trans rfl; have z5f := blk_frozen B5m.out; have z40 : w4.cell? ⟨g4, 0, none⟩ = some (.int .i64 0) := (blk_cell B4m.out 0).trans rfl; have z41 : w4.cell? ⟨g4, 1, none⟩ = some (.int .i64 0) := (blk_cell B4m.out 1).trans rfl; have z42 : w4.cell? ⟨g4, 2, none⟩ = some (.string ⟨#[]⟩) := (blk_cell B4m.out 2).trans rfl; have z4f := blk_frozen B4m.out; have zb1 : w4.cell? ⟨B, 1, none⟩ = some (.complex .f64 (fl (k : Nat)) (fl (g : Nat))) := (blk_cell BBm.out 1).trans rfl; have zbf := blk_frozen BBm.out; have NB4s := NB4.symm; have NB5s := NB5.symm; have N54 := N45.symm))
  rw [strFront]
  refine bodyPost_ret (results_cell_row rfl _ _ g4 43 #[.int .i64 2, .int .i64 x1, .string (str (s.take m))] (0, 0) _ rfl (put3 ((far_set _ N45 _ _).trans ((far_set _ NB4.symm _ _).trans B4m.out)) _ _ _) Try.underlying43 rfl (by kernel_rfl)) rfl ?_
  refine ⟨rfl, chn3 (((Ch.weaken (T := fun i => i = B) E4.out (fun _ _ h => h.elim)).set (.inl rfl)).set (.inr G5)) G4 0 1 2 _ _ _, (far3 _ NB4 _ _ _ _ _ _).trans ((far_set _ NB5 _ _).trans (set_blk1 BBm.out 1 _ _ ?_))⟩
  rw [show ((g + m : Nat) : Int) = (g : Int) + m from by omega]; rfl
set_option maxRecDepth 100000 in
set_option maxHeartbeats 1000000 in
theorem cur_take_num (B : Nat) (A0 : Option Addr) (n0 c0 : Nat) (k g m L : Nat) (x0 : Int) (x2 : ByteArray) (h2 : x0 ≠ 2) (w : World) (hb : w.heap[B]? = some (.cells #[.slice A0 n0 c0, .complex .f64 (fl (k : Nat)) (fl (g : Nat))] 62 (0, 0))) (hk : k ≤ 900000) (hg : g ≤ 900000)
    (HP : ∀ w', Ch (fun _ => False) w w' → Calls Try.prog 32 #[.pointer (some ⟨B, 0, none⟩)] w' fun e w'' => e = .returned (.agg #[.int .i64 x0, .int .i64 (L : Int), .string x2]) ∧ Ch (fun _ => False) w' w'')
    (HL : ∀ w', Calls Try.prog 35 #[.agg #[.int .i64 x0, .int .i64 (L : Int), .string x2]] w' fun e w'' => e = .returned (.int .i64 (L : Int)) ∧ Ch (fun _ => False) w' w'') (hm : m < L) (hm2 : m ≤ 900000) :
    Calls Try.prog 33 #[.pointer (some ⟨B, 0, none⟩), .int .i64 (m : Int)] w fun e w' => e = .returned (.agg #[.int .i64 x0, .int .i64 (m : Int), .string x2]) ∧ Ch (fun i => i = B) w w' ∧ w'.heap[B]? = some (.cells #[.slice A0 n0 c0, .complex .f64 (fl (k : Nat)) (fl ((g + m : Nat) : Int))] 62 (0, 0)) := by
  have okk : Ok ((k : Nat) : Int) := Ok.nat (by omega)
  have okg : Ok ((g : Nat) : Int) := Ok.nat (by omega)
  have okm : Ok ((m : Nat) : Int) := Ok.nat (by omega)
  have t2 : (x0 == 2) = false := beq_eq_false_iff_ne.2 h2
  have hmi : (m : Int) < (L : Int) := by omega
  have HPH := Go.Cx.hid HP
  have HLH := Go.Cx.hid HL
  have HB := Go.Cx.hid hb
  have LB := lt_of_block hb
  clear HP HL hb hm hk hg hm2 h2
  go_enter Try.func33, Try.ntmps33
  go_wp2_with (first
    | ((with_reducible refine gate_dst (N := 4) rfl ?_); refine box_event ?hg (N := 4) ?hd (cs := #[.int .i64 0, .int .i64 0, .string ⟨#[]⟩]) (t := 43) ?hr ?_; (case hd => rfl); (case hg => rfl); (case hr => first | (go_simp; done) | (go_simp; rfl)); intro g4 hgq w1 hbox hb; have hb := Ch.of_below hb; have E1 := Go.Cx.hid hb; have B4 := Go.Cx.hid hbox; have G4 : w.heap.size ≤ g4 := (by omega); clear hbox hgq hb)
    | (go_at_call 32; refine (HPH.out _ E1.out).mono ?_; clear HPH; rintro e w2 ⟨rfl, hb⟩; have E2 := Go.Cx.hid (E1.out.f hb); have B4a := Go.Cx.hid (hb.heap B4.out id); clear hb)
    | ((with_reducible refine gate_dst (N := 5) rfl ?_); refine box_event ?hg (N := 5) ?hd (cs := #[.int .i64 0, .int .i64 0, .string ⟨#[]⟩]) (t := 43) ?hr ?_; (case hd => rfl); (case hg => rfl); (case hr => first | (go_simp; done) | (go_simp; rfl)); intro g5 hgq w3 hbox hb; have hb := Ch.of_below hb; have E3 := Go.Cx.hid (E2.out.f hb); have B5 := Go.Cx.hid hbox; have B4b := Go.Cx.hid (hb.heap B4a.out id); have G5 : w.heap.size ≤ g5 := (by rw [hgq]; exact E2.out.size); have N45 : g4 ≠ g5 := (by have := lt_of_block B4a.out; have e : g5 = w2.heap.size := hgq; omega); have z50 : w3.cell? ⟨g5, 0, none⟩ = some (.int .i64 0) := (blk_cell B5.out 0).trans rfl; have z51 : w3.cell? ⟨g5, 1, none⟩ = some (.int .i64 0) := (blk_cell B5.out 1).trans rfl; have z52 : w3.cell? ⟨g5, 2, none⟩ = some (.string ⟨#[]⟩) := (blk_cell B5.out 2).trans rfl; have z5f := blk_frozen B5.out; clear hbox hgq hb)
    | (go_at_call 35; refine (HLH.out _).mono ?_; clear HLH; rintro e w4 ⟨rfl, hb⟩; have E4 : Hid (Ch (fun _ => False) w w4) := Go.Cx.hid ((chn3 E3.out G5 0 1 2 _ _ _).f hb); have NB4 : B ≠ g4 := (by omega); have NB5 : B ≠ g5 := (by omega); have B5m := Go.Cx.hid (hb.heap (put3 B5.out _ _ _) id); have B4m := Go.Cx.hid (hb.heap ((far3 _ N45 _ _ _ _ _ _).trans B4b.out) id); have BBm := Go.Cx.hid (E4.out.heap HB.out id); clear hb z50 z51 z52 z5f B5 B4 B4a B4b E1 E2 E3; have z50 : w4.cell? ⟨g5, 0, none⟩ = some (.int .i64 x0) := (blk_cell B5m.out 0).trans rfl; have z51 : w4.cell? ⟨g5, 1, none⟩ = some (.int .i64 (L : Int)) := (blk_cell B5m.out 1).trans rfl; have z52 : w4.cell? ⟨g5, 2, none⟩ = some (.string x2) := (blk_cell B5m.out 2).trans rfl; have z5f := blk_frozen B5m.out; have z40 : w4.cell? ⟨g4, 0, none⟩ = some (.int .i64 0) := (blk_cell B4m.out 0).trans rfl; have z41 : w4.cell? ⟨g4, 1, none⟩ = some (.int .i64 0) := (blk_cell B4m.out 1).trans rfl; have z42 : w4.cell? ⟨g4, 2, none⟩ = some (.string ⟨#[]⟩) := (blk_cell B4m.out 2).trans rfl; have z4f := blk_frozen B4m.out; have zb1 : w4.cell? ⟨B, 1, none⟩ = some (.complex .f64 (fl (k : Nat)) (fl (g : Nat))) := (blk_cell BBm.out 1).trans rfl; have zbf := blk_frozen BBm.out; have NB4s := NB4.symm; have NB5s := NB5.symm; have N54 := N45.symm))
  refine bodyPost_ret (results_cell_row rfl _ _ g4 43 #[.int .i64 x0, .int .i64 (m : Int), .string x2] (0, 0) _ rfl (put3 ((far_set _ N45 _ _).trans ((far_set _ NB4.symm _ _).trans B4m.out)) _ _ _) Try.underlying43 rfl (by kernel_rfl)) rfl ?_
  refine ⟨rfl, chn3 (((Ch.weaken (T := fun i => i = B) E4.out (fun _ _ h => h.elim)).set (.inl rfl)).set (.inr G5)) G4 0 1 2 _ _ _, (far3 _ NB4 _ _ _ _ _ _).trans ((far_set _ NB5 _ _).trans (set_blk1 BBm.out 1 _ _ ?_))⟩
  rw [show ((g + m : Nat) : Int) = (g : Int) + m from by omega]; rfl
/-- The cursor's contracts, whole. -/
theorem f_of_ok {c : Cm} (h : c.ok) : (sc c).f0 = c.k ∧ (sc c).f1 = c.n ∧ (sc c).f2 = str c.s := ⟨rfl, rfl, rfl⟩
theorem ptS_at {l0 : List S43} {k g : Nat} (h : k < l0.length) : ptS l0 k g = sc (bk g (cm l0[k])) := by unfold ptS; rw [dif_pos h]
theorem ptS_end {l0 : List S43} {k g : Nat} (h : l0.length ≤ k) : ptS l0 k g = ⟨0, 0, ⟨#[]⟩⟩ := by unfold ptS; rw [dif_neg (by omega)]
theorem cms_get {l0 : List S43} {k : Nat} (h : k < l0.length) : (cms l0)[k]'(by simpa [cms] using h) = cm l0[k] := by simp [cms]
theorem Cur.ok {w : World} {B : Nat} {A0 : Option Addr} {c0 : Nat} {l0 : List S43} {k g : Nat} (H : Cur w B A0 c0 l0 k g) (h : k < l0.length) : (cm l0[k]).ok := H.vl _ (List.mem_map.2 ⟨_, List.getElem_mem h, rfl⟩)
theorem part_any {B : Nat} {A0 : Option Addr} {c0 : Nat} {l0 : List S43} {k g : Nat} {w : World} (H : Cur w B A0 c0 l0 k g) (hsz : ∀ h : k < l0.length, csz (cm l0[k]) ≤ 1000000) {p0 p1 : Int} {p2 : ByteArray} (hp : (⟨p0, p1, p2⟩ : S43) = ptS l0 k g) :
    Calls Try.prog 32 #[.pointer (some ⟨B, 0, none⟩)] w fun e w' => e = .returned (.agg #[.int .i64 p0, .int .i64 p1, .string p2]) ∧ Ch (fun _ => False) w w' := by
  by_cases hk : k < l0.length
  · have hok := H.ok hk
    have hg := H.gin hk
    have hz := hsz hk
    rw [ptS_at hk] at hp
    have e0 : l0[k] = sc (cm l0[k]) := (sc_cm _).symm
    rcases Cm.cases hok with ⟨n, hn, e⟩ | ⟨s, hs, e⟩ | ⟨n, hn, e⟩
    · rw [e] at hp e0 hg hz
      simp [csz] at hg hz
      have hp2 : (⟨p0, p1, p2⟩ : S43) = ⟨1, ((n - g : Nat) : Int), ⟨#[]⟩⟩ := by rw [hp]; simp [sc, bk]; omega
      simp only [S43.mk.injEq] at hp2
      obtain ⟨rfl, rfl, rfl⟩ := hp2
      exact cur_num B A0 c0 l0 k g w H hk 1 n ⟨#[]⟩ e0 (by decide) (by omega) (by omega)
    · rw [e] at hp e0 hg hz
      simp [csz] at hg hz
      have hp2 : (⟨p0, p1, p2⟩ : S43) = ⟨2, 0, str (s.drop g)⟩ := by rw [hp]; simp [sc, bk, str]
      simp only [S43.mk.injEq] at hp2
      obtain ⟨rfl, rfl, rfl⟩ := hp2
      exact cur_put B A0 c0 l0 k g w H hk 0 s e0 (by omega)
    · rw [e] at hp e0 hg hz
      simp [csz] at hg hz
      have hp2 : (⟨p0, p1, p2⟩ : S43) = ⟨3, ((n - g : Nat) : Int), ⟨#[]⟩⟩ := by rw [hp]; simp [sc, bk]; omega
      simp only [S43.mk.injEq] at hp2
      obtain ⟨rfl, rfl, rfl⟩ := hp2
      exact cur_num B A0 c0 l0 k g w H hk 3 n ⟨#[]⟩ e0 (by decide) (by omega) (by omega)
  · rw [ptS_end (by omega)] at hp
    simp only [S43.mk.injEq] at hp
    obtain ⟨rfl, rfl, rfl⟩ := hp
    exact cur_end B A0 c0 l0 k g w H (by omega)
set_option maxRecDepth 100000 in
theorem long_put (N : Int) (s : ByteArray) (w : World) : Calls Try.prog 35 #[.agg #[.int .i64 2, .int .i64 N, .string s]] w fun e w' => e = .returned (.int .i64 s.size) ∧ Ch (fun _ => False) w w' := by
  go_enter Try.func35, Try.ntmps35
  go_wp2
  go_ret
  exact ⟨rfl, (Ch.refl _ w).alloc _⟩
set_option maxRecDepth 100000 in
theorem long_num (K N : Int) (s : ByteArray) (w : World) (h : K ≠ 2) (h0 : 0 ≤ N) : Calls Try.prog 35 #[.agg #[.int .i64 K, .int .i64 N, .string s]] w fun e w' => e = .returned (.int .i64 N) ∧ Ch (fun _ => False) w w' := by
  have hb : (K == 2) = false := beq_eq_false_iff_ne.2 h
  have hm : max N 0 = N := by omega
  clear h h0
  go_enter Try.func35, Try.ntmps35
  go_wp2
  go_ret
  exact ⟨rfl, (Ch.refl _ w).alloc _⟩
theorem long_any {c : Cm} (h : c.ok) {p0 p1 : Int} {p2 : ByteArray} (hp : (⟨p0, p1, p2⟩ : S43) = sc c) (w : World) : Calls Try.prog 35 #[.agg #[.int .i64 p0, .int .i64 p1, .string p2]] w fun e w' => e = .returned (.int .i64 (csz c : Int)) ∧ Ch (fun _ => False) w w' := by
  rcases Cm.cases h with ⟨n, hn, rfl⟩ | ⟨s, hs, rfl⟩ | ⟨n, hn, rfl⟩
  · simp only [sc, S43.mk.injEq] at hp
    obtain ⟨rfl, rfl, rfl⟩ := hp
    simpa [csz] using long_num 1 n ⟨#[]⟩ w (by decide) (by omega)
  · simp only [sc, S43.mk.injEq] at hp
    obtain ⟨rfl, rfl, rfl⟩ := hp
    simpa [csz, ByteArray.size] using long_put 0 ⟨s.toArray⟩ w
  · simp only [sc, S43.mk.injEq] at hp
    obtain ⟨rfl, rfl, rfl⟩ := hp
    simpa [csz] using long_num 3 n ⟨#[]⟩ w (by decide) (by omega)
theorem long_none (w : World) : Calls Try.prog 35 #[.agg #[.int .i64 0, .int .i64 0, .string ⟨#[]⟩]] w fun e w' => e = .returned (.int .i64 0) ∧ Ch (fun _ => False) w w' := long_num 0 0 ⟨#[]⟩ w (by decide) (by decide)
theorem take_any {B : Nat} {A0 : Option Addr} {c0 : Nat} {l0 : List S43} {k g m : Nat} {w : World} (H : Cur w B A0 c0 l0 k g) (hsz : ∀ h : k < l0.length, csz (cm l0[k]) ≤ 100000) (hkb : k ≤ 100000) (hk : k < l0.length) (hm1 : 1 ≤ m) (hm : m ≤ csz (bk g (cm l0[k]))) {p0 p1 : Int} {p2 : ByteArray} (hp : (⟨p0, p1, p2⟩ : S43) = sc (fr m (bk g (cm l0[k])))) :
    Calls Try.prog 33 #[.pointer (some ⟨B, 0, none⟩), .int .i64 (m : Int)] w fun e w' => e = .returned (.agg #[.int .i64 p0, .int .i64 p1, .string p2]) ∧ Ch (fun i => i = B) w w' ∧ w'.heap[B]? = some (.cells #[.slice A0 l0.length c0, .complex .f64 (fl (nextK (cms l0) k g m : Nat)) (fl (nextG (cms l0) k g m : Nat))] 62 (0, 0)) := by
  have hok := H.ok hk
  have hg := H.gin hk
  have hz := hsz hk
  have hkc : k < (cms l0).length := by simpa [cms] using hk
  have eg : (cms l0)[k] = cm l0[k] := cms_get hk
  have hbo := bk_ok hok hg
  have hP : ∀ w', Ch (fun _ => False) w w' → Calls Try.prog 32 #[.pointer (some ⟨B, 0, none⟩)] w' fun e w'' => e = .returned (.agg #[.int .i64 (sc (bk g (cm l0[k]))).f0, .int .i64 (sc (bk g (cm l0[k]))).f1, .string (sc (bk g (cm l0[k]))).f2]) ∧ Ch (fun _ => False) w' w'' :=
    fun w' hc => part_any (H.ch hc id (Kd.C_below H.row hc.below0)) (fun h => by have := hsz h; omega) (by rw [ptS_at hk])
  have hL : ∀ w', Calls Try.prog 35 #[.agg #[.int .i64 (sc (bk g (cm l0[k]))).f0, .int .i64 (sc (bk g (cm l0[k]))).f1, .string (sc (bk g (cm l0[k]))).f2]] w' fun e w'' => e = .returned (.int .i64 (csz (bk g (cm l0[k])) : Int)) ∧ Ch (fun _ => False) w' w'' :=
    fun w' => long_any hbo.1 rfl w'
  by_cases hmm : m = csz (bk g (cm l0[k]))
  · have e1 : nextK (cms l0) k g m = k + 1 := by unfold nextK; rw [dif_pos hkc, eg, if_neg (by omega)]
    have e2 : nextG (cms l0) k g m = 0 := by unfold nextG; rw [dif_pos hkc, eg, if_neg (by omega)]
    rw [e1, e2]
    have e3 : fr m (bk g (cm l0[k])) = bk g (cm l0[k]) := by rw [hmm]; exact (fr_whole hbo.1 (Nat.le_refl _)).1
    rw [e3] at hp
    have := cur_take_whole B A0 l0.length c0 k g m (csz (bk g (cm l0[k]))) _ _ _ w H.blk (by omega) (by omega) hP hL (by omega)
    rw [← hp] at this
    exact this
  · have e1 : nextK (cms l0) k g m = k := by unfold nextK; rw [dif_pos hkc, eg, if_pos (by omega)]
    have e2 : nextG (cms l0) k g m = g + m := by unfold nextG; rw [dif_pos hkc, eg, if_pos (by omega)]
    rw [e1, e2]
    have hz2 : csz (bk g (cm l0[k])) ≤ 100000 := by rw [hbo.2.1]; omega
    rcases Cm.cases hbo.1 with ⟨n, hn, e⟩ | ⟨s, hs, e⟩ | ⟨n, hn, e⟩
    · rw [e] at hp hP hL hm hmm hz2
      simp only [csz, fr, sc] at hp hm hmm hz2
      simp at hp hm hmm hz2
      obtain ⟨rfl, rfl, rfl⟩ := hp
      exact cur_take_num B A0 l0.length c0 k g m n 1 ⟨#[]⟩ (by decide) w H.blk (by omega) (by omega) hP (by simpa [csz, sc, str] using hL) (by omega) (by omega)
    · rw [e] at hp hP hL hm hmm hz2
      simp only [csz, fr, sc] at hp hm hmm hz2
      simp at hp hm hmm hz2
      obtain ⟨rfl, rfl, rfl⟩ := hp
      have := cur_take_put B A0 l0.length c0 k g m 0 s w H.blk (by omega) (by omega) hP (by simpa [csz, sc, str] using hL) (by omega) (by omega)
      simpa [str] using this
    · rw [e] at hp hP hL hm hmm hz2
      simp only [csz, fr, sc] at hp hm hmm hz2
      simp at hp hm hmm hz2
      obtain ⟨rfl, rfl, rfl⟩ := hp
      exact cur_take_num B A0 l0.length c0 k g m n 3 ⟨#[]⟩ (by decide) w H.blk (by omega) (by omega) hP (by simpa [csz, sc, str] using hL) (by omega) (by omega)
theorem cur_next {B : Nat} {A0 : Option Addr} {c0 : Nat} {l0 : List S43} {k g m : Nat} {w w' : World} (H : Cur w B A0 c0 l0 k g) (hsz : ∀ h : k < l0.length, csz (cm l0[k]) ≤ 100000) (hk : k < l0.length) (hkb : k ≤ 100000) (hc : w'.heap[B]? = some (.cells #[.slice A0 l0.length c0, .complex .f64 (fl (nextK (cms l0) k g m : Nat)) (fl (nextG (cms l0) k g m : Nat))] 62 (0, 0))) (hr : Kd.C k43 w' A0 l0.length l0) :
    Cur w' B A0 c0 l0 (nextK (cms l0) k g m) (nextG (cms l0) k g m) := by
  have hkc : k < (cms l0).length := by simpa [cms] using hk
  have eg : (cms l0)[k] = cm l0[k] := cms_get hk
  have hz := hsz hk
  have hg := H.gin hk
  have e1 : nextK (cms l0) k g m = if g + m < csz (cm l0[k]) then k else k + 1 := by unfold nextK; rw [dif_pos hkc, eg]
  have e2 : nextG (cms l0) k g m = if g + m < csz (cm l0[k]) then g + m else 0 := by unfold nextG; rw [dif_pos hkc, eg]
  refine ⟨hc, hr, H.vl, ?_, ?_, ?_⟩
  · rw [e1]; split <;> omega
  · rw [e2]; split <;> omega
  · rw [e1, e2]
    by_cases h2 : g + m < csz (cm l0[k])
    · simp only [if_pos h2]; intro h; exact h2
    · simp only [if_neg h2]; intro h; exact csz_pos (H.vl _ (List.mem_map.2 ⟨_, List.getElem_mem h, rfl⟩))
theorem rest_atS {l0 : List S43} {k g : Nat} (h : k < l0.length) : restS l0 k g = bk g (cm l0[k]) :: (cms l0).drop (k + 1) := by
  have hkc : k < (cms l0).length := by simpa [cms] using h
  unfold restS; rw [rest_at hkc, cms_get h]
theorem rest_endS {l0 : List S43} {k g : Nat} (h : l0.length ≤ k) : restS l0 k g = [] := by
  unfold restS; exact rest_end (by simpa [cms] using h)
theorem rest_goS {w : World} {B : Nat} {A0 : Option Addr} {c0 : Nat} {l0 : List S43} {k g m : Nat} (H : Cur w B A0 c0 l0 k g) (h : k < l0.length) : restS l0 (nextK (cms l0) k g m) (nextG (cms l0) k g m) = bks m (bk g (cm l0[k])) ((cms l0).drop (k + 1)) := by
  have hkc : k < (cms l0).length := by simpa [cms] using h
  unfold restS; rw [rest_go H.vl hkc (by rw [cms_get h]; exact H.gin h), cms_get h]
theorem csz_le {l : List S43} (h : Vl (cms l)) {n : Nat} (hn : (at_ (cms l)).length ≤ n) {k : Nat} (hk : k < l.length) : csz (cm l[k]) ≤ n := by
  have hmem : cm l[k] ∈ cms l := List.mem_map.2 ⟨_, List.getElem_mem hk, rfl⟩
  rw [← csz_at (h _ hmem)]
  obtain ⟨a, b, e⟩ := List.append_of_mem hmem
  rw [e] at hn
  simp only [at_append, at_cons, List.length_append] at hn
  omega
theorem step_app2 {P : Program} {ops : Array Oper} {o : Oper} {a : Act} {w : World} {K : Act → World → Prop} {Q : Exit → Act → World → Prop} {G : Prop} (hgd : o.guard = none) (s x : Operand) (t tx : TypeId)
    (ho : o.op = .call { callee := .builtin .append, args := #[s, x], argTypes := #[t, tx] }) (base : Nat) (e : TypeId) (size bytes : Nat) (z : Value) (E : ElemT P t e size bytes z)
    (sa : Option Addr) (n c : Nat) (xs : List Value) (hs : a.eval s = .slice sa n c) (hown : Own w base e size sa n c xs)
    (v : Value) (m : Nat) (news : List Value) (hv : a.eval x = v) (hx : Src P size tx v m news w)
    (h63 : n + m ≤ maxLen) (hbytes : (n + m) * bytes ≤ 140737488355328) (hbase : base ≤ w.heap.size)
    (h : ∀ a' c' w', Own w' base e size a' (n + m) c' (xs ++ news) → Ch (fun k => ∃ b, sa = some b ∧ b.block = k) w w' → ((a' = sa ∧ c' = c) ∨ ∀ b, a' = some b → w.heap.size ≤ b.block) → K (a.put o.dst (.slice a' (n + m) c')) w') :
    if Region.wanted o (yielded ops a.tmps) = true then Oper.wp P o a w K Q else G := by
  have hw : Region.wanted o (yielded ops a.tmps) = true := by simp [Region.wanted, hgd]
  rw [if_pos hw]
  obtain ⟨a', c', w', hr, h2, h3, h4, h5⟩ := run_app (P := P) w base t tx o.type e size bytes z E sa n c xs hown v m news hx h63 hbytes hbase
  unfold Oper.wp
  simp [execOp, ho, resolve, invoke, builtin, hs, hv, hr, Result.andThen]
  exact h _ _ _ h2 h4 h5
theorem wp_scope_ghost {P : Program} {a : Act} {w : World} {Q : Exit → Act → World → Prop} {c body : Code} (l : Nat) (J : Nat → Act → World → Prop) (hf : findLabel c l = some (Code.skip.seq body))
    (pass : ∀ n a w, J n a w → body.wp P (Exit.jump l (fun a' w' => ∃ n', n' < n ∧ J n' a' w') Q) a w)
    (first : (∀ n a w, J n a w → body.wp P (Exit.jump l (fun a' w' => ∃ n', J n' a' w') Q) a w) → c.wp P (Exit.jump l (fun a' w' => ∃ n', J n' a' w') Q) a w) : (Code.scope c).wp P Q a w := by
  refine wp_scope_again l (fun a w => ∃ n, J n a w) (fun a w => leastOf (fun n => J n a w)) hf ?_ ?_
  · intro a w h
    refine wp_mono (pass _ a w (leastOf_spec h).1) ?_
    intro e a' w' hq
    cases e <;> first | exact hq | (obtain ⟨h1, n', hlt, hJ⟩ := hq; exact ⟨h1, ⟨n', hJ⟩, Nat.lt_of_le_of_lt ((leastOf_spec ⟨n', hJ⟩).2 n' hJ) hlt⟩)
  · intro h
    exact first (fun n a w hJ => h a w ⟨n, hJ⟩)


end Go.Proofs.Ytjmnflgicolbdaa.Q

/- Contracts of Go functions: each call answers what the Lean function of its name answers. Conditions: stand in each theorem. Written by this seat's own program over the kit's printer. -/
import Derived.Test.YthfpohhkgcgbeaaQ0
import Derived.Test.YthfpohhkgcgbeaaQxcm
import Derived.Test.YthfpohhkgcgbeaaQxoplongput
import Derived.Test.YthfpohhkgcgbeaaQxwpscopeagain
import Derived.WalkMore
import Derived.Deep.RegionLaw
namespace Go.Proofs.Ythfpohhkgcgbeaa.Q
open Go.RowKit Go.Proofs.YthfpohhkgcgbeaaW.PrintWords Go.Proofs.YthfpohhkgcgbeaaW.PrintLast Go.Proofs.YthfpohhkgcgbeaaW.PrintMore
attribute [local go_sem] max2_int min2_int max_two min_two max_three min_three max_four min_four   -- for this text's walks alone
set_option linter.unusedVariables false
set_option linter.unusedSimpArgs false

-- HAND
/-! ### op_Apply: function 17 -/
open Go.OpM Go.Cx Go.F64
-- IMPORT Derived.WalkMore
-- IMPORT Derived.Deep.RegionLaw
def op_Apply.f (a0 : ByteArray) (l1 : List (S30)) : Option (ByteArray × Int) :=
  if good (cms l1) = true ∧ a0.size ≤ 100000 then
    (if inC (cms l1) = a0.size then (if outC (cms l1) ≤ 120 then some (⟨(app id (at_ (cms l1)) a0.data.toList).toArray⟩, 0) else some (⟨#[]⟩, 5)) else some (⟨#[]⟩, 7))
  else none
theorem f120 : (4638144666238189568 : Nat) = fl 120 := by decide +kernel
theorem apply_t1 (a b c : Nat) (ha : a ≤ 1000000) (hb : b ≤ 1000000) (hc : c ≤ 1000000) : (!FloatKind.f64.format.order (floatOfInt FloatKind.f64 (a : Int)) (fl (b : Int)) == some Ordering.eq || !FloatKind.f64.format.order (fl (c : Int)) (fl (c : Int)) == some Ordering.eq) = decide (a ≠ b) := by
  have h1 := order_eq (a := (a : Int)) (b := (b : Int)) (Ok.nat (by omega)) (Ok.nat (by omega))
  have h2 := order_eq (a := (c : Int)) (b := (c : Int)) (Ok.nat (by omega)) (Ok.nat (by omega))
  have h1' : (FloatKind.f64.format.order (floatOfInt FloatKind.f64 (a : Int)) (fl (b : Int)) == some Ordering.eq) = decide ((a : Int) = (b : Int)) := h1
  rw [h1', h2]
  by_cases h : a = b <;> simp [h]
  omega
theorem apply_t2 (c : Nat) (hc : c ≤ 1000000) : (FloatKind.f64.format.order (fl (c : Int)) 4638144666238189568 == some Ordering.gt) = decide (120 < c) := by
  rw [f120, order_gt (Ok.nat (by omega)) (Ok.of (by omega) (by omega))]
  by_cases h : 120 < c <;> simp [h] <;> omega
attribute [local go_sem ↓] max_ints min_ints
def AppPost (w : World) (r1 : ByteArray) (r2 : Int) (e : Ending) (w' : World) : Prop := e = .returned (.tuple #[.string r1, .int .i64 r2]) ∧ Below w.heap.size w w'
set_option maxRecDepth 100000 in
set_option maxHeartbeats 1000000 in
theorem apply_size (d : List UInt8) (A0 : Option Addr) (c0 : Nat) (l0 : List (S30)) (w : World) (hr0 : Kd.C k30 w A0 l0.length l0) (hg : good (cms l0) = true) (hd : d.length ≤ 100000) (hs : inC (cms l0) ≠ d.length) : Calls Try.prog 17 #[.string (str d), .slice A0 l0.length c0] w (AppPost w ⟨#[]⟩ 7) := by
  have hb := (good_iff.1 hg).2
  have ok1 : Ok ((inC (cms l0) : Nat) : Int) := Ok.nat (by omega)
  have ok2 : Ok ((outC (cms l0) : Nat) : Int) := Ok.nat (by omega)
  have ok3 : Ok ((d.length : Nat) : Int) := Ok.nat (by omega)
  have t1 := apply_t1 d.length (inC (cms l0)) (outC (cms l0)) (by omega) (by omega) (by omega)
  rw [decide_eq_true (show d.length ≠ inC (cms l0) from fun e => hs e.symm)] at t1
  have HR := Go.Cx.hid hr0
  have HG := Go.Cx.hid hg
  clear hr0 hg hs hb
  go_enter Try.func17, Try.ntmps17
  go_wp2
  refine wp_scope_straight ?_
  go_wp2_with (go_at_call 27; refine (sizes_any A0 c0 l0 _ HR.out HG.out).mono ?_; rintro e w1 ⟨rfl, hb⟩; have HB := Go.Cx.hid hb; clear hb)
  rw [Exit.noGoto_ret]
  go_ret2
  exact ⟨rfl, HB.out⟩
set_option maxRecDepth 100000 in
set_option maxHeartbeats 1000000 in
theorem apply_long (d : List UInt8) (A0 : Option Addr) (c0 : Nat) (l0 : List (S30)) (w : World) (hr0 : Kd.C k30 w A0 l0.length l0) (hg : good (cms l0) = true) (hs : inC (cms l0) = d.length) (ho : ¬ outC (cms l0) ≤ 120) : Calls Try.prog 17 #[.string (str d), .slice A0 l0.length c0] w (AppPost w ⟨#[]⟩ 5) := by
  have hb := (good_iff.1 hg).2
  have ok1 : Ok ((inC (cms l0) : Nat) : Int) := Ok.nat (by omega)
  have ok2 : Ok ((outC (cms l0) : Nat) : Int) := Ok.nat (by omega)
  have ok3 : Ok ((d.length : Nat) : Int) := Ok.nat (by omega)
  have t1 := apply_t1 d.length (inC (cms l0)) (outC (cms l0)) (by omega) (by omega) (by omega)
  rw [decide_eq_false (show ¬ d.length ≠ inC (cms l0) from fun e => e hs.symm)] at t1
  have t2 := apply_t2 (outC (cms l0)) (by omega)
  rw [decide_eq_true (by omega)] at t2
  have HR := Go.Cx.hid hr0
  have HG := Go.Cx.hid hg
  clear hr0 hg hs hb ho
  go_enter Try.func17, Try.ntmps17
  go_wp2
  refine wp_scope_straight ?_
  go_wp2_with (go_at_call 27; refine (sizes_any A0 c0 l0 _ HR.out HG.out).mono ?_; rintro e w1 ⟨rfl, hb⟩; have HB := Go.Cx.hid hb; clear hb)
  rw [Exit.noGoto_ret]
  go_ret2
  exact ⟨rfl, HB.out⟩
theorem step_app {P : Program} {ops : Array Oper} {o : Oper} {a : Act} {w : World} {K : Act → World → Prop} {Q : Exit → Act → World → Prop} {G : Prop} (hgd : o.guard = none) (s x : Operand) (t tx : TypeId)
    (ho : o.op = .call { callee := .builtin .append, args := #[s, x], argTypes := #[t, tx] }) (base : Nat) (e : TypeId) (size bytes : Nat) (z : Value) (E : ElemT P t e size bytes z)
    (sa : Option Addr) (n c : Nat) (xs : List Value) (hs : a.eval s = .slice sa n c) (hown : Own w base e size sa n c xs)
    (v : Value) (m : Nat) (news : List Value) (hv : a.eval x = v) (hx : Src P size tx v m news w)
    (h63 : n + m ≤ maxLen) (hbytes : (n + m) * bytes ≤ 140737488355328) (hbase : base ≤ w.heap.size)
    (h : ∀ a' c' w', Own w' base e size a' (n + m) c' (xs ++ news) → Ch (fun k => ∃ b, sa = some b ∧ b.block = k) w w' → K (a.put o.dst (.slice a' (n + m) c')) w') :
    if Region.wanted o (yielded ops a.tmps) = true then Oper.wp P o a w K Q else G := by
  have hw : Region.wanted o (yielded ops a.tmps) = true := by simp [Region.wanted, hgd]
  rw [if_pos hw]
  obtain ⟨a', c', w', hr, h2, h3, h4, h5⟩ := run_app (P := P) w base t tx o.type e size bytes z E sa n c xs hown v m news hx h63 hbytes hbase
  unfold Oper.wp
  simp [execOp, ho, resolve, invoke, builtin, hs, hv, hr, Result.andThen]
  exact h _ _ _ h2 h4
theorem byteCells_str (l : List UInt8) : byteCells (str l) = bv l := by simp [byteCells, str, bv]
theorem et_byte : ElemT Try.prog 34 5 1 1 (.int .u8 0) := ElemT.mk' Try.underlying34 (by kernel_rfl) rfl (by decide)
theorem str_from (D : List UInt8) (q : Nat) : (str D).extract q D.length = str (D.drop q) := by
  apply ByteArray.ext
  simp [str, ByteArray.data_extract, List.extract_toArray, List.extract_eq_take_drop]
  exact List.take_of_length_le (by simp)
theorem str_front (D : List UInt8) (q : Nat) : (str D).extract 0 q = str (D.take q) := by
  apply ByteArray.ext
  simp [str, ByteArray.data_extract, List.extract_toArray, List.extract_eq_take_drop]
theorem srcS (w : World) (s : List UInt8) : Src Try.prog 1 9 (.string (str s)) s.length (bv s) w := by
  have := Src.ofString (P := Try.prog) (w := w) Try.underlying9 (str s)
  rwa [str_size, byteCells_str] at this
theorem srcT (w : World) (D : List UInt8) (q : Nat) (h : q ≤ D.length) : Src Try.prog 1 9 (.string ((str D).extract 0 q)) q (bv (D.take q)) w := by
  have := srcS w (D.take q)
  rw [List.length_take, Nat.min_eq_left h] at this
  rw [str_front]
  exact this
def AppJump (w : World) (d : List UInt8) (l0 : List S30) (A0 : Option Addr) (n c0 : Nat) (a' : Act) (w' : World) : Prop :=
  ∃ (k F : Nat) (D : List UInt8) (b : Option Addr) (m cb : Nat) (u2 u3 u4 u5 u6 u9 u10 u11 u12 u13 u14 u15 u16 u17 u18 u19 u20 u21 u22 u23 u24 u25 u26 u27 u28 u29 u30 u31 u32 u33 u34 u35 u36 u37 u38 u39 u40 u41 u42 u43 u44 u45 u46 u47 u48 u49 u50 u51 u52 u53 u54 u55 u56 u57 u58 u59 u60 u61 u62 u63 u64 u65 u66 u67 u68 u69 u70 : Value), a' = { tmps := #[.string (str D), .slice A0 n c0, u2, u3, u4, u5, u6, .slice b m cb, .int .i64 (k : Nat), u9, u10, u11, u12, u13, u14, u15, u16, u17, u18, u19, u20, u21, u22, u23, u24, u25, u26, u27, u28, u29, u30, u31, u32, u33, u34, u35, u36, u37, u38, u39, u40, u41, u42, u43, u44, u45, u46, u47, u48, u49, u50, u51, u52, u53, u54, u55, u56, u57, u58, u59, u60, u61, u62, u63, u64, u65, u66, u67, u68, u69, u70], defers := [] } ∧
    k ≤ n ∧ Hid (F = inC (cms (l0.take k))) ∧ Hid (D = d.drop F) ∧ Hid (m = outC (cms (l0.take k))) ∧ Hid (Own w' w.heap.size 5 1 b m cb (bv (app id (at_ (cms (l0.take k))) d))) ∧ Hid (Below w.heap.size w w')
theorem app_step {d : List UInt8} {l0 : List S30} {k F : Nat} (h : k < l0.length) (hF : F = inC (cms (l0.take k))) (hle : inC (cms l0) = d.length) : app id (at_ (cms (l0.take (k + 1)))) d = app id (at_ (cms (l0.take k))) d ++ app id (cm l0[k]).at_ (d.drop F) := by
  have e : l0.take (k + 1) = l0.take k ++ [l0[k]] := by rw [List.take_succ_eq_append_getElem h]
  have b := (takes_le l0 k).1
  have e2 : cms (l0.take (k + 1)) = cms (l0.take k) ++ [cm l0[k]] := by rw [e]; unfold cms; rw [List.map_append]; rfl
  rw [e2, at_append, app_append _ _ _ _ (by unfold inC at *; omega), hF]
  simp [inC]
set_option maxRecDepth 100000 in
set_option maxHeartbeats 40000000 in
theorem apply_any (d : List UInt8) (A0 : Option Addr) (c0 : Nat) (l0 : List (S30)) (w : World) (hr0 : Kd.C k30 w A0 l0.length l0) (hg : good (cms l0) = true) (hs : inC (cms l0) = d.length) (ho : outC (cms l0) ≤ 120) : Calls Try.prog 17 #[.string (str d), .slice A0 l0.length c0] w (AppPost w (str (app id (at_ (cms l0)) d)) 0) := by
  obtain ⟨hv, hb⟩ := good_iff.1 hg
  have t1 := apply_t1 d.length (inC (cms l0)) (outC (cms l0)) (by omega) (by omega) (by omega)
  rw [decide_eq_false (show ¬ d.length ≠ inC (cms l0) from fun e => e hs.symm)] at t1
  have t2 := apply_t2 (outC (cms l0)) (by omega)
  rw [decide_eq_false (by omega)] at t2
  have ok1 : Ok ((inC (cms l0) : Nat) : Int) := Ok.nat (by omega)
  have ok2 : Ok ((outC (cms l0) : Nat) : Int) := Ok.nat (by omega)
  have ok3 : Ok ((d.length : Nat) : Int) := Ok.nat (by omega)
  have hnb : l0.length ≤ 100000 := by
    have h1 := at_len0 (at_ (cms l0))
    have h2 := vl_len0 hv
    unfold inC outC at hb
    have : (cms l0).length = l0.length := by simp [cms]
    omega
  have HR := Go.Cx.hid hr0
  have HG := Go.Cx.hid hg
  have HV := Go.Cx.hid hv
  have HS := Go.Cx.hid hs
  have HBD := Go.Cx.hid hb
  have HO120 := Go.Cx.hid ho
  have hnb2 : (l0.length : Int) ≤ 9223372036854775807 := by omega
  clear hr0 hg hs hv hb ho
  go_enter Try.func17, Try.ntmps17
  go_wp2
  refine wp_scope_again 0 (AppJump w d l0 A0 l0.length c0) (fun a' _ => l0.length - (intOf (a'.tmps.getD 8 undef)).toNat) rfl ?pass ?first
  case first =>
    intro PASS
    have HP := Go.Cx.hid PASS
    clear PASS
    go_wp2_with (go_at_call 27; refine (sizes_any A0 c0 l0 _ HR.out HG.out).mono ?_; rintro e w1 ⟨rfl, hb⟩; have HB := Go.Cx.hid hb; clear hb)
    refine wp_label ?_
    simp only [Exit.then]
    refine (show ∀ (a : Act) (w : World), Code.wp Try.prog _ _ a w → _ from by assumption) _ _ ?_
    refine HP.out _ _ ⟨0, 0, d, none, 0, 0, _, _, _, _, _, _, _, _, _, _, _, _, _, _, _, _, _, _, _, _, _, _, _, _, _, _, _, _, _, _, _, _, _, _, _, _, _, _, _, _, _, _, _, _, _, _, _, _, _, _, _, _, _, _, _, _, _, _, _, _, _, _, _, _, _, _, _, rfl, Nat.zero_le _, Go.Cx.hid (by simp [cms, inC, ins]), Go.Cx.hid (by simp), Go.Cx.hid (by simp [cms, outC, outs]), Go.Cx.hid (by simpa [cms, app, bv] using Own.nil _ _ _ _), HB⟩
  case pass =>
    rintro a' w' ⟨k, F, D, b, m, cb, u2, u3, u4, u5, u6, u9, u10, u11, u12, u13, u14, u15, u16, u17, u18, u19, u20, u21, u22, u23, u24, u25, u26, u27, u28, u29, u30, u31, u32, u33, u34, u35, u36, u37, u38, u39, u40, u41, u42, u43, u44, u45, u46, u47, u48, u49, u50, u51, u52, u53, u54, u55, u56, u57, u58, u59, u60, u61, u62, u63, u64, u65, u66, u67, u68, u69, u70, rfl, hk, HF, HD, HM, HO, HB⟩
    have F1 := Go.Cx.hid (takes_le l0 k)
    have hFd : F ≤ d.length := by have h1 := F1.out.1; rw [HF.out, ← HS.out]; exact h1
    have LC := Go.Cx.hid HB.out.size
    by_cases hlt : k < l0.length
    · have hlti : (k : Int) < l0.length := by omega
      have hkb : ((k : Int) == (l0.length : Int)) = false := beq_eq_false_iff_ne.2 (by omega)
      obtain ⟨ad, e, x0, x1, x2⟩ := at_T30 (Kd.C_below HR.out HB.out) (k : Int) (by omega) (by omega)
      subst e
      rw [rd_get hlt] at x0 x1 x2
      simp only [Int.toNat_natCast] at x0 x1 x2
      have hok : (cm l0[k]).ok := HV.out _ (List.mem_map.2 ⟨l0[k], List.getElem_mem hlt, rfl⟩)
      have e1 := inC_take hlt
      have e2 := outC_take hlt
      have b1 := takes_le l0 (k + 1)
      have sc0 : l0[k] = sc (cm l0[k]) := (sc_cm _).symm
      have ha := app_step hlt HF.out HS.out
      have k0 : (0 : Int) ≤ k := by omega
      have hDl : D.length = d.length - F := by rw [HD.out, List.length_drop]
      rcases Cm.cases hok with ⟨q, hq, hc⟩ | ⟨s, hs, hc⟩ | ⟨q, hq, hc⟩
      · rw [hc] at e1 e2 sc0 ha
        rw [sc0] at x0 x1 x2
        simp only [sc] at x0 x1 x2
        simp only [at_keep, ins_keeps, outs_keeps] at e1 e2 ha
        have hqD : q ≤ D.length := by have := HS.out; have := HF.out; omega
        rw [← HD.out, app_keeps _ _ _ hqD] at ha
        have hqDi : (q : Int) ≤ D.length := by omega
        have q0 : (0 : Int) ≤ q := by omega
        have hto : min (max (q : Int) 0) (D.length : Int) = q := by omega
        have hsz : m + q ≤ maxLen := by have := HM.out; have := HO120.out; have := b1.2; unfold maxLen; omega
        have hsz2 : (m + q) * 1 ≤ 140737488355328 := by unfold maxLen at hsz; have := HM.out; have := HO120.out; have := b1.2; omega
        have HE1 := Go.Cx.hid e1
        have HE2 := Go.Cx.hid e2
        have HA := Go.Cx.hid ha
        clear e1 e2 b1 sc0 ha hc hok hDl
        go_wp2_with (go_at_call 28; refine (op_long_ne 1 q ⟨#[]⟩ _ (by decide)).mono ?_; rintro e w1 ⟨rfl, hc⟩; have C1 := Go.Cx.hid hc; have y0 := hc.cell x0 id; have y1 := hc.cell x1 id; have y2 := hc.cell x2 id; clear hc)
        clear t1 t2 ok1 ok2 ok3 x0 x1 x2 y0 y1 y2 hlti hkb HR HG HV HBD HO120 F1
        go_region_law ((refine step_app (by rfl) _ _ _ _ (by rfl) w.heap.size 5 1 1 _ et_byte b m cb _ (by rfl) (HO.out.f C1.out).drew _ q (bv (D.take q)) (by rfl) (srcT _ D q hqD) hsz hsz2 (by have h1 := LC.out; have h2 := C1.out.size; simp; omega) ?_; intro a3 c3 w3 hO hC; have HO3 := Go.Cx.hid hO; have HC3 := Go.Cx.hid hC; clear hO hC))
        all_goals go_wp2
        all_goals (
          refine wp_goto ?_
          rw [str_from, show ((k : Int) + 1) = ((k + 1 : Nat) : Int) from by omega]
          refine ⟨by trivial, ⟨k + 1, F + q, D.drop q, a3, m + q, c3, _, _, _, _, _, _, _, _, _, _, _, _, _, _, _, _, _, _, _, _, _, _, _, _, _, _, _, _, _, _, _, _, _, _, _, _, _, _, _, _, _, _, _, _, _, _, _, _, _, _, _, _, _, _, _, _, _, _, _, _, _, _, _, _, _, _, _, rfl, by omega, Go.Cx.hid (by rw [HE1.out, HF.out]), Go.Cx.hid (by rw [HD.out, List.drop_drop]), Go.Cx.hid (by rw [HE2.out, HM.out]), Go.Cx.hid (by rw [HA.out, bv_append]; exact HO3.out), Go.Cx.hid (Ch.below0 (Ch.app_own ((Ch.of_below HB.out).f C1.out).drew (HO.out.f C1.out).drew (Nat.le_refl _) HC3.out))⟩, ?_⟩
          show l0.length - (intOf (.int .i64 ((k + 1 : Nat) : Int))).toNat < l0.length - (intOf (.int .i64 ((k : Nat) : Int))).toNat
          simp only [intOf]
          omega)
      · rw [hc] at e1 e2 sc0 ha
        rw [sc0] at x0 x1 x2
        simp only [sc] at x0 x1 x2
        rw [show (⟨s.toArray⟩ : ByteArray) = str s from rfl] at x2
        simp only [at_put, ins_puts, outs_puts, app_puts, List.map_id] at e1 e2 ha
        have s0 : (0 : Int) ≤ s.length := by omega
        have hsz : m + s.length ≤ maxLen := by have := HM.out; have := HO120.out; have := b1.2; unfold maxLen; omega
        have hsz2 : (m + s.length) * 1 ≤ 140737488355328 := by have := HM.out; have := HO120.out; have := b1.2; omega
        have HE1 := Go.Cx.hid e1
        have HE2 := Go.Cx.hid e2
        have HA := Go.Cx.hid ha
        clear e1 e2 b1 sc0 ha hc hok hDl
        go_wp2_with (first
          | (go_at_call 28; refine (op_long_put 0 (str s) _).mono ?_; rintro e w1 ⟨rfl, hc⟩; have C1 := Go.Cx.hid hc; have y0 := hc.cell x0 id; have y1 := hc.cell x1 id; have y2 := hc.cell x2 id; clear hc)
          | (at_builtin; refine wpList_app rfl _ _ _ _ rfl w.heap.size 5 1 1 _ et_byte b m cb _ rfl (HO.out.f C1.out) _ s.length (bv s) rfl (srcS _ s) hsz hsz2 (by have h1 := LC.out; have h2 := C1.out.size; omega) ?_; intro a3 c3 w3 hO hS hC hN; have HO3 := Go.Cx.hid hO; have HC3 := Go.Cx.hid hC; clear hO hS hC hN))
        all_goals (
          refine wp_goto ?_
          rw [show ((k : Int) + 1) = ((k + 1 : Nat) : Int) from by omega]
          refine ⟨by trivial, ⟨k + 1, F, D, a3, m + s.length, c3, _, _, _, _, _, _, _, _, _, _, _, _, _, _, _, _, _, _, _, _, _, _, _, _, _, _, _, _, _, _, _, _, _, _, _, _, _, _, _, _, _, _, _, _, _, _, _, _, _, _, _, _, _, _, _, _, _, _, _, _, _, _, _, _, _, _, _, rfl, by omega, Go.Cx.hid (by rw [HE1.out, HF.out] <;> simp), Go.Cx.hid HD.out, Go.Cx.hid (by rw [HE2.out, HM.out] <;> simp), Go.Cx.hid (by rw [HA.out, bv_append]; exact HO3.out), Go.Cx.hid (Ch.below0 (Ch.app_own ((Ch.of_below HB.out).f C1.out) (HO.out.f C1.out) (Nat.le_refl _) HC3.out))⟩, ?_⟩
          show l0.length - (intOf (.int .i64 ((k + 1 : Nat) : Int))).toNat < l0.length - (intOf (.int .i64 ((k : Nat) : Int))).toNat
          simp only [intOf]
          omega)
      · rw [hc] at e1 e2 sc0 ha
        rw [sc0] at x0 x1 x2
        simp only [sc] at x0 x1 x2
        simp only [at_cut, ins_cuts, outs_cuts, app_cuts] at e1 e2 ha
        have hqD : q ≤ D.length := by have := HS.out; have := HF.out; omega
        have hqDi : (q : Int) ≤ D.length := by omega
        have q0 : (0 : Int) ≤ q := by omega
        have hto : min (max (q : Int) 0) (D.length : Int) = q := by omega
        have HE1 := Go.Cx.hid e1
        have HE2 := Go.Cx.hid e2
        have HA := Go.Cx.hid ha
        clear e1 e2 b1 sc0 ha hc hok hDl
        go_wp2_with (go_at_call 28; refine (op_long_ne 3 q ⟨#[]⟩ _ (by decide)).mono ?_; rintro e w1 ⟨rfl, hc⟩; have C1 := Go.Cx.hid hc; have y0 := hc.cell x0 id; have y1 := hc.cell x1 id; have y2 := hc.cell x2 id; clear hc)
        refine wp_goto ?_
        rw [str_from, show ((k : Int) + 1) = ((k + 1 : Nat) : Int) from by omega]
        refine ⟨by trivial, ⟨k + 1, F + q, D.drop q, b, m, cb, _, _, _, _, _, _, _, _, _, _, _, _, _, _, _, _, _, _, _, _, _, _, _, _, _, _, _, _, _, _, _, _, _, _, _, _, _, _, _, _, _, _, _, _, _, _, _, _, _, _, _, _, _, _, _, _, _, _, _, _, _, _, _, _, _, _, _, rfl, by omega, Go.Cx.hid (by rw [HE1.out, HF.out] <;> simp), Go.Cx.hid (by rw [HD.out, List.drop_drop]), Go.Cx.hid (by rw [HE2.out, HM.out] <;> simp), Go.Cx.hid (by rw [HA.out, List.append_nil]; exact HO.out.f C1.out), Go.Cx.hid (below_then HB.out HB.out.size (C1.out.below _ (Nat.le_refl _) (fun _ _ => id)))⟩, ?_⟩
        show l0.length - (intOf (.int .i64 ((k + 1 : Nat) : Int))).toNat < l0.length - (intOf (.int .i64 ((k : Nat) : Int))).toNat
        simp only [intOf]
        omega
    · have hkn : k = l0.length := by omega
      have hkb : ((k : Int) == (l0.length : Int)) = true := beq_iff_eq.2 (by omega)
      have htk : l0.take k = l0 := by rw [hkn]; exact List.take_length
      have HO2 := HO
      rw [htk] at HO2
      have hcv := HO2.out.sl.str_ (P := Try.prog) Try.underlying34 Try.underlying5 Try.underlying9 w' rfl
      clear hkn htk
      go_wp2
      simp only [Exit.jump]
      go_ret2
      exact ⟨rfl, HB.out⟩
theorem op_Apply.calls (a0 : ByteArray) (A1 : Option Addr) (c1 : Nat) (l1 : List (S30)) (r1 : ByteArray) (r2 : Int) (w : World) (hr1 : Kd.C k30 w A1 l1.length l1) (hc1 : l1.length ≤ c1) (h : op_Apply.f a0 l1 = some (r1, r2)) :
    Calls Try.prog 17 #[.string a0, .slice A1 l1.length c1] w fun e w' => e = .returned (.tuple #[.string r1, .int .i64 r2]) ∧ Below w.heap.size w w' := by
  obtain ⟨d, rfl⟩ := str_of a0
  unfold op_Apply.f at h
  by_cases hg : good (cms l1) = true ∧ (str d).size ≤ 100000
  · rw [if_pos hg, str_size, str_data] at h
    have hd : d.length ≤ 100000 := by have := hg.2; rwa [str_size] at this
    by_cases hs : inC (cms l1) = d.length
    · rw [if_pos hs] at h
      by_cases ho : outC (cms l1) ≤ 120
      · rw [if_pos ho] at h
        simp only [Option.some.injEq, Prod.mk.injEq] at h
        obtain ⟨rfl, rfl⟩ := h
        exact apply_any d A1 c1 l1 w hr1 hg.1 hs ho
      · rw [if_neg ho] at h
        simp only [Option.some.injEq, Prod.mk.injEq] at h
        obtain ⟨rfl, rfl⟩ := h
        exact apply_long d A1 c1 l1 w hr1 hg.1 hs ho
    · rw [if_neg hs] at h
      simp only [Option.some.injEq, Prod.mk.injEq] at h
      obtain ⟨rfl, rfl⟩ := h
      exact apply_size d A1 c1 l1 w hr1 hg.1 hd hs
  · rw [if_neg hg] at h
    cases h

end Go.Proofs.Ythfpohhkgcgbeaa.Q

/- Contracts of Go functions: each call answers what the Lean function of its name answers. Conditions: stand in each theorem. Written by this seat's own program over the kit's printer. -/
import Derived.Test.YthfpohhkgcgbeaaQ0
import Derived.Test.YthfpohhkgcgbeaaQxcm
import Derived.Test.YthfpohhkgcgbeaaQxenc3
namespace Go.Proofs.Ythfpohhkgcgbeaa.Q
open Go.RowKit Go.Proofs.YthfpohhkgcgbeaaW.PrintWords Go.Proofs.YthfpohhkgcgbeaaW.PrintLast Go.Proofs.YthfpohhkgcgbeaaW.PrintMore
attribute [local go_sem] max2_int min2_int max_two min_two max_three min_three max_four min_four   -- for this text's walks alone
set_option linter.unusedVariables false
set_option linter.unusedSimpArgs false

/-! ### op.sizes -/
open Go.OpM Go.Cx Go.F64
theorem op_long_put (N : Int) (s : ByteArray) (w : World) : Calls Try.prog 28 #[.agg #[.int .i64 2, .int .i64 N, .string s]] w fun e w' => e = .returned (.int .i64 s.size) ∧ Ch (fun _ => False) w w' := by
  go_enter Try.func28, Try.ntmps28
  go_wp2
  go_ret
  exact ⟨rfl, (Ch.refl _ w).alloc _⟩
theorem op_long_ne (K N : Int) (s : ByteArray) (w : World) (h : K ≠ 2) : Calls Try.prog 28 #[.agg #[.int .i64 K, .int .i64 N, .string s]] w fun e w' => e = .returned (.int .i64 N) ∧ Ch (fun _ => False) w w' := by
  have hb : (K == 2) = false := beq_eq_false_iff_ne.2 h
  clear h
  go_enter Try.func28, Try.ntmps28
  go_wp2
  go_ret
  exact ⟨rfl, (Ch.refl _ w).alloc _⟩
theorem inC_take {l : List S30} {k : Nat} (h : k < l.length) : inC (cms (l.take (k + 1))) = inC (cms (l.take k)) + ins (cm l[k]).at_ := by
  have : l.take (k + 1) = l.take k ++ [l[k]] := by rw [List.take_succ_eq_append_getElem h]
  rw [this]; unfold cms inC; rw [List.map_append, at_append, ins_append]; simp only [List.map_cons, List.map_nil, at_cons, at_nil, List.append_nil]
theorem outC_take {l : List S30} {k : Nat} (h : k < l.length) : outC (cms (l.take (k + 1))) = outC (cms (l.take k)) + outs (cm l[k]).at_ := by
  have : l.take (k + 1) = l.take k ++ [l[k]] := by rw [List.take_succ_eq_append_getElem h]
  rw [this]; unfold cms outC; rw [List.map_append, at_append, outs_append]; simp only [List.map_cons, List.map_nil, at_cons, at_nil, List.append_nil]
theorem takes_le (l : List S30) (k : Nat) : inC (cms (l.take k)) ≤ inC (cms l) ∧ outC (cms (l.take k)) ≤ outC (cms l) := by
  have h : cms l = cms (l.take k) ++ cms (l.drop k) := by unfold cms; rw [← List.map_append, List.take_append_drop]
  rw [h]; simp [inC, outC]
theorem rd_get {l : List S30} {k : Nat} (h : k < l.length) : rd_T30 l (k : Int) = l[k] := by
  unfold rd_T30; simp [List.getD_eq_getElem?_getD, h]
/-- The whole number in a complex number's real part. -/
def fk (v : Value) : Nat := match v with | .complex _ x _ => ((floatToIntVal .f64 x .i64).getD 0).toNat | _ => 0
theorem fk_fl (k : Nat) (h : k ≤ 1000000) (y : Nat) : fk (.complex .f64 (fl ((k : Nat) : Int)) y) = k := by
  show ((floatToIntVal .f64 (fl (k : Int)) .i64).getD 0).toNat = k
  rw [toInt_fl (by omega)]
  simp
theorem encs3_app (a b : List S30) : encs3 (a ++ b) = encs3 a ++ encs3 b := by simp [encs3]
theorem str_cut (d : List UInt8) (a n : Nat) : (⟨((d.drop a).take n).toArray⟩ : ByteArray) = (str d).extract a (a + n) := by
  apply ByteArray.ext
  simp [str, ByteArray.data_extract, List.extract_toArray, List.extract_eq_take_drop]
def SizesPost (w : World) (l : List S30) (e : Ending) (w' : World) : Prop := e = .returned (.complex .f64 (fl (inC (cms l) : Nat)) (fl (outC (cms l) : Nat))) ∧ Below w.heap.size w w'
theorem fl0 : fl 0 = 0 := fl_zero
set_option maxRecDepth 100000 in
set_option maxHeartbeats 2000000 in
theorem sizes_any (A0 : Option Addr) (c0 : Nat) (l0 : List (S30)) (w : World) (hr0 : Kd.C k30 w A0 l0.length l0) (hg : good (cms l0) = true) :
    Calls Try.prog 27 #[.slice A0 l0.length c0] w (SizesPost w l0) := by
  obtain ⟨hv, hs⟩ := good_iff.1 hg
  obtain ⟨n, hn⟩ : ∃ n, n = l0.length := ⟨_, rfl⟩
  have hnb : n ≤ 100000 := by
    have h1 := at_len0 (at_ (cms l0))
    have h2 := vl_len0 hv
    unfold inC outC at hs
    have : (cms l0).length = l0.length := by simp [cms]
    omega
  have HR := Go.Cx.hid hr0
  have HV := Go.Cx.hid hv
  have HS := Go.Cx.hid hs
  rw [← hn]
  have HN := Go.Cx.hid hn
  have hnb2 : (n : Int) ≤ 9223372036854775807 := by omega
  clear hr0 hg hv hs hn
  go_enter Try.func27, Try.ntmps27
  go_wp2
  go_loopw [3, 9] (fun v3 v9 wr => ∃ k : Nat, k ≤ n ∧ v9 = .int .i64 k ∧ v3 = .complex .f64 (fl (inC (cms (l0.take k)) : Nat)) (fl (outC (cms (l0.take k)) : Nat)) ∧ Hid (Below w.heap.size w wr)) (fun _ v9 _ => n - (intOf v9).toNat)
  case atStart => exact ⟨0, Nat.zero_le _, rfl, by simp [cms, inC, outC, ins, outs, fl0], Go.Cx.hid (Below.refl _ _)⟩
  case round =>
    obtain ⟨k, hk, rfl, rfl, HB⟩ := hrel
    by_cases hlt : k < n
    · have hkl : k < l0.length := by rw [← HN.out]; exact hlt
      have hlti : (k : Int) < n := by omega
      obtain ⟨ad, e, x0, x1, x2⟩ := at_T30 (Kd.C_below HR.out HB.out) (k : Int) (by omega) (by omega)
      subst e
      rw [rd_get hkl] at x0 x1 x2
      simp only [Int.toNat_natCast] at x0 x1 x2
      have hok : (cm l0[k]).ok := HV.out _ (List.mem_map.2 ⟨l0[k], List.getElem_mem hkl, rfl⟩)
      have e1 := inC_take hkl
      have e2 := outC_take hkl
      have b1 := takes_le l0 (k + 1)
      have hs := HS.out
      have ok1 : Ok ((inC (cms (l0.take k)) : Nat) : Int) := Ok.nat (by omega)
      have ok2 : Ok ((outC (cms (l0.take k)) : Nat) : Int) := Ok.nat (by omega)
      have E1 := Go.Cx.hid e1
      have E2 := Go.Cx.hid e2
      have sc0 : l0[k] = sc (cm l0[k]) := (sc_cm _).symm
      rcases Cm.cases hok with ⟨m, hm, hc⟩ | ⟨q, hq, hc⟩ | ⟨m, hm, hc⟩
      · rw [hc] at e1 e2 sc0
        rw [sc0] at x0 x1 x2
        simp only [sc] at x0 x1 x2
        have okm : Ok ((m : Nat) : Int) := Ok.nat (by simp at e1; omega)
        have G1 := Go.Cx.hid (show inC (cms (l0.take (k + 1))) = inC (cms (l0.take k)) + m by simpa using e1)
        have G2 := Go.Cx.hid (show outC (cms (l0.take (k + 1))) = outC (cms (l0.take k)) + m by simpa using e2)
        clear e1 e2 sc0 hc hs b1 E1 E2 hok
        go_wp2_with (go_at_call 28; refine (op_long_ne 1 m ⟨#[]⟩ _ (by decide)).mono ?_; rintro e w1 ⟨rfl, hc⟩; have C1 := Go.Cx.hid hc; have y0 := hc.cell (p := ⟨wr.heap.size, 0, none⟩) (cell_blk (alloc_blk_new (w := wr) (.cells #[.int .i64 1, .int .i64 m, .string ⟨#[]⟩] 30) rfl) 0) id; clear hc)
        go_roundw
        case rel => exact ⟨k + 1, by omega, by go_num, by rw [G1.out, G2.out]; simp, Go.Cx.hid (HB.out.trans (((Ch.refl (fun _ => False) wr).alloc _).f C1.out |>.below _ HB.out.size (fun _ _ => id)))⟩
        case measure => simp [intOf]; omega
      · rw [hc] at e1 e2 sc0
        rw [sc0] at x0 x1 x2
        simp only [sc] at x0 x1 x2
        have okm : Ok ((q.length : Nat) : Int) := Ok.nat (by simp at e2; omega)
        have G1 := Go.Cx.hid (show inC (cms (l0.take (k + 1))) = inC (cms (l0.take k)) by simpa using e1)
        have G2 := Go.Cx.hid (show outC (cms (l0.take (k + 1))) = outC (cms (l0.take k)) + q.length by simpa using e2)
        have hsz : (⟨q.toArray⟩ : ByteArray) = str q := rfl
        rw [hsz] at x2
        clear e1 e2 sc0 hc hs b1 E1 E2 hok hsz
        go_wp2_with (go_at_call 28; refine (op_long_put 0 (str q) _).mono ?_; rintro e w1 ⟨rfl, hc⟩; have C1 := Go.Cx.hid hc; have y0 := hc.cell (p := ⟨wr.heap.size, 0, none⟩) (cell_blk (alloc_blk_new (w := wr) (.cells #[.int .i64 2, .int .i64 0, .string (str q)] 30) rfl) 0) id; clear hc)
        go_roundw
        case rel => exact ⟨k + 1, by omega, by go_num, by rw [G1.out, G2.out]; simp, Go.Cx.hid (HB.out.trans (((Ch.refl (fun _ => False) wr).alloc _).f C1.out |>.below _ HB.out.size (fun _ _ => id)))⟩
        case measure => simp [intOf]; omega
      · rw [hc] at e1 e2 sc0
        rw [sc0] at x0 x1 x2
        simp only [sc] at x0 x1 x2
        have okm : Ok ((m : Nat) : Int) := Ok.nat (by simp at e1; omega)
        have G1 := Go.Cx.hid (show inC (cms (l0.take (k + 1))) = inC (cms (l0.take k)) + m by simpa using e1)
        have G2 := Go.Cx.hid (show outC (cms (l0.take (k + 1))) = outC (cms (l0.take k)) by simpa using e2)
        clear e1 e2 sc0 hc hs b1 E1 E2 hok
        go_wp2_with (go_at_call 28; refine (op_long_ne 3 m ⟨#[]⟩ _ (by decide)).mono ?_; rintro e w1 ⟨rfl, hc⟩; have C1 := Go.Cx.hid hc; have y0 := hc.cell (p := ⟨wr.heap.size, 0, none⟩) (cell_blk (alloc_blk_new (w := wr) (.cells #[.int .i64 3, .int .i64 m, .string ⟨#[]⟩] 30) rfl) 0) id; clear hc)
        go_roundw
        case rel => exact ⟨k + 1, by omega, by go_num, by rw [G1.out, G2.out]; simp, Go.Cx.hid (HB.out.trans (((Ch.refl (fun _ => False) wr).alloc _).f C1.out |>.below _ HB.out.size (fun _ _ => id)))⟩
        case measure => simp [intOf]; omega
    · have hkn : k = n := by omega
      have H1 := Go.Cx.hid (show l0.take k = l0 by rw [hkn, HN.out]; exact List.take_length)
      clear hkn
      go_wp2
      go_ret
      rw [H1.out]
      exact ⟨rfl, HB.out⟩

end Go.Proofs.Ythfpohhkgcgbeaa.Q

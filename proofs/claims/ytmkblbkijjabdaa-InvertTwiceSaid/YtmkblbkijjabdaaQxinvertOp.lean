/- Contracts of Go functions: each call answers what the Lean function of its name answers. Conditions: stand in each theorem. Written by this seat's own program over the kit's printer. -/
import Derived.Test.YtmkblbkijjabdaaQ0
import Derived.Test.YtmkblbkijjabdaaQxcm
import Derived.Test.YtmkblbkijjabdaaQxopIn
import Derived.Test.YtmkblbkijjabdaaQxopNormal
import Derived.Test.YtmkblbkijjabdaaQN
import Derived.WalkMore
namespace Go.Proofs.Ytmkblbkijjabdaa.Q
open Go.RowKit Go.Proofs.YtmkblbkijjabdaaW.PrintWords Go.Proofs.YtmkblbkijjabdaaW.PrintLast Go.Proofs.YtmkblbkijjabdaaW.PrintMore
attribute [local go_sem] max2_int min2_int max_two min_two max_three min_three max_four min_four   -- for this text's walks alone
set_option linter.unusedVariables false
set_option linter.unusedSimpArgs false

-- HAND
/-! ### invert_Op: function 12 -/
open Go.OpM Go.Cx Go.F64
-- IMPORT Derived.Test.YtmkblbkijjabdaaQN
-- IMPORT Derived.WalkMore
/-- An operation turned about, part by part. -/
def invOne (c : Cm) (d : List UInt8) : Cm := if c.k = 2 then ⟨3, c.s.length, []⟩ else if c.k = 3 then ⟨2, 0, d.take c.n.toNat⟩ else c
def invC : List Cm → List UInt8 → List Cm
  | [], _ => []
  | c :: l, d => invOne c d :: invC l (d.drop (ins c.at_))
theorem invC_snoc (l : List Cm) (c : Cm) : ∀ d, invC (l ++ [c]) d = invC l d ++ [invOne c (d.drop (inC l))] := by
  induction l with
  | nil => intro d; simp [invC, inC, ins]
  | cons x l ih => intro d; simp only [List.cons_append, invC, ih, inC, at_cons, ins_append, List.drop_drop]
theorem invC_at (l : List Cm) (h : Vl l) : ∀ d, inC l ≤ d.length → at_ (invC l d) = inv (at_ l) d ∧ Vl (invC l d) := by
  induction l with
  | nil => intro d _; exact ⟨rfl, Vl.nil⟩
  | cons c l ih =>
    intro d hd
    have hd' : ins c.at_ + inC l ≤ d.length := by simpa [inC] using hd
    obtain ⟨h1, h2⟩ := ih h.tail (d.drop (ins c.at_)) (by rw [List.length_drop]; omega)
    rw [at_cons, inv_append, ← h1]
    simp only [invC, at_cons]
    rcases Cm.cases h.head with ⟨n, hn, rfl⟩ | ⟨s, hs, rfl⟩ | ⟨n, hn, rfl⟩
    · simp only [at_keep, ins_keeps] at hd' ⊢
      refine ⟨by rw [inv_keeps]; simp [invOne], Vl.cons (by simp only [invOne]; exact keep_ok hn) (by simpa using h2)⟩
    · simp only [at_put, ins_puts] at hd' ⊢
      refine ⟨by rw [inv_puts]; simp [invOne], Vl.cons (by simp only [invOne]; exact cut_ok (List.length_pos_iff.2 hs)) (by simpa using h2)⟩
    · simp only [at_cut, ins_cuts] at hd' ⊢
      refine ⟨by rw [inv_cuts]; simp [invOne], Vl.cons (by simp only [invOne]; refine put_ok ?_; intro e; have := congrArg List.length e; simp only [List.length_take, List.length_nil, Int.toNat_natCast] at this; omega) (by simpa using h2)⟩
theorem invC_len (l : List Cm) : ∀ d, (invC l d).length = l.length := by
  induction l with
  | nil => intro d; rfl
  | cons c l ih => intro d; simp [invC, ih]
theorem encs3_snoc (l : List S42) (c : S42) : encs3 (l ++ [c]) = encs3 l ++ enc3 c := by simp [encs3]
def InvJump (w : World) (d : List UInt8) (l0 : List S42) (A0 : Option Addr) (n c0 : Nat) (a' : Act) (w' : World) : Prop :=
  ∃ (k F : Nat) (b : Option Addr) (m cb : Nat) (u2 u3 u4 u5 u8 u9 u10 u11 u12 u13 u14 u15 u16 u17 u18 u19 u20 u21 u22 u23 u24 u25 u26 u27 u28 u29 u30 u31 u32 u33 u34 u35 u36 u37 u38 u39 u40 u41 u42 u43 u44 u45 u46 u47 u48 u49 u50 u51 u52 u53 u54 u55 u56 u57 u58 u59 u60 u61 u62 u63 u64 u65 u66 u67 u68 u69 u70 u71 u72 u73 u74 : Value), a' = { tmps := #[.string (str d), .slice A0 n c0, u2, u3, u4, u5, .slice b m cb, .complex .f64 (fl (k : Nat)) (fl (F : Nat)), u8, u9, u10, u11, u12, u13, u14, u15, u16, u17, u18, u19, u20, u21, u22, u23, u24, u25, u26, u27, u28, u29, u30, u31, u32, u33, u34, u35, u36, u37, u38, u39, u40, u41, u42, u43, u44, u45, u46, u47, u48, u49, u50, u51, u52, u53, u54, u55, u56, u57, u58, u59, u60, u61, u62, u63, u64, u65, u66, u67, u68, u69, u70, u71, u72, u73, u74], defers := [] } ∧
    k ≤ n ∧ Hid (F = inC (cms (l0.take k))) ∧ Hid (m = k) ∧ Hid (Own w' w.heap.size 42 3 b m cb (encs3 (scs (invC (cms (l0.take k)) d)))) ∧ Hid (Below w.heap.size w w')
def invert_Op.f (a0 : ByteArray) (l1 : List (S42)) : Option (List (S42) × Int) :=
  if good (cms l1) = true ∧ a0.size ≤ 100000 then (if inC (cms l1) = a0.size then some (scs (nf (inv (at_ (cms l1)) a0.data.toList)), 0) else some ([], 7)) else none
def InvPost (w : World) (r1 : List S42) (r2 : Int) (e : Ending) (w' : World) : Prop := ∃ v0_ : Value, e = .returned (.tuple #[v0_, .int .i64 r2]) ∧ Kd.R k42 42 w' w.heap.size (fun _ => True) v0_ r1 ∧ Below w.heap.size w w'
attribute [local go_sem ↓] max_ints min_ints
set_option maxRecDepth 100000 in
set_option maxHeartbeats 4000000 in
theorem invert_any (d : List UInt8) (A0 : Option Addr) (c0 : Nat) (l0 : List (S42)) (w : World) (hr0 : Kd.C k42 w A0 l0.length l0) (hc0 : l0.length ≤ c0) (hg : good (cms l0) = true) (hs : inC (cms l0) = d.length) : Calls Try.prog 12 #[.string (str d), .slice A0 l0.length c0] w (InvPost w (scs (nf (inv (at_ (cms l0)) d))) 0) := by
  obtain ⟨hv, hb⟩ := good_iff.1 hg
  have hs2 : (inC (cms l0) : Int) = d.length := by omega
  have t1 : ((inC (cms l0) : Int) != (d.length : Int)) = false := bne_eq_false_iff_eq.2 hs2
  have hin : op_In.f l0 = some ((inC (cms l0) : Nat) : Int) := by unfold op_In.f; rw [if_pos hg]
  have hnb : l0.length ≤ 100000 := by
    have h1 := at_len0 (at_ (cms l0))
    have h2 := vl_len0 hv
    unfold inC outC at hb
    have : (cms l0).length = l0.length := by simp [cms]
    omega
  have HIN := Go.Cx.hid hin
  have HR := Go.Cx.hid hr0
  have HG := Go.Cx.hid hg
  have HV := Go.Cx.hid hv
  have HS := Go.Cx.hid hs
  have HBD := Go.Cx.hid hb
  have HC0 := Go.Cx.hid hc0
  have HN : Hid (l0.length = l0.length) := Go.Cx.hid rfl
  have hnb2 : (l0.length : Int) ≤ 9223372036854775807 := by omega
  clear hr0 hg hs hs2 hc0 hin hv hb
  go_enter Try.func12, Try.ntmps12
  go_wp2
  refine wp_scope_again 0 (InvJump w d l0 A0 l0.length c0) (fun a' _ => l0.length - fk (a'.tmps.getD 7 undef)) rfl ?pass ?first
  case first =>
    intro PASS
    have HP := Go.Cx.hid PASS
    clear PASS
    go_wp2_with (go_at_call 21; refine (op_In.calls A0 c0 l0 _ _ HR.out HC0.out HIN.out).mono ?_; rintro e w1 ⟨rfl, hb⟩; have HB := Go.Cx.hid hb; clear hb)
    refine wp_label ?_
    simp only [Exit.then]
    rw [show (Value.complex .f64 0 0) = .complex .f64 (fl ((0 : Nat) : Int)) (fl ((0 : Nat) : Int)) from by rw [Int.natCast_zero, fl_zero]]
    refine (show ∀ (a : Act) (w : World), Code.wp Try.prog _ _ a w → _ from by assumption) _ _ ?_
    refine HP.out _ _ ⟨0, 0, none, 0, 0, _, _, _, _, _, _, _, _, _, _, _, _, _, _, _, _, _, _, _, _, _, _, _, _, _, _, _, _, _, _, _, _, _, _, _, _, _, _, _, _, _, _, _, _, _, _, _, _, _, _, _, _, _, _, _, _, _, _, _, _, _, _, _, _, _, _, _, _, _, _, _, rfl, Nat.zero_le _, Go.Cx.hid (by simp [cms, inC, ins]), Go.Cx.hid rfl, Go.Cx.hid (Own.nil _ _ _ _), HB⟩
  case pass =>
    rintro a' w' ⟨k, F, b, m, cb, u2, u3, u4, u5, u8, u9, u10, u11, u12, u13, u14, u15, u16, u17, u18, u19, u20, u21, u22, u23, u24, u25, u26, u27, u28, u29, u30, u31, u32, u33, u34, u35, u36, u37, u38, u39, u40, u41, u42, u43, u44, u45, u46, u47, u48, u49, u50, u51, u52, u53, u54, u55, u56, u57, u58, u59, u60, u61, u62, u63, u64, u65, u66, u67, u68, u69, u70, u71, u72, u73, u74, rfl, hk, HF, HM, HO, HB⟩
    have F1 := Go.Cx.hid (takes_le l0 k)
    have hF : F ≤ 100000 := by have h1 := F1.out.1; have h2 := HBD.out; rw [HF.out]; omega
    have okk : Ok ((k : Nat) : Int) := Ok.nat (by omega)
    have okF : Ok ((F : Nat) : Int) := Ok.nat (by omega)
    have hFd : F ≤ d.length := by have h1 := F1.out.1; rw [HF.out, ← HS.out]; exact h1
    have LC := Go.Cx.hid HB.out.size
    by_cases hlt : k < l0.length
    · have hlti : (k : Int) < l0.length := by omega
      have hkb : ((k : Int) == (l0.length : Int)) = false := beq_eq_false_iff_ne.2 (by omega)
      obtain ⟨ad, e, x0, x1, x2⟩ := at_T42 (Kd.C_below HR.out HB.out) (k : Int) (by omega) (by omega)
      subst e
      rw [rd_get hlt] at x0 x1 x2
      simp only [Int.toNat_natCast] at x0 x1 x2
      have hok : (cm l0[k]).ok := HV.out _ (List.mem_map.2 ⟨l0[k], List.getElem_mem hlt, rfl⟩)
      have e1 := inC_take hlt
      have b1 := (takes_le l0 (k + 1)).1
      have sc0 : l0[k] = sc (cm l0[k]) := (sc_cm _).symm
      have htk : l0.take (k + 1) = l0.take k ++ [l0[k]] := by rw [List.take_succ_eq_append_getElem hlt]
      have hic : invC (cms (l0.take (k + 1))) d = invC (cms (l0.take k)) d ++ [invOne (cm l0[k]) (d.drop F)] := by
        rw [htk, cms_append, HF.out]; exact invC_snoc _ _ _
      have hms := HM.out
      have hms1 : m + 1 ≤ maxLen := by unfold maxLen; omega
      have hms2 : (m + 1) * 32 ≤ 140737488355328 := by omega
      have k0 : (0 : Int) ≤ k := by omega
      have f0 : (0 : Int) ≤ F := by omega
      have f1 : (F : Int) ≤ d.length := by omega
      have f2 : (F : Int) ≤ 100000 := by omega
      have d1 : (d.length : Int) ≤ 100000 := by have := HBD.out; have := HS.out; omega
      rcases Cm.cases hok with ⟨q, hq, hc⟩ | ⟨s, hs, hc⟩ | ⟨q, hq, hc⟩
      · rw [hc] at e1 sc0 hic
        rw [sc0] at x0 x1 x2
        simp only [sc] at x0 x1 x2
        have e2 : inC (cms (l0.take (k + 1))) = F + q := by rw [HF.out]; simpa using e1
        have hfq : (F : Int) + q ≤ d.length := by have := HS.out; omega
        have q0 : (0 : Int) ≤ q := by omega
        have hto : min (max ((F : Int) + (q : Int)) (F : Int)) (d.length : Int) = (F : Int) + q := by omega
        have okq : Ok ((F : Int) + q) := Ok.of (by omega) (by omega)
        have HE2 := Go.Cx.hid e2
        have HST : Hid (encs3 (scs (invC (cms (l0.take (k + 1))) d)) = encs3 (scs (invC (cms (l0.take k)) d)) ++ enc3 ⟨1, q, ⟨#[]⟩⟩) := Go.Cx.hid (by rw [hic, scs_append, encs3_app] <;> (first | rfl | (congr 1; simp [scs, sc, invOne, encs3])))
        clear e1 e2 b1 sc0 htk hic hms hc hok
        go_wp2_with (at_builtin; refine wpList_app rfl _ _ _ _ rfl w.heap.size 42 3 32 _ et_comp b m cb _ rfl (HO.out.f (((Ch.refl (fun _ => False) w').alloc _).alloc _)) _ 1 _ rfl (src3 (w'.alloc _) ⟨1, q, ⟨#[]⟩⟩ (w'.heap.size + 1) (by simp)) hms1 hms2 (by have := LC.out; simp; omega) ?_; intro a3 c3 w3 hO hS hC hN; have HO3 := Go.Cx.hid hO; have HC3 := Go.Cx.hid hC; clear hO hS hC hN)
        refine wp_goto ?_
        rw [show ((k : Int) + 1) = ((k + 1 : Nat) : Int) from by omega]
        rw [show ((F : Int) + (q : Int)) = ((F + q : Nat) : Int) from by omega]
        refine ⟨by trivial, ⟨k + 1, F + q, a3, m + 1, c3, _, _, _, _, _, _, _, _, _, _, _, _, _, _, _, _, _, _, _, _, _, _, _, _, _, _, _, _, _, _, _, _, _, _, _, _, _, _, _, _, _, _, _, _, _, _, _, _, _, _, _, _, _, _, _, _, _, _, _, _, _, _, _, _, _, _, _, _, _, _, _, rfl, by omega, Go.Cx.hid HE2.out.symm, Go.Cx.hid (by rw [HM.out]), Go.Cx.hid (by rw [HST.out]; exact HO3.out), Go.Cx.hid (Ch.below0 (Ch.app_own (((Ch.of_below HB.out).alloc _).alloc _) (HO.out.f (((Ch.refl (fun _ => False) w').alloc _).alloc _)) (Nat.le_refl _) HC3.out))⟩, ?_⟩
        show l0.length - fk (.complex .f64 (fl ((k + 1 : Nat) : Int)) _) < l0.length - fk (.complex .f64 (fl ((k : Nat) : Int)) _)
        rw [fk_fl _ (by omega), fk_fl _ (by omega)]
        omega
      · rw [hc] at e1 sc0 hic
        rw [sc0] at x0 x1 x2
        simp only [sc] at x0 x1 x2
        have e2 : inC (cms (l0.take (k + 1))) = F := by rw [HF.out]; simpa using e1
        have hto : min (max (F : Int) (F : Int)) (d.length : Int) = (F : Int) := by omega
        have hto2 : min (F : Int) (d.length : Int) = (F : Int) := by omega
        rw [show (⟨s.toArray⟩ : ByteArray) = str s from rfl] at x2
        have HE2 := Go.Cx.hid e2
        have HST : Hid (encs3 (scs (invC (cms (l0.take (k + 1))) d)) = encs3 (scs (invC (cms (l0.take k)) d)) ++ enc3 ⟨3, s.length, ⟨#[]⟩⟩) := Go.Cx.hid (by rw [hic, scs_append, encs3_app] <;> (first | rfl | (congr 1; simp [scs, sc, invOne, encs3])))
        clear e1 e2 b1 sc0 htk hic hms hc hok
        go_wp2_with (at_builtin; refine wpList_app rfl _ _ _ _ rfl w.heap.size 42 3 32 _ et_comp b m cb _ rfl (HO.out.f (((Ch.refl (fun _ => False) w').alloc _).alloc _)) _ 1 _ rfl (src3 (w'.alloc _) ⟨3, s.length, ⟨#[]⟩⟩ (w'.heap.size + 1) (by simp)) hms1 hms2 (by have := LC.out; simp; omega) ?_; intro a3 c3 w3 hO hS hC hN; have HO3 := Go.Cx.hid hO; have HC3 := Go.Cx.hid hC; clear hO hS hC hN)
        refine wp_goto ?_
        rw [show ((k : Int) + 1) = ((k + 1 : Nat) : Int) from by omega]
        refine ⟨by trivial, ⟨k + 1, F, a3, m + 1, c3, _, _, _, _, _, _, _, _, _, _, _, _, _, _, _, _, _, _, _, _, _, _, _, _, _, _, _, _, _, _, _, _, _, _, _, _, _, _, _, _, _, _, _, _, _, _, _, _, _, _, _, _, _, _, _, _, _, _, _, _, _, _, _, _, _, _, _, _, _, _, _, rfl, by omega, Go.Cx.hid HE2.out.symm, Go.Cx.hid (by rw [HM.out]), Go.Cx.hid (by rw [HST.out]; exact HO3.out), Go.Cx.hid (Ch.below0 (Ch.app_own (((Ch.of_below HB.out).alloc _).alloc _) (HO.out.f (((Ch.refl (fun _ => False) w').alloc _).alloc _)) (Nat.le_refl _) HC3.out))⟩, ?_⟩
        show l0.length - fk (.complex .f64 (fl ((k + 1 : Nat) : Int)) _) < l0.length - fk (.complex .f64 (fl ((k : Nat) : Int)) _)
        rw [fk_fl _ (by omega), fk_fl _ (by omega)]
        omega
      · rw [hc] at e1 sc0 hic
        rw [sc0] at x0 x1 x2
        simp only [sc] at x0 x1 x2
        have e2 : inC (cms (l0.take (k + 1))) = F + q := by rw [HF.out]; simpa using e1
        have hfq : (F : Int) + q ≤ d.length := by have := HS.out; omega
        have q0 : (0 : Int) ≤ q := by omega
        have hto : min (max ((F : Int) + (q : Int)) (F : Int)) (d.length : Int) = (F : Int) + q := by omega
        have okq : Ok ((F : Int) + q) := Ok.of (by omega) (by omega)
        have htn : ((F : Int) + (q : Int)).toNat = F + q := by omega
        have hle : (F : Int) ≤ (F : Int) + (q : Int) := by omega
        have HE2 := Go.Cx.hid e2
        have HST : Hid (encs3 (scs (invC (cms (l0.take (k + 1))) d)) = encs3 (scs (invC (cms (l0.take k)) d)) ++ enc3 ⟨2, 0, (str d).extract F (F + q)⟩) := Go.Cx.hid (by rw [hic, scs_append, encs3_app] <;> (first | rfl | (congr 1; simp [scs, sc, invOne, encs3, str_cut])))
        clear e1 e2 b1 sc0 htk hic hms hc hok
        go_wp2_with (at_builtin; refine wpList_app rfl _ _ _ _ rfl w.heap.size 42 3 32 _ et_comp b m cb _ rfl (HO.out.f (((Ch.refl (fun _ => False) w').alloc _).alloc _)) _ 1 _ rfl (src3 (w'.alloc _) ⟨2, 0, (str d).extract F (F + q)⟩ (w'.heap.size + 1) (by simp)) hms1 hms2 (by have := LC.out; simp; omega) ?_; intro a3 c3 w3 hO hS hC hN; have HO3 := Go.Cx.hid hO; have HC3 := Go.Cx.hid hC; clear hO hS hC hN)
        refine wp_goto ?_
        rw [show ((k : Int) + 1) = ((k + 1 : Nat) : Int) from by omega]
        rw [show ((F : Int) + (q : Int)) = ((F + q : Nat) : Int) from by omega]
        refine ⟨by trivial, ⟨k + 1, F + q, a3, m + 1, c3, _, _, _, _, _, _, _, _, _, _, _, _, _, _, _, _, _, _, _, _, _, _, _, _, _, _, _, _, _, _, _, _, _, _, _, _, _, _, _, _, _, _, _, _, _, _, _, _, _, _, _, _, _, _, _, _, _, _, _, _, _, _, _, _, _, _, _, _, _, _, _, rfl, by omega, Go.Cx.hid HE2.out.symm, Go.Cx.hid (by rw [HM.out]), Go.Cx.hid (by rw [HST.out]; exact HO3.out), Go.Cx.hid (Ch.below0 (Ch.app_own (((Ch.of_below HB.out).alloc _).alloc _) (HO.out.f (((Ch.refl (fun _ => False) w').alloc _).alloc _)) (Nat.le_refl _) HC3.out))⟩, ?_⟩
        show l0.length - fk (.complex .f64 (fl ((k + 1 : Nat) : Int)) _) < l0.length - fk (.complex .f64 (fl ((k : Nat) : Int)) _)
        rw [fk_fl _ (by omega), fk_fl _ (by omega)]
        omega
    · have hkn : k = l0.length := by omega
      have hkb : ((k : Int) == (l0.length : Int)) = true := beq_iff_eq.2 (by omega)
      have htk : l0.take k = l0 := by rw [hkn]; exact List.take_length
      have HO2 := HO
      rw [htk] at HO2
      obtain ⟨hia, hiv⟩ := invC_at (cms l0) HV.out d (by rw [HS.out]; exact Nat.le_refl _)
      have hgi : good (cms (scs (invC (cms l0) d))) = true := by
        rw [cms_scs]
        refine good_iff.2 ⟨hiv, ?_⟩
        have h1 := HBD.out
        have h2 := inv_ins (at_ (cms l0)) d
        have h3 := inv_outs (at_ (cms l0)) d (by have := HS.out; unfold inC at this; omega)
        unfold inC outC at h1 ⊢
        rw [hia, h2, h3]; omega
      have hml : m = (scs (invC (cms l0) d)).length := by rw [HM.out, hkn]; simp [scs, invC_len, cms]
      have hnf := normal_eq _ hgi (m + 1) (by omega)
      rw [cms_scs, hia] at hnf
      have hrd := (Kd.R_reads' (own3 hml HO2.out)).2.2
      have HNF := Go.Cx.hid hnf
      have HML := Go.Cx.hid hml
      have HRD := Go.Cx.hid hrd
      have hmc := HO2.out.sl.2.1
      have HMC := Go.Cx.hid hmc
      clear hkn htk hia hiv hgi hml hnf hrd hmc
      go_wp2_with (go_at_call 22; rw [HML.out]; refine (op_Normal.calls _ b cb _ _ _ HRD.out (by rw [← HML.out]; exact HMC.out) HNF.out).mono ?_; rintro e w1 ⟨v0, rfl, ho, hb⟩; have HV0 := Go.Cx.hid ho; have HB1 := Go.Cx.hid hb; clear ho hb)
      simp only [Exit.jump]
      go_ret2
      exact ⟨v0, rfl, Kd.R_lower HV0.out HB.out.size, below_then HB.out HB.out.size HB1.out⟩
set_option maxRecDepth 100000 in
set_option maxHeartbeats 400000 in
theorem invert_bad (d : List UInt8) (A0 : Option Addr) (c0 : Nat) (l0 : List (S42)) (w : World) (hr0 : Kd.C k42 w A0 l0.length l0) (hc0 : l0.length ≤ c0) (hg : good (cms l0) = true) (hs : inC (cms l0) ≠ d.length) : Calls Try.prog 12 #[.string (str d), .slice A0 l0.length c0] w (InvPost w [] 7) := by
  have t1 : ((inC (cms l0) : Int) != (d.length : Int)) = true := by rw [bne_iff_ne]; omega
  have hin : op_In.f l0 = some ((inC (cms l0) : Nat) : Int) := by unfold op_In.f; rw [if_pos hg]
  have HIN := Go.Cx.hid hin
  have HR := Go.Cx.hid hr0
  have HC0 := Go.Cx.hid hc0
  clear hr0 hg hs hc0 hin
  go_enter Try.func12, Try.ntmps12
  go_wp2
  refine wp_scope_straight ?_
  go_wp2_with (go_at_call 21; refine (op_In.calls A0 c0 l0 _ _ HR.out HC0.out HIN.out).mono ?_; rintro e w1 ⟨rfl, hb⟩; have HB := Go.Cx.hid hb; clear hb)
  rw [Exit.noGoto_ret]
  go_ret2
  exact ⟨_, rfl, Kd.R_nil _ _ _ _ _, HB.out⟩
theorem invert_Op.calls (a0 : ByteArray) (A1 : Option Addr) (c1 : Nat) (l1 : List (S42)) (r1 : List (S42)) (r2 : Int) (w : World) (hr1 : Kd.C k42 w A1 l1.length l1) (hc1 : l1.length ≤ c1) (h : invert_Op.f a0 l1 = some (r1, r2)) :
    Calls Try.prog 12 #[.string a0, .slice A1 l1.length c1] w fun e w' => ∃ v0_ : Value, e = .returned (.tuple #[v0_, .int .i64 r2]) ∧ Kd.R k42 42 w' w.heap.size (fun _ => True) v0_ r1 ∧ Below w.heap.size w w' := by
  obtain ⟨d, rfl⟩ := str_of a0
  unfold invert_Op.f at h
  by_cases hg : good (cms l1) = true ∧ (str d).size ≤ 100000
  · rw [if_pos hg, str_size] at h
    by_cases hs : inC (cms l1) = d.length
    · rw [if_pos hs] at h
      simp only [Option.some.injEq, Prod.mk.injEq] at h
      obtain ⟨rfl, rfl⟩ := h
      rw [str_data]
      exact invert_any d A1 c1 l1 w hr1 hc1 hg.1 hs
    · rw [if_neg hs] at h
      simp only [Option.some.injEq, Prod.mk.injEq] at h
      obtain ⟨rfl, rfl⟩ := h
      exact invert_bad d A1 c1 l1 w hr1 hc1 hg.1 hs
  · rw [if_neg hg] at h
    cases h

end Go.Proofs.Ytmkblbkijjabdaa.Q

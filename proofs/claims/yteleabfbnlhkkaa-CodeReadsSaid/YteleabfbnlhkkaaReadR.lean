/- CodeReads. -/
import Derived.Test.YteleabfbnlhkkaaRefB
namespace Go.Proofs.Yteleabfbnlhkkaa
open Go.RowKit Go.Cx
set_option linter.unusedVariables false
set_option linter.unusedSimpArgs false

theorem RC.other {S : Nat → Prop} {w w' : World} {q : Nat} {a : Option Addr} {n c P : Nat} {e : Int} (h : RC w q a n c P e) (hc : Ch S w w') (hs : ¬ S q) : RC w' q a n c P e := hc.heap h hs
/-- What is left of the copy does not lie in the other reader: its cells are no bytes. -/
theorem Rd.other {w w' : World} {p q : Nat} {l : List UInt8} {e : Int} {a : Option Addr} {n c P : Nat} {e2 : Int} (h : Rd w p l e) (h2 : RC w q a n c P e2) (hc : Ch (fun k => k = q) w w') (hpq : p ≠ q) : Rd w' p l e := by
  obtain ⟨a', n', c', g1, g2, g3⟩ := h
  refine ⟨a', n', c', hc.heap g1 hpq, ⟨g2.1, g2.2.1, g2.2.2.1, g2.2.2.2.1, fun b hb j u hu => ?_⟩, g3⟩
  have hcell := g2.2.2.2.2 b hb j u hu
  refine hc.cell hcell (fun hq => ?_)
  obtain ⟨x, hx⟩ : ∃ x : UInt8, u = .int .u8 (x.toNat : Int) := by
    rw [bv_get] at hu
    cases hl : l[j]? with
    | none => rw [hl] at hu; cases hu
    | some x => rw [hl] at hu; exact ⟨x, by simpa using hu.symm⟩
  obtain ⟨g, o, hspot⟩ := g2.spot (by intro e; rw [e] at hu; simp at hu)
  rw [hspot] at hb
  cases hb
  rw [add_eq] at hcell hq
  have hgq : g = q := hq
  subst hgq
  rw [cell_blk h2, hx] at hcell
  rcases Nat.lt_or_ge (o + j) 3 with ho | ho
  · have : o + j = 0 ∨ o + j = 1 ∨ o + j = 2 := by omega
    rcases this with h | h | h <;> rw [h] at hcell <;> simp at hcell
  · rw [Array.getElem?_eq_none (by simpa using ho)] at hcell; cases hcell

/-- Both readers, at one place. -/
structure Two (w0 w : World) (p q : Nat) (a : Option Addr) (n c : Nat) (L : List UInt8) (P : Nat) (e : Int) : Prop where
  rd : Rd w p (L.drop P) e
  rc : RC w q a n c P e
  le : P ≤ n
  ch : Ch (fun _ => False) w0 w
theorem Two.arg {w0 w : World} {q : Nat} {a : Option Addr} {n c : Nat} {L : List UInt8} (h : Ch (fun _ => False) w0 w) (h0 : Sl w0 1 a n c (bv L)) (hq : w0.heap.size ≤ q) : ∀ w', Ch (fun k => k = q) w w' → Sl w' 1 a n c (bv L) :=
  fun w' hc => h0.below (h.far1 hc hq).below0

set_option maxRecDepth 100000 in
set_option maxHeartbeats 8000000 in
theorem CodeReads_walk (w : World) (a0 : Option Addr) (n0 c0 : Nat) (l0 : List UInt8) (h0 : Sl w 1 a0 n0 c0 (bv l0)) (a1 : Option Addr) (n1 c1 : Nat) (l1 : List Int) (h1 : Sl w 1 a1 n1 c1 (iv l1)) (h64 : ∀ z ∈ l1, I64 z) :
    Calls Try.prog 8 #[.slice a0 n0 c0, .slice a1 n1 c1] w fun e w' => e = .returned (.bool true) ∧ Below w.heap.size w w' := by
  refine Calls.mono (R := True_ w) ?_ (fun e w' h => ⟨h.1, h.2.below0⟩)
  have H0 := hid h0
  have H1 := hid h1
  have hnL := hid (Sl_len h0)
  have HL1 := hid (show l1.length = n1 by have := h1.1; rw [iv_length] at this; omega)
  clear h0 h1 h64
  rcases Nat.lt_or_ge 500 n0 with hb | hb
  · go_enter Try.func8, Try.ntmps8
    go_wp2_with (go_at_call 11; refine (known1_any _).mono ?_; rintro e w1 ⟨rfl, hc1⟩; have C1 := hid hc1; clear hc1)
    go_ret
    exact ⟨rfl, C1.out⟩
  · have mk0 : ∀ w : World, Own (w.alloc (.cells #[] 5)) w.heap.size 5 1 (some ⟨w.heap.size, 0, none⟩) 0 0 [] := fun w => World.ownsRow_made w #[] 0 (Nat.le_refl _) (Nat.zero_le _) rfl
    have M0 := hid mk0
    clear mk0
    have q1 : 0 + n0 ≤ maxLen := by unfold maxLen; omega
    have q2 : (0 + n0) * 1 ≤ 140737488355328 := by omega
    have q3 : n0 ≤ 1000000 := by omega
    have K2 : (7 : Int) ≤ 1000000000000 := by omega
    have K2' : (20 : Int) ≤ 1000000000000 := by omega
    have K20 : (0 : Int) < 20 := by omega
    go_enter Try.func8, Try.ntmps8
    go_wp2_with (first
      | (go_at_call 11; refine (known1_any _).mono ?_; rintro e w1 ⟨rfl, hc1⟩; have C1 := hid hc1; have A1 := hid (H0.out.below hc1.below0); clear hc1)
      | (at_builtin; refine wpList_app rfl _ _ _ _ rfl w1.heap.size 5 1 1 _ et_u8 _ 0 _ [] rfl (M0.out w1) _ n0 _ rfl ((A1.out.ch ((Ch.refl (fun _ => False) w1).alloc _) (fun _ _ => id)).src Try.underlying22 (bv_one _)) q1 q2 (by simp) ?_; intro a2 c2 w2 hO hS hC hN; rw [List.nil_append, Nat.zero_add] at hO; have O2 := hid hO.sl; have hC2 := Ch.app_new hC; have C2 := hid (C1.out.f hC2); clear hO hS hC hN hC2 A1 C1)
      | (go_at_call 19; refine (new1_any _ n0 _ _ w2 O2.out q3).mono ?_; rintro e w3 ⟨p, rfl, hr, hp, hc⟩; have R3 := hid hr; have PP := hid (Nat.le_trans C2.out.size hp); have pl := hid (lt_of_block hr.choose_spec.choose_spec.choose_spec.1); have C3 := hid (C2.out.f hc); clear hr hc hp C2 O2)
      | (go_at_call 24; refine (xnew_any a0 n0 c0 w3).mono ?_; rintro e w4 ⟨q, rfl, hr, hp, hc⟩; have T4 := hid (Two.mk (P := 0) (R3.out.f hc) hr (Nat.zero_le _) (C3.out.f hc)); have QQ := hid (Nat.le_trans C3.out.size hp); have PQ := hid (show p ≠ q by have := pl.out; omega); have NQP := hid (show ¬ q = p by have := pl.out; omega); clear hr hc hp R3 C3 pl))
    go_loopw [7] (fun vi wr => ∃ (i P : Nat) (e : Int), i ≤ 30 ∧ vi = .int .i64 i ∧ Two w wr p q a0 n0 c0 l0 P e) (fun vi _ => 30 - (intOf vi).toNat)
    case atStart => exact ⟨0, 0, 0, by omega, rfl, T4.out⟩
    case round =>
      obtain ⟨i, P, e, hi, rfl, hT⟩ := hrel
      have TT := hid hT
      have hPn := hT.le
      clear hT T4
      by_cases hlt : i < n1 ∧ i < 30
      · obtain ⟨hi1, hi2⟩ := hlt
        obtain ⟨z, hz⟩ : ∃ z, l1[i]? = some z := ⟨_, List.getElem?_eq_getElem (by rw [HL1.out]; exact hi1)⟩
        obtain ⟨g, o, rfl⟩ := H1.out.spot (by intro h; have := congrArg List.length h; rw [iv_length, HL1.out] at this; simp at this; omega)
        have hcell : wr.cell? ⟨g, o + i, none⟩ = some (.int .i64 z) := (H1.out.below TT.out.ch.below0).at_ (by rw [iv_get, hz]; rfl)
        have CZ := hid (show (iv l1)[i]? = some (.int .i64 z) by rw [iv_get, hz]; rfl)
        have hj1 : (i : Int) < n1 := by omega
        have hj2 : (i : Int) < 30 := by omega
        have hj3 : (0 : Int) ≤ i := by omega
        have K1 := hid (show (0 : Int) < 7 by omega)
        obtain ⟨k, hk⟩ : ∃ k : Int, z % 7 = k := ⟨_, rfl⟩
        have hk7 : k = 0 ∨ k = 1 ∨ k = 2 ∨ k = 3 ∨ k = 4 ∨ k = 5 ∨ k = 6 := by omega
        have HZ := hid hk
        have hdl : (l0.drop P).length = n0 - P := by rw [List.length_drop, ← hnL.out]
        clear hz hk
        by_cases he : e = 0
        · subst he
          rcases hk7 with rfl | rfl | rfl | rfl | rfl | rfl | rfl
          · rcases Nat.lt_or_ge (n0 - P) 8 with hsz | hsz
            · have BAD := hid (show (0 : Int) ≠ 0 ∨ (l0.drop P).length < 8 from .inr (by omega))
              have XBAD := hid (show (0 : Int) ≠ 0 ∨ n0 - P < 8 from .inr hsz)
              clear hdl
              go_wp2_with (first
                | (go_at_call 18; have K1x := K1.out; refine (within1_any z 7 _ K1x K2).mono ?_; rw [HZ.out]; rintro e u1 ⟨rfl, rfl⟩; clear K1 K1x)
                | (go_at_call 20; refine (rint_bad p _ _ _ TT.out.rd BAD.out).mono ?_; rintro e u2 ⟨rfl, hr, hc⟩; have R2 := hid hr; have X2 := hid (TT.out.rc.other hc NQP.out); have C2 := hid (TT.out.ch.far1 hc PP.out); clear hr hc)
                | (go_at_call 25; (refine (xint_bad q a0 n0 c0 P _ _ X2.out hPn q3 XBAD.out).mono ?_; rintro e u3 ⟨rfl, hr, hc⟩; have T3 := hid (Two.mk (R2.out.other X2.out hc PQ.out) hr hPn (C2.out.far1 hc QQ.out)); clear hr hc))
                | (go_at_call 22; refine (end_any p _ _ u3 T3.out.rd).mono ?_; rintro e u4 ⟨rfl, rfl⟩)
                | (go_at_call 30; refine (xend_any q a0 n0 c0 (P) (er 0 8) l0 _ T3.out.rc hnL.out).mono ?_; rintro e u5 ⟨rfl, hr, hc⟩; have T5 := hid (Two.mk (T3.out.rd.other T3.out.rc hc PQ.out) hr hPn (T3.out.ch.far1 hc QQ.out)); clear hr hc))
              go_roundw
              case rel => exact ⟨i + 1, P, er 0 8, by omega, by go_num, T5.out⟩
              case measure => simp [intOf]; omega
            · have LE := hid (show 8 ≤ (l0.drop P).length by omega)
              have DR := hid (show (l0.drop P).drop 8 = l0.drop (P + 8) by rw [List.drop_drop])
              have hk8 : P + 8 ≤ n0 := by omega
              clear hdl
              go_wp2_with (first
                | (go_at_call 18; have K1x := K1.out; refine (within1_any z 7 _ K1x K2).mono ?_; rw [HZ.out]; rintro e u1 ⟨rfl, rfl⟩; clear K1 K1x)
                | (go_at_call 20; refine (rint_ok p _ _ TT.out.rd LE.out).mono ?_; rintro e u2 ⟨rfl, hr, hc⟩; rw [DR.out] at hr; have R2 := hid hr; have X2 := hid (TT.out.rc.other hc NQP.out); have C2 := hid (TT.out.ch.far1 hc PP.out); clear hr hc)
                | (go_at_call 25; (refine (xint_ok q a0 n0 c0 P l0 _ X2.out q3 hnL.out hk8 (Two.arg C2.out H0.out QQ.out)).mono ?_; rintro e u3 ⟨rfl, hr, hc⟩; have T3 := hid (Two.mk (R2.out.other X2.out hc PQ.out) hr hk8 (C2.out.far1 hc QQ.out)); clear hr hc))
                | (go_at_call 22; refine (end_any p _ _ u3 T3.out.rd).mono ?_; rintro e u4 ⟨rfl, rfl⟩)
                | (go_at_call 30; refine (xend_any q a0 n0 c0 (P + 8) (0) l0 _ T3.out.rc hnL.out).mono ?_; rintro e u5 ⟨rfl, hr, hc⟩; have T5 := hid (Two.mk (T3.out.rd.other T3.out.rc hc PQ.out) hr hk8 (T3.out.ch.far1 hc QQ.out)); clear hr hc))
              go_roundw
              case rel => exact ⟨i + 1, P + 8, 0, by omega, by go_num, T5.out⟩
              case measure => simp [intOf]; omega
          · rcases Nat.lt_or_ge (n0 - P) 8 with hsz | hsz
            · have BAD := hid (show (0 : Int) ≠ 0 ∨ (l0.drop P).length < 8 from .inr (by omega))
              have XBAD := hid (show (0 : Int) ≠ 0 ∨ n0 - P < 8 from .inr hsz)
              clear hdl
              go_wp2_with (first
                | (go_at_call 18; have K1x := K1.out; refine (within1_any z 7 _ K1x K2).mono ?_; rw [HZ.out]; rintro e u1 ⟨rfl, rfl⟩; clear K1 K1x)
                | (go_at_call 20; refine (rint_bad p _ _ _ TT.out.rd BAD.out).mono ?_; rintro e u2 ⟨rfl, hr, hc⟩; have R2 := hid hr; have X2 := hid (TT.out.rc.other hc NQP.out); have C2 := hid (TT.out.ch.far1 hc PP.out); clear hr hc)
                | (go_at_call 25; (refine (xint_bad q a0 n0 c0 P _ _ X2.out hPn q3 XBAD.out).mono ?_; rintro e u3 ⟨rfl, hr, hc⟩; have T3 := hid (Two.mk (R2.out.other X2.out hc PQ.out) hr hPn (C2.out.far1 hc QQ.out)); clear hr hc))
                | (go_at_call 22; refine (end_any p _ _ u3 T3.out.rd).mono ?_; rintro e u4 ⟨rfl, rfl⟩)
                | (go_at_call 30; refine (xend_any q a0 n0 c0 (P) (er 0 8) l0 _ T3.out.rc hnL.out).mono ?_; rintro e u5 ⟨rfl, hr, hc⟩; have T5 := hid (Two.mk (T3.out.rd.other T3.out.rc hc PQ.out) hr hPn (T3.out.ch.far1 hc QQ.out)); clear hr hc))
              go_roundw
              case rel => exact ⟨i + 1, P, er 0 8, by omega, by go_num, T5.out⟩
              case measure => simp [intOf]; omega
            · have LE := hid (show 8 ≤ (l0.drop P).length by omega)
              have DR := hid (show (l0.drop P).drop 8 = l0.drop (P + 8) by rw [List.drop_drop])
              have hk8 : P + 8 ≤ n0 := by omega
              clear hdl
              go_wp2_with (first
                | (go_at_call 18; have K1x := K1.out; refine (within1_any z 7 _ K1x K2).mono ?_; rw [HZ.out]; rintro e u1 ⟨rfl, rfl⟩; clear K1 K1x)
                | (go_at_call 20; refine (rint_ok p _ _ TT.out.rd LE.out).mono ?_; rintro e u2 ⟨rfl, hr, hc⟩; rw [DR.out] at hr; have R2 := hid hr; have X2 := hid (TT.out.rc.other hc NQP.out); have C2 := hid (TT.out.ch.far1 hc PP.out); clear hr hc)
                | (go_at_call 25; (refine (xint_ok q a0 n0 c0 P l0 _ X2.out q3 hnL.out hk8 (Two.arg C2.out H0.out QQ.out)).mono ?_; rintro e u3 ⟨rfl, hr, hc⟩; have T3 := hid (Two.mk (R2.out.other X2.out hc PQ.out) hr hk8 (C2.out.far1 hc QQ.out)); clear hr hc))
                | (go_at_call 22; refine (end_any p _ _ u3 T3.out.rd).mono ?_; rintro e u4 ⟨rfl, rfl⟩)
                | (go_at_call 30; refine (xend_any q a0 n0 c0 (P + 8) (0) l0 _ T3.out.rc hnL.out).mono ?_; rintro e u5 ⟨rfl, hr, hc⟩; have T5 := hid (Two.mk (T3.out.rd.other T3.out.rc hc PQ.out) hr hk8 (T3.out.ch.far1 hc QQ.out)); clear hr hc))
              go_roundw
              case rel => exact ⟨i + 1, P + 8, 0, by omega, by go_num, T5.out⟩
              case measure => simp [intOf]; omega
          · rcases Nat.lt_or_ge (n0 - P) 1 with hsz | hsz
            · have BAD := hid (show (0 : Int) ≠ 0 ∨ (l0.drop P).length < 1 from .inr (by omega))
              have XBAD := hid (show (0 : Int) ≠ 0 ∨ n0 - P < 1 from .inr hsz)
              clear hdl
              go_wp2_with (first
                | (go_at_call 18; have K1x := K1.out; refine (within1_any z 7 _ K1x K2).mono ?_; rw [HZ.out]; rintro e u1 ⟨rfl, rfl⟩; clear K1 K1x)
                | (go_at_call 21; refine (rbyte_bad p _ _ _ TT.out.rd BAD.out).mono ?_; rintro e u2 ⟨rfl, hr, hc⟩; have R2 := hid hr; have X2 := hid (TT.out.rc.other hc NQP.out); have C2 := hid (TT.out.ch.far1 hc PP.out); clear hr hc)
                | (go_at_call 26; (refine (xbyte_bad q a0 n0 c0 P _ _ X2.out hPn q3 XBAD.out).mono ?_; rintro e u3 ⟨rfl, hr, hc⟩; have T3 := hid (Two.mk (R2.out.other X2.out hc PQ.out) hr hPn (C2.out.far1 hc QQ.out)); clear hr hc))
                | (go_at_call 22; refine (end_any p _ _ u3 T3.out.rd).mono ?_; rintro e u4 ⟨rfl, rfl⟩)
                | (go_at_call 30; refine (xend_any q a0 n0 c0 (P) (er 0 8) l0 _ T3.out.rc hnL.out).mono ?_; rintro e u5 ⟨rfl, hr, hc⟩; have T5 := hid (Two.mk (T3.out.rd.other T3.out.rc hc PQ.out) hr hPn (T3.out.ch.far1 hc QQ.out)); clear hr hc))
              go_roundw
              case rel => exact ⟨i + 1, P, er 0 8, by omega, by go_num, T5.out⟩
              case measure => simp [intOf]; omega
            · obtain ⟨b, r, hbr⟩ : ∃ b r, l0.drop P = b :: r := by
                cases h : l0.drop P with
                | nil => rw [h] at hdl; simp at hdl; omega
                | cons b r => exact ⟨b, r, rfl⟩
              have DR := hid (show r = l0.drop (P + 1) by rw [← List.drop_drop, hbr]; rfl)
              have BR := hid hbr
              have RB := hid (show Rd wr p (b :: r) 0 by rw [← hbr]; exact TT.out.rd)
              have hk8 : P + 1 ≤ n0 := by omega
              clear hdl hbr
              go_wp2_with (first
                | (go_at_call 18; have K1x := K1.out; refine (within1_any z 7 _ K1x K2).mono ?_; rw [HZ.out]; rintro e u1 ⟨rfl, rfl⟩; clear K1 K1x)
                | (go_at_call 21; refine (rbyte_ok p b r _ RB.out).mono ?_; rintro e u2 ⟨rfl, hr, hc⟩; rw [DR.out] at hr; have R2 := hid hr; have X2 := hid (TT.out.rc.other hc NQP.out); have C2 := hid (TT.out.ch.far1 hc PP.out); clear hr hc)
                | (go_at_call 26; (refine (xbyte_ok q a0 n0 c0 P l0 b r _ X2.out q3 hk8 BR.out (Two.arg C2.out H0.out QQ.out)).mono ?_; rintro e u3 ⟨rfl, hr, hc⟩; have T3 := hid (Two.mk (R2.out.other X2.out hc PQ.out) hr hk8 (C2.out.far1 hc QQ.out)); clear hr hc))
                | (go_at_call 22; refine (end_any p _ _ u3 T3.out.rd).mono ?_; rintro e u4 ⟨rfl, rfl⟩)
                | (go_at_call 30; refine (xend_any q a0 n0 c0 (P + 1) (0) l0 _ T3.out.rc hnL.out).mono ?_; rintro e u5 ⟨rfl, hr, hc⟩; have T5 := hid (Two.mk (T3.out.rd.other T3.out.rc hc PQ.out) hr hk8 (T3.out.ch.far1 hc QQ.out)); clear hr hc))
              go_roundw
              case rel => exact ⟨i + 1, P + 1, 0, by omega, by go_num, T5.out⟩
              case measure => simp [intOf]; omega
          · rcases Nat.lt_or_ge (n0 - P) 1 with hsz | hsz
            · have BAD := hid (show (0 : Int) ≠ 0 ∨ (l0.drop P).length < 1 from .inr (by omega))
              have XBAD := hid (show (0 : Int) ≠ 0 ∨ n0 - P < 1 from .inr hsz)
              clear hdl
              go_wp2_with (first
                | (go_at_call 18; have K1x := K1.out; refine (within1_any z 7 _ K1x K2).mono ?_; rw [HZ.out]; rintro e u1 ⟨rfl, rfl⟩; clear K1 K1x)
                | (go_at_call 21; refine (rbyte_bad p _ _ _ TT.out.rd BAD.out).mono ?_; rintro e u2 ⟨rfl, hr, hc⟩; have R2 := hid hr; have X2 := hid (TT.out.rc.other hc NQP.out); have C2 := hid (TT.out.ch.far1 hc PP.out); clear hr hc)
                | (go_at_call 26; (refine (xbyte_bad q a0 n0 c0 P _ _ X2.out hPn q3 XBAD.out).mono ?_; rintro e u3 ⟨rfl, hr, hc⟩; have T3 := hid (Two.mk (R2.out.other X2.out hc PQ.out) hr hPn (C2.out.far1 hc QQ.out)); clear hr hc))
                | (go_at_call 22; refine (end_any p _ _ u3 T3.out.rd).mono ?_; rintro e u4 ⟨rfl, rfl⟩)
                | (go_at_call 30; refine (xend_any q a0 n0 c0 (P) (er 0 8) l0 _ T3.out.rc hnL.out).mono ?_; rintro e u5 ⟨rfl, hr, hc⟩; have T5 := hid (Two.mk (T3.out.rd.other T3.out.rc hc PQ.out) hr hPn (T3.out.ch.far1 hc QQ.out)); clear hr hc))
              go_roundw
              case rel => exact ⟨i + 1, P, er 0 8, by omega, by go_num, T5.out⟩
              case measure => simp [intOf]; omega
            · obtain ⟨b, r, hbr⟩ : ∃ b r, l0.drop P = b :: r := by
                cases h : l0.drop P with
                | nil => rw [h] at hdl; simp at hdl; omega
                | cons b r => exact ⟨b, r, rfl⟩
              have DR := hid (show r = l0.drop (P + 1) by rw [← List.drop_drop, hbr]; rfl)
              have BR := hid hbr
              have RB := hid (show Rd wr p (b :: r) 0 by rw [← hbr]; exact TT.out.rd)
              have hk8 : P + 1 ≤ n0 := by omega
              clear hdl hbr
              go_wp2_with (first
                | (go_at_call 18; have K1x := K1.out; refine (within1_any z 7 _ K1x K2).mono ?_; rw [HZ.out]; rintro e u1 ⟨rfl, rfl⟩; clear K1 K1x)
                | (go_at_call 21; refine (rbyte_ok p b r _ RB.out).mono ?_; rintro e u2 ⟨rfl, hr, hc⟩; rw [DR.out] at hr; have R2 := hid hr; have X2 := hid (TT.out.rc.other hc NQP.out); have C2 := hid (TT.out.ch.far1 hc PP.out); clear hr hc)
                | (go_at_call 26; (refine (xbyte_ok q a0 n0 c0 P l0 b r _ X2.out q3 hk8 BR.out (Two.arg C2.out H0.out QQ.out)).mono ?_; rintro e u3 ⟨rfl, hr, hc⟩; have T3 := hid (Two.mk (R2.out.other X2.out hc PQ.out) hr hk8 (C2.out.far1 hc QQ.out)); clear hr hc))
                | (go_at_call 22; refine (end_any p _ _ u3 T3.out.rd).mono ?_; rintro e u4 ⟨rfl, rfl⟩)
                | (go_at_call 30; refine (xend_any q a0 n0 c0 (P + 1) (0) l0 _ T3.out.rc hnL.out).mono ?_; rintro e u5 ⟨rfl, hr, hc⟩; have T5 := hid (Two.mk (T3.out.rd.other T3.out.rc hc PQ.out) hr hk8 (T3.out.ch.far1 hc QQ.out)); clear hr hc))
              go_roundw
              case rel => exact ⟨i + 1, P + 1, 0, by omega, by go_num, T5.out⟩
              case measure => simp [intOf]; omega
          · rcases Nat.lt_or_ge (n0 - P) 2 with hsz | hsz
            · have BAD := hid (show (0 : Int) ≠ 0 ∨ (l0.drop P).length < 2 from .inr (by omega))
              have XBAD := hid (show (0 : Int) ≠ 0 ∨ n0 - P < 2 from .inr hsz)
              clear hdl
              go_wp2_with (first
                | (go_at_call 18; have K1x := K1.out; refine (within1_any z 7 _ K1x K2).mono ?_; rw [HZ.out]; rintro e u1 ⟨rfl, rfl⟩; clear K1 K1x)
                | (go_at_call 23; refine (rtext_bad p _ _ _ TT.out.rd BAD.out).mono ?_; rintro e u2 ⟨rfl, hr, hc⟩; have R2 := hid hr; have X2 := hid (TT.out.rc.other hc NQP.out); have C2 := hid (TT.out.ch.far1 hc PP.out); clear hr hc)
                | (go_at_call 27; (refine (xtext_bad q a0 n0 c0 P _ _ X2.out hPn q3 XBAD.out).mono ?_; rintro e u3 ⟨rfl, hr, hc⟩; have T3 := hid (Two.mk (R2.out.other X2.out hc PQ.out) hr hPn (C2.out.far1 hc QQ.out)); clear hr hc))
                | (go_at_call 22; refine (end_any p _ _ u3 T3.out.rd).mono ?_; rintro e u4 ⟨rfl, rfl⟩)
                | (go_at_call 30; refine (xend_any q a0 n0 c0 (P) (er 0 8) l0 _ T3.out.rc hnL.out).mono ?_; rintro e u5 ⟨rfl, hr, hc⟩; have T5 := hid (Two.mk (T3.out.rd.other T3.out.rc hc PQ.out) hr hPn (T3.out.ch.far1 hc QQ.out)); clear hr hc))
              go_roundw
              case rel => exact ⟨i + 1, P, er 0 8, by omega, by go_num, T5.out⟩
              case measure => simp [intOf]; omega
            · obtain ⟨b0, b1, r, hbr⟩ : ∃ b0 b1 r, l0.drop P = b0 :: b1 :: r := by
                match h : l0.drop P with
                | [] => rw [h] at hdl; simp at hdl; omega
                | [_] => rw [h] at hdl; simp at hdl; omega
                | b0 :: b1 :: r => exact ⟨b0, b1, r, rfl⟩
              obtain ⟨T, hT⟩ : ∃ T, T = leNum ((l0.drop P).take 2) := ⟨_, rfl⟩
              have hT2 : T = b0.toNat + 256 * b1.toNat := by rw [hT]; exact le2 l0 P b0 b1 r hbr
              have HT := hid hT
              have HT2 := hid hT2
              have BR := hid hbr
              have L2 := hid (show 2 ≤ (l0.drop P).length by omega)
              have hk8 : P + 2 ≤ n0 := by omega
              have hd2 : ((l0.drop P).drop 2).length = n0 - (P + 2) := by rw [List.length_drop, hdl]; omega
              have DD := hid (show (l0.drop P).drop 2 = l0.drop (P + 2) by rw [List.drop_drop])
              clear hT hT2 hbr hdl
              rcases Nat.lt_or_ge (n0 - (P + 2)) T with ht | ht
              · have CUT := hid (show ((l0.drop P).drop 2).length < T by omega)
                have CUT2 := hid ht
                clear hd2
                go_wp2_with (first
                  | (go_at_call 18; have K1x := K1.out; refine (within1_any z 7 _ K1x K2).mono ?_; rw [HZ.out]; rintro e u1 ⟨rfl, rfl⟩; clear K1 K1x)
                  | (go_at_call 23; refine (rtext_cut p _ _ TT.out.rd T L2.out HT.out CUT.out).mono ?_; rintro e u2 ⟨rfl, hr, hc⟩; rw [DD.out] at hr; have R2 := hid hr; have X2 := hid (TT.out.rc.other hc NQP.out); have C2 := hid (TT.out.ch.far1 hc PP.out); clear hr hc)
                  | (go_at_call 27; (refine (xtext_cut q a0 n0 c0 P l0 b0 b1 r T _ X2.out q3 hnL.out hk8 BR.out HT2.out CUT2.out (Two.arg C2.out H0.out QQ.out)).mono ?_; rintro e u3 ⟨rfl, hr, hc⟩; have T3 := hid (Two.mk (R2.out.other X2.out hc PQ.out) hr hk8 (C2.out.far1 hc QQ.out)); clear hr hc))
                  | (go_at_call 22; refine (end_any p _ _ u3 T3.out.rd).mono ?_; rintro e u4 ⟨rfl, rfl⟩)
                  | (go_at_call 30; refine (xend_any q a0 n0 c0 (P + 2) (8) l0 _ T3.out.rc hnL.out).mono ?_; rintro e u5 ⟨rfl, hr, hc⟩; have T5 := hid (Two.mk (T3.out.rd.other T3.out.rc hc PQ.out) hr hk8 (T3.out.ch.far1 hc QQ.out)); clear hr hc))
                go_roundw
                case rel => exact ⟨i + 1, P + 2, 8, by omega, by go_num, T5.out⟩
                case measure => simp [intOf]; omega
              · have FIT := hid (show T ≤ ((l0.drop P).drop 2).length by omega)
                have hk9 : P + 2 + T ≤ n0 := by omega
                clear hd2
                go_wp2_with (first
                  | (go_at_call 18; have K1x := K1.out; refine (within1_any z 7 _ K1x K2).mono ?_; rw [HZ.out]; rintro e u1 ⟨rfl, rfl⟩; clear K1 K1x)
                  | (go_at_call 23; refine (rtext_ok p _ _ TT.out.rd T L2.out HT.out FIT.out).mono ?_; rw [DD.out]; rintro e u2 ⟨rfl, hr, hc⟩; rw [List.drop_drop] at hr; have R2 := hid hr; have X2 := hid (TT.out.rc.other hc NQP.out); have C2 := hid (TT.out.ch.far1 hc PP.out); clear hr hc)
                  | (go_at_call 27; (refine (xtext_ok q a0 n0 c0 P l0 b0 b1 r T _ X2.out q3 hnL.out hk8 BR.out HT2.out hk9 (Two.arg C2.out H0.out QQ.out)).mono ?_; rintro e u3 ⟨rfl, hr, hc⟩; have T3 := hid (Two.mk (R2.out.other X2.out hc PQ.out) hr hk9 (C2.out.far1 hc QQ.out)); clear hr hc))
                  | (go_at_call 22; refine (end_any p _ _ u3 T3.out.rd).mono ?_; rintro e u4 ⟨rfl, rfl⟩)
                  | (go_at_call 30; refine (xend_any q a0 n0 c0 (P + 2 + T) (0) l0 _ T3.out.rc hnL.out).mono ?_; rintro e u5 ⟨rfl, hr, hc⟩; have T5 := hid (Two.mk (T3.out.rd.other T3.out.rc hc PQ.out) hr hk9 (T3.out.ch.far1 hc QQ.out)); clear hr hc))
                go_roundw
                case rel => exact ⟨i + 1, P + 2 + T, 0, by omega, by go_num, T5.out⟩
                case measure => simp [intOf]; omega
          · rcases Nat.lt_or_ge (n0 - P) 2 with hsz | hsz
            · have BAD := hid (show (0 : Int) ≠ 0 ∨ (l0.drop P).length < 2 from .inr (by omega))
              have XBAD := hid (show (0 : Int) ≠ 0 ∨ n0 - P < 2 from .inr hsz)
              clear hdl
              go_wp2_with (first
                | (go_at_call 18; have K1x := K1.out; refine (within1_any z 7 _ K1x K2).mono ?_; rw [HZ.out]; rintro e u1 ⟨rfl, rfl⟩; clear K1 K1x)
                | (go_at_call 23; refine (rtext_bad p _ _ _ TT.out.rd BAD.out).mono ?_; rintro e u2 ⟨rfl, hr, hc⟩; have R2 := hid hr; have X2 := hid (TT.out.rc.other hc NQP.out); have C2 := hid (TT.out.ch.far1 hc PP.out); clear hr hc)
                | (go_at_call 27; (refine (xtext_bad q a0 n0 c0 P _ _ X2.out hPn q3 XBAD.out).mono ?_; rintro e u3 ⟨rfl, hr, hc⟩; have T3 := hid (Two.mk (R2.out.other X2.out hc PQ.out) hr hPn (C2.out.far1 hc QQ.out)); clear hr hc))
                | (go_at_call 22; refine (end_any p _ _ u3 T3.out.rd).mono ?_; rintro e u4 ⟨rfl, rfl⟩)
                | (go_at_call 30; refine (xend_any q a0 n0 c0 (P) (er 0 8) l0 _ T3.out.rc hnL.out).mono ?_; rintro e u5 ⟨rfl, hr, hc⟩; have T5 := hid (Two.mk (T3.out.rd.other T3.out.rc hc PQ.out) hr hPn (T3.out.ch.far1 hc QQ.out)); clear hr hc))
              go_roundw
              case rel => exact ⟨i + 1, P, er 0 8, by omega, by go_num, T5.out⟩
              case measure => simp [intOf]; omega
            · obtain ⟨b0, b1, r, hbr⟩ : ∃ b0 b1 r, l0.drop P = b0 :: b1 :: r := by
                match h : l0.drop P with
                | [] => rw [h] at hdl; simp at hdl; omega
                | [_] => rw [h] at hdl; simp at hdl; omega
                | b0 :: b1 :: r => exact ⟨b0, b1, r, rfl⟩
              obtain ⟨T, hT⟩ : ∃ T, T = leNum ((l0.drop P).take 2) := ⟨_, rfl⟩
              have hT2 : T = b0.toNat + 256 * b1.toNat := by rw [hT]; exact le2 l0 P b0 b1 r hbr
              have HT := hid hT
              have HT2 := hid hT2
              have BR := hid hbr
              have L2 := hid (show 2 ≤ (l0.drop P).length by omega)
              have hk8 : P + 2 ≤ n0 := by omega
              have hd2 : ((l0.drop P).drop 2).length = n0 - (P + 2) := by rw [List.length_drop, hdl]; omega
              have DD := hid (show (l0.drop P).drop 2 = l0.drop (P + 2) by rw [List.drop_drop])
              clear hT hT2 hbr hdl
              rcases Nat.lt_or_ge (n0 - (P + 2)) T with ht | ht
              · have CUT := hid (show ((l0.drop P).drop 2).length < T by omega)
                have CUT2 := hid ht
                clear hd2
                go_wp2_with (first
                  | (go_at_call 18; have K1x := K1.out; refine (within1_any z 7 _ K1x K2).mono ?_; rw [HZ.out]; rintro e u1 ⟨rfl, rfl⟩; clear K1 K1x)
                  | (go_at_call 23; refine (rtext_cut p _ _ TT.out.rd T L2.out HT.out CUT.out).mono ?_; rintro e u2 ⟨rfl, hr, hc⟩; rw [DD.out] at hr; have R2 := hid hr; have X2 := hid (TT.out.rc.other hc NQP.out); have C2 := hid (TT.out.ch.far1 hc PP.out); clear hr hc)
                  | (go_at_call 27; (refine (xtext_cut q a0 n0 c0 P l0 b0 b1 r T _ X2.out q3 hnL.out hk8 BR.out HT2.out CUT2.out (Two.arg C2.out H0.out QQ.out)).mono ?_; rintro e u3 ⟨rfl, hr, hc⟩; have T3 := hid (Two.mk (R2.out.other X2.out hc PQ.out) hr hk8 (C2.out.far1 hc QQ.out)); clear hr hc))
                  | (go_at_call 22; refine (end_any p _ _ u3 T3.out.rd).mono ?_; rintro e u4 ⟨rfl, rfl⟩)
                  | (go_at_call 30; refine (xend_any q a0 n0 c0 (P + 2) (8) l0 _ T3.out.rc hnL.out).mono ?_; rintro e u5 ⟨rfl, hr, hc⟩; have T5 := hid (Two.mk (T3.out.rd.other T3.out.rc hc PQ.out) hr hk8 (T3.out.ch.far1 hc QQ.out)); clear hr hc))
                go_roundw
                case rel => exact ⟨i + 1, P + 2, 8, by omega, by go_num, T5.out⟩
                case measure => simp [intOf]; omega
              · have FIT := hid (show T ≤ ((l0.drop P).drop 2).length by omega)
                have hk9 : P + 2 + T ≤ n0 := by omega
                clear hd2
                go_wp2_with (first
                  | (go_at_call 18; have K1x := K1.out; refine (within1_any z 7 _ K1x K2).mono ?_; rw [HZ.out]; rintro e u1 ⟨rfl, rfl⟩; clear K1 K1x)
                  | (go_at_call 23; refine (rtext_ok p _ _ TT.out.rd T L2.out HT.out FIT.out).mono ?_; rw [DD.out]; rintro e u2 ⟨rfl, hr, hc⟩; rw [List.drop_drop] at hr; have R2 := hid hr; have X2 := hid (TT.out.rc.other hc NQP.out); have C2 := hid (TT.out.ch.far1 hc PP.out); clear hr hc)
                  | (go_at_call 27; (refine (xtext_ok q a0 n0 c0 P l0 b0 b1 r T _ X2.out q3 hnL.out hk8 BR.out HT2.out hk9 (Two.arg C2.out H0.out QQ.out)).mono ?_; rintro e u3 ⟨rfl, hr, hc⟩; have T3 := hid (Two.mk (R2.out.other X2.out hc PQ.out) hr hk9 (C2.out.far1 hc QQ.out)); clear hr hc))
                  | (go_at_call 22; refine (end_any p _ _ u3 T3.out.rd).mono ?_; rintro e u4 ⟨rfl, rfl⟩)
                  | (go_at_call 30; refine (xend_any q a0 n0 c0 (P + 2 + T) (0) l0 _ T3.out.rc hnL.out).mono ?_; rintro e u5 ⟨rfl, hr, hc⟩; have T5 := hid (Two.mk (T3.out.rd.other T3.out.rc hc PQ.out) hr hk9 (T3.out.ch.far1 hc QQ.out)); clear hr hc))
                go_roundw
                case rel => exact ⟨i + 1, P + 2 + T, 0, by omega, by go_num, T5.out⟩
                case measure => simp [intOf]; omega
          · obtain ⟨v, hv⟩ : ∃ v : Int, v = (wrap64 (z.tdiv 7)) % 20 := ⟨_, rfl⟩
            have HV := hid hv
            have T20 := hid K20
            have T21 := hid K20
            clear hdl hv
            go_wp2_with (first
              | (go_at_call 18; have K1x := K1.out; refine (within1_any z 7 _ K1x K2).mono ?_; rw [HZ.out]; rintro e u1 ⟨rfl, rfl⟩; clear K1 K1x)
              | (go_at_call 18; have Kx := T20.out; refine (within1_any _ 20 _ Kx K2').mono ?_; rw [← HV.out]; rintro e u1 ⟨rfl, rfl⟩; clear T20 Kx)
              | (go_at_call 18; refine (within1_any _ 20 _ T21.out K2').mono ?_; rw [← HV.out]; rintro e u1 ⟨rfl, rfl⟩)
              | (go_at_call 28; refine (fail_any p _ 0 v _ TT.out.rd).mono ?_; rintro e u2 ⟨rfl, hr, hc⟩; have R2 := hid hr; have X2 := hid (TT.out.rc.other hc NQP.out); have C2 := hid (TT.out.ch.far1 hc PP.out); have hcell2 := (H1.out.below C2.out.below0).at_ CZ.out; clear hr hc)
              | (go_at_call 29; (refine (xfail_any q a0 n0 c0 P 0 v _ X2.out).mono ?_; rintro e u3 ⟨rfl, hr, hc⟩; have T3 := hid (Two.mk (R2.out.other X2.out hc PQ.out) hr hPn (C2.out.far1 hc QQ.out)); clear hr hc))
              | (go_at_call 22; refine (end_any p _ _ u3 T3.out.rd).mono ?_; rintro e u4 ⟨rfl, rfl⟩)
              | (go_at_call 30; refine (xend_any q a0 n0 c0 (P) (er 0 v) l0 _ T3.out.rc hnL.out).mono ?_; rintro e u5 ⟨rfl, hr, hc⟩; have T5 := hid (Two.mk (T3.out.rd.other T3.out.rc hc PQ.out) hr hPn (T3.out.ch.far1 hc QQ.out)); clear hr hc))
            go_roundw
            case rel => exact ⟨i + 1, P, er 0 v, by omega, by go_num, T5.out⟩
            case measure => simp [intOf]; omega
        · have HEN := hid he
          clear he
          rcases hk7 with rfl | rfl | rfl | rfl | rfl | rfl | rfl
          · have BAD := hid (show e ≠ 0 ∨ (l0.drop P).length < 8 from .inl HEN.out)
            have XBAD := hid (show e ≠ 0 ∨ n0 - P < 8 from .inl HEN.out)
            clear hdl
            go_wp2_with (first
              | (go_at_call 18; have K1x := K1.out; refine (within1_any z 7 _ K1x K2).mono ?_; rw [HZ.out]; rintro e u1 ⟨rfl, rfl⟩; clear K1 K1x)
              | (go_at_call 20; refine (rint_bad p _ _ _ TT.out.rd BAD.out).mono ?_; rintro e u2 ⟨rfl, hr, hc⟩; have R2 := hid hr; have X2 := hid (TT.out.rc.other hc NQP.out); have C2 := hid (TT.out.ch.far1 hc PP.out); clear hr hc)
              | (go_at_call 25; (refine (xint_bad q a0 n0 c0 P _ _ X2.out hPn q3 XBAD.out).mono ?_; rintro e u3 ⟨rfl, hr, hc⟩; have T3 := hid (Two.mk (R2.out.other X2.out hc PQ.out) hr hPn (C2.out.far1 hc QQ.out)); clear hr hc))
              | (go_at_call 22; refine (end_any p _ _ u3 T3.out.rd).mono ?_; rintro e u4 ⟨rfl, rfl⟩)
              | (go_at_call 30; refine (xend_any q a0 n0 c0 (P) (er e 8) l0 _ T3.out.rc hnL.out).mono ?_; rintro e u5 ⟨rfl, hr, hc⟩; have T5 := hid (Two.mk (T3.out.rd.other T3.out.rc hc PQ.out) hr hPn (T3.out.ch.far1 hc QQ.out)); clear hr hc))
            go_roundw
            case rel => exact ⟨i + 1, P, er e 8, by omega, by go_num, T5.out⟩
            case measure => simp [intOf]; omega
          · have BAD := hid (show e ≠ 0 ∨ (l0.drop P).length < 8 from .inl HEN.out)
            have XBAD := hid (show e ≠ 0 ∨ n0 - P < 8 from .inl HEN.out)
            clear hdl
            go_wp2_with (first
              | (go_at_call 18; have K1x := K1.out; refine (within1_any z 7 _ K1x K2).mono ?_; rw [HZ.out]; rintro e u1 ⟨rfl, rfl⟩; clear K1 K1x)
              | (go_at_call 20; refine (rint_bad p _ _ _ TT.out.rd BAD.out).mono ?_; rintro e u2 ⟨rfl, hr, hc⟩; have R2 := hid hr; have X2 := hid (TT.out.rc.other hc NQP.out); have C2 := hid (TT.out.ch.far1 hc PP.out); clear hr hc)
              | (go_at_call 25; (refine (xint_bad q a0 n0 c0 P _ _ X2.out hPn q3 XBAD.out).mono ?_; rintro e u3 ⟨rfl, hr, hc⟩; have T3 := hid (Two.mk (R2.out.other X2.out hc PQ.out) hr hPn (C2.out.far1 hc QQ.out)); clear hr hc))
              | (go_at_call 22; refine (end_any p _ _ u3 T3.out.rd).mono ?_; rintro e u4 ⟨rfl, rfl⟩)
              | (go_at_call 30; refine (xend_any q a0 n0 c0 (P) (er e 8) l0 _ T3.out.rc hnL.out).mono ?_; rintro e u5 ⟨rfl, hr, hc⟩; have T5 := hid (Two.mk (T3.out.rd.other T3.out.rc hc PQ.out) hr hPn (T3.out.ch.far1 hc QQ.out)); clear hr hc))
            go_roundw
            case rel => exact ⟨i + 1, P, er e 8, by omega, by go_num, T5.out⟩
            case measure => simp [intOf]; omega
          · have BAD := hid (show e ≠ 0 ∨ (l0.drop P).length < 1 from .inl HEN.out)
            have XBAD := hid (show e ≠ 0 ∨ n0 - P < 1 from .inl HEN.out)
            clear hdl
            go_wp2_with (first
              | (go_at_call 18; have K1x := K1.out; refine (within1_any z 7 _ K1x K2).mono ?_; rw [HZ.out]; rintro e u1 ⟨rfl, rfl⟩; clear K1 K1x)
              | (go_at_call 21; refine (rbyte_bad p _ _ _ TT.out.rd BAD.out).mono ?_; rintro e u2 ⟨rfl, hr, hc⟩; have R2 := hid hr; have X2 := hid (TT.out.rc.other hc NQP.out); have C2 := hid (TT.out.ch.far1 hc PP.out); clear hr hc)
              | (go_at_call 26; (refine (xbyte_bad q a0 n0 c0 P _ _ X2.out hPn q3 XBAD.out).mono ?_; rintro e u3 ⟨rfl, hr, hc⟩; have T3 := hid (Two.mk (R2.out.other X2.out hc PQ.out) hr hPn (C2.out.far1 hc QQ.out)); clear hr hc))
              | (go_at_call 22; refine (end_any p _ _ u3 T3.out.rd).mono ?_; rintro e u4 ⟨rfl, rfl⟩)
              | (go_at_call 30; refine (xend_any q a0 n0 c0 (P) (er e 8) l0 _ T3.out.rc hnL.out).mono ?_; rintro e u5 ⟨rfl, hr, hc⟩; have T5 := hid (Two.mk (T3.out.rd.other T3.out.rc hc PQ.out) hr hPn (T3.out.ch.far1 hc QQ.out)); clear hr hc))
            go_roundw
            case rel => exact ⟨i + 1, P, er e 8, by omega, by go_num, T5.out⟩
            case measure => simp [intOf]; omega
          · have BAD := hid (show e ≠ 0 ∨ (l0.drop P).length < 1 from .inl HEN.out)
            have XBAD := hid (show e ≠ 0 ∨ n0 - P < 1 from .inl HEN.out)
            clear hdl
            go_wp2_with (first
              | (go_at_call 18; have K1x := K1.out; refine (within1_any z 7 _ K1x K2).mono ?_; rw [HZ.out]; rintro e u1 ⟨rfl, rfl⟩; clear K1 K1x)
              | (go_at_call 21; refine (rbyte_bad p _ _ _ TT.out.rd BAD.out).mono ?_; rintro e u2 ⟨rfl, hr, hc⟩; have R2 := hid hr; have X2 := hid (TT.out.rc.other hc NQP.out); have C2 := hid (TT.out.ch.far1 hc PP.out); clear hr hc)
              | (go_at_call 26; (refine (xbyte_bad q a0 n0 c0 P _ _ X2.out hPn q3 XBAD.out).mono ?_; rintro e u3 ⟨rfl, hr, hc⟩; have T3 := hid (Two.mk (R2.out.other X2.out hc PQ.out) hr hPn (C2.out.far1 hc QQ.out)); clear hr hc))
              | (go_at_call 22; refine (end_any p _ _ u3 T3.out.rd).mono ?_; rintro e u4 ⟨rfl, rfl⟩)
              | (go_at_call 30; refine (xend_any q a0 n0 c0 (P) (er e 8) l0 _ T3.out.rc hnL.out).mono ?_; rintro e u5 ⟨rfl, hr, hc⟩; have T5 := hid (Two.mk (T3.out.rd.other T3.out.rc hc PQ.out) hr hPn (T3.out.ch.far1 hc QQ.out)); clear hr hc))
            go_roundw
            case rel => exact ⟨i + 1, P, er e 8, by omega, by go_num, T5.out⟩
            case measure => simp [intOf]; omega
          · have BAD := hid (show e ≠ 0 ∨ (l0.drop P).length < 2 from .inl HEN.out)
            have XBAD := hid (show e ≠ 0 ∨ n0 - P < 2 from .inl HEN.out)
            clear hdl
            go_wp2_with (first
              | (go_at_call 18; have K1x := K1.out; refine (within1_any z 7 _ K1x K2).mono ?_; rw [HZ.out]; rintro e u1 ⟨rfl, rfl⟩; clear K1 K1x)
              | (go_at_call 23; refine (rtext_bad p _ _ _ TT.out.rd BAD.out).mono ?_; rintro e u2 ⟨rfl, hr, hc⟩; have R2 := hid hr; have X2 := hid (TT.out.rc.other hc NQP.out); have C2 := hid (TT.out.ch.far1 hc PP.out); clear hr hc)
              | (go_at_call 27; (refine (xtext_bad q a0 n0 c0 P _ _ X2.out hPn q3 XBAD.out).mono ?_; rintro e u3 ⟨rfl, hr, hc⟩; have T3 := hid (Two.mk (R2.out.other X2.out hc PQ.out) hr hPn (C2.out.far1 hc QQ.out)); clear hr hc))
              | (go_at_call 22; refine (end_any p _ _ u3 T3.out.rd).mono ?_; rintro e u4 ⟨rfl, rfl⟩)
              | (go_at_call 30; refine (xend_any q a0 n0 c0 (P) (er e 8) l0 _ T3.out.rc hnL.out).mono ?_; rintro e u5 ⟨rfl, hr, hc⟩; have T5 := hid (Two.mk (T3.out.rd.other T3.out.rc hc PQ.out) hr hPn (T3.out.ch.far1 hc QQ.out)); clear hr hc))
            go_roundw
            case rel => exact ⟨i + 1, P, er e 8, by omega, by go_num, T5.out⟩
            case measure => simp [intOf]; omega
          · have BAD := hid (show e ≠ 0 ∨ (l0.drop P).length < 2 from .inl HEN.out)
            have XBAD := hid (show e ≠ 0 ∨ n0 - P < 2 from .inl HEN.out)
            clear hdl
            go_wp2_with (first
              | (go_at_call 18; have K1x := K1.out; refine (within1_any z 7 _ K1x K2).mono ?_; rw [HZ.out]; rintro e u1 ⟨rfl, rfl⟩; clear K1 K1x)
              | (go_at_call 23; refine (rtext_bad p _ _ _ TT.out.rd BAD.out).mono ?_; rintro e u2 ⟨rfl, hr, hc⟩; have R2 := hid hr; have X2 := hid (TT.out.rc.other hc NQP.out); have C2 := hid (TT.out.ch.far1 hc PP.out); clear hr hc)
              | (go_at_call 27; (refine (xtext_bad q a0 n0 c0 P _ _ X2.out hPn q3 XBAD.out).mono ?_; rintro e u3 ⟨rfl, hr, hc⟩; have T3 := hid (Two.mk (R2.out.other X2.out hc PQ.out) hr hPn (C2.out.far1 hc QQ.out)); clear hr hc))
              | (go_at_call 22; refine (end_any p _ _ u3 T3.out.rd).mono ?_; rintro e u4 ⟨rfl, rfl⟩)
              | (go_at_call 30; refine (xend_any q a0 n0 c0 (P) (er e 8) l0 _ T3.out.rc hnL.out).mono ?_; rintro e u5 ⟨rfl, hr, hc⟩; have T5 := hid (Two.mk (T3.out.rd.other T3.out.rc hc PQ.out) hr hPn (T3.out.ch.far1 hc QQ.out)); clear hr hc))
            go_roundw
            case rel => exact ⟨i + 1, P, er e 8, by omega, by go_num, T5.out⟩
            case measure => simp [intOf]; omega
          · obtain ⟨v, hv⟩ : ∃ v : Int, v = (wrap64 (z.tdiv 7)) % 20 := ⟨_, rfl⟩
            have HV := hid hv
            have T20 := hid K20
            have T21 := hid K20
            clear hdl hv
            go_wp2_with (first
              | (go_at_call 18; have K1x := K1.out; refine (within1_any z 7 _ K1x K2).mono ?_; rw [HZ.out]; rintro e u1 ⟨rfl, rfl⟩; clear K1 K1x)
              | (go_at_call 18; have Kx := T20.out; refine (within1_any _ 20 _ Kx K2').mono ?_; rw [← HV.out]; rintro e u1 ⟨rfl, rfl⟩; clear T20 Kx)
              | (go_at_call 18; refine (within1_any _ 20 _ T21.out K2').mono ?_; rw [← HV.out]; rintro e u1 ⟨rfl, rfl⟩)
              | (go_at_call 28; refine (fail_any p _ e v _ TT.out.rd).mono ?_; rintro e u2 ⟨rfl, hr, hc⟩; have R2 := hid hr; have X2 := hid (TT.out.rc.other hc NQP.out); have C2 := hid (TT.out.ch.far1 hc PP.out); have hcell2 := (H1.out.below C2.out.below0).at_ CZ.out; clear hr hc)
              | (go_at_call 29; (refine (xfail_any q a0 n0 c0 P e v _ X2.out).mono ?_; rintro e u3 ⟨rfl, hr, hc⟩; have T3 := hid (Two.mk (R2.out.other X2.out hc PQ.out) hr hPn (C2.out.far1 hc QQ.out)); clear hr hc))
              | (go_at_call 22; refine (end_any p _ _ u3 T3.out.rd).mono ?_; rintro e u4 ⟨rfl, rfl⟩)
              | (go_at_call 30; refine (xend_any q a0 n0 c0 (P) (er e v) l0 _ T3.out.rc hnL.out).mono ?_; rintro e u5 ⟨rfl, hr, hc⟩; have T5 := hid (Two.mk (T3.out.rd.other T3.out.rc hc PQ.out) hr hPn (T3.out.ch.far1 hc QQ.out)); clear hr hc))
            go_roundw
            case rel => exact ⟨i + 1, P, er e v, by omega, by go_num, T5.out⟩
            case measure => simp [intOf]; omega
      · rcases Nat.lt_or_ge i n1 with hx | hx
        · have hx2 : ¬ ((i : Int) < 30) := by omega
          have hx3 : (i : Int) < n1 := by omega
          go_wp2_with (first
            | (go_at_call 22; refine (end_any p _ _ wr TT.out.rd).mono ?_; rintro e u4 ⟨rfl, rfl⟩)
            | (go_at_call 30; refine (xend_any q a0 n0 c0 P e l0 _ TT.out.rc hnL.out).mono ?_; rintro e u5 ⟨rfl, hr, hc⟩; have C5 := hid (TT.out.ch.far1 hc QQ.out); clear hr hc))
          go_ret
          exact ⟨by simp, C5.out⟩
        · have hx2 : ¬ ((i : Int) < n1) := by omega
          go_wp2_with (first
            | (go_at_call 22; refine (end_any p _ _ wr TT.out.rd).mono ?_; rintro e u4 ⟨rfl, rfl⟩)
            | (go_at_call 30; refine (xend_any q a0 n0 c0 P e l0 _ TT.out.rc hnL.out).mono ?_; rintro e u5 ⟨rfl, hr, hc⟩; have C5 := hid (TT.out.ch.far1 hc QQ.out); clear hr hc))
          go_ret
          exact ⟨by simp, C5.out⟩
end Go.Proofs.Yteleabfbnlhkkaa

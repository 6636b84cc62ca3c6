/- The document's OpParse: walked. -/
import Derived.Test.YtpcgamgjgfdpaaaL8R
namespace Go.Proofs.Ytpcgamgjgfdpaaa
namespace Cd
open Go.RowKit Go.Cx
set_option linter.unusedVariables false
set_option linter.unusedSimpArgs false

theorem rebase {P : Program} {c : Code} {Q : Exit → Go.Act → World → Prop} {a : Go.Act} {w : World} {R : World → Prop} (h : R w) (k : ∀ w1, R w1 → c.wp P Q a w1) : c.wp P Q a w := k w h
theorem RX.lt {w : World} {q : Nat} {a : Option Addr} {n c : Nat} {L l : List UInt8} {e : Int} (h : RX w q a n c L l e) : q < w.heap.size := by obtain ⟨_, _, _, h⟩ := h; exact lt_of_block h
/-- The document's: where something was wrong no more is read; what is told is the same. -/
theorem fin_bad (chk : List O3 → Int) (r : List O3 × List UInt8 × Int) (h : r.2.2 ≠ 0) : fin chk r = ([], r.2.2) := by
  unfold fin
  rw [endOf_ne h, if_neg h]
set_option maxRecDepth 100000 in
set_option maxHeartbeats 4000000 in
theorem xparse_any (chk : List O3 → Int) (hchk : Chk 49 chk) (a : Option Addr) (n c : Nat) (B : List UInt8) (w : World) (h : Sl w 1 a n c (bv B)) (hn : n ≤ 1000000) :
    Calls Try.prog 20 #[.slice a n c] w (PPost w (parse chk B)) := by
  have H := hid h
  have HK := hid hchk
  have NL := hid (Sl_len h)
  clear h hchk
  obtain ⟨N, hN, hN2, hN3⟩ := rdB_num B
  have NN := hid hN
  clear hN
  obtain ⟨l1, e1, hb⟩ : ∃ l1 e1, (rdB B 0).2 = (l1, e1) := ⟨_, _, rfl⟩
  have HB := hid hb
  have H3 := hid (show 40 < N → e1 = 0 by intro h; have := hN3 h; rw [hb] at this; exact this)
  clear hb hN3
  by_cases h40 : 40 < N
  · have h40i : (40 : Int) < N := by omega
    have PR := hid (show parse chk B = ([], 4) by unfold parse; rw [if_pos (by rw [NN.out]; exact h40i)])
    have E4 := hid (show er e1 4 = 4 by rw [H3.out h40]; rfl)
    have n0 : (0 : Int) < N := by omega
    go_enter Try.func20, Try.ntmps20
    go_upto_region 6 with (first
      | (go_at_call 43; refine (xnew_any a n c _).mono ?_; rintro e w1 ⟨q, rfl, hr, hq, hc⟩; have R1 := hid (show RX w1 q a n c B B 0 from ⟨0, Nat.zero_le _, rfl, hr⟩); have C1 := hid hc; have QQ := hid hq; have SS := hid (fun (w' : World) (h' : Ch (fun k => k = q) w1 w') => H.out.below (hc.far1 h' hq).below0); clear hr hq hc)
      | (go_at_call 44; refine (xb_any q a n c B B 0 _ R1.out hn NL.out SS.out).mono ?_; rw [NN.out, HB.out]; rintro e w2 ⟨rfl, hr, hc⟩; have R2 := hid hr; have C2 := hid (C1.out.far1 hc QQ.out); clear hr hc)
      | (go_at_call 45; refine (xf_any q a n c B _ _ 4 _ R2.out).mono ?_; rw [E4.out]; rintro e w3 ⟨rfl, hr, hc⟩; have R3 := hid hr; have C3 := hid (C2.out.far1 hc QQ.out); have x3 := hr.err; clear hr hc))
    go_wp2
    go_loopg [6, 7] 0 (fun g vo vi wr => g = 0 ∧ vo = .slice none 0 0 ∧ vi = .int .i64 0 ∧ wr = w3)
    case atStart => exact ⟨rfl, rfl, rfl, rfl⟩
    case round =>
      obtain ⟨rfl, rfl, rfl, rfl⟩ := hrel
      go_wp2_with (go_at_call 48; refine (xe_any q a n c B _ 4 _ R3.out NL.out).mono ?_; rw [endOf_ne (by decide)]; rintro e w4 ⟨rfl, _, hc⟩; have C4 := hid (C3.out.far1 hc QQ.out); clear hc)
      go_ret2
      unfold PPost
      rw [PR.out]
      exact ⟨none, 0, rfl, Own.nil _ _ _ _, C4.out⟩
  · have h40i : ¬ (40 : Int) < N := by omega
    obtain ⟨R, hR⟩ : ∃ R, R = rdN N l1 e1 := ⟨_, rfl⟩
    have PR := hid (show parse chk B = fin chk R by unfold parse; rw [if_neg (by rw [NN.out]; exact h40i), NN.out, HB.out, hR]; rfl)
    have RR := hid hR
    clear hR
    go_enter Try.func20, Try.ntmps20
    go_upto_region 6 with (first
      | (go_at_call 43; refine (xnew_any a n c _).mono ?_; rintro e w1 ⟨q, rfl, hr, hq, hc⟩; have R1 := hid (show RX w1 q a n c B B 0 from ⟨0, Nat.zero_le _, rfl, hr⟩); have C1 := hid hc; have QQ := hid hq; have SS := hid (fun (w' : World) (h' : Ch (fun _ => False) w w') => H.out.below h'.below0); clear hr hq hc)
      | (go_at_call 44; refine (xb_any q a n c B B 0 _ R1.out hn NL.out (fun w' h' => SS.out w' (C1.out.far1 h' QQ.out))).mono ?_; rw [NN.out, HB.out]; rintro e w2 ⟨rfl, hr, hc⟩; have R2 := hid hr; have C2 := hid (C1.out.far1 hc QQ.out); have LT := hid hr.lt; clear hr hc))
    go_wp2
    go_loopg [6, 7] N (fun g vo vi wr => ∃ (i : Nat) (b : Option Addr) (cb : Nat) (o : List O3) (l : List UInt8) (e : Int), i + g = N ∧ vo = .slice b i cb ∧ vi = .int .i64 i ∧ o.length = i ∧ Hid (Own wr w.heap.size 34 3 b i cb (es o)) ∧ (∀ x, b = some x → q < x.block) ∧ Hid (RX wr q a n c B l e) ∧
      Hid (R = (o ++ (rdN g l e).1, (rdN g l e).2)) ∧ Hid (Ch (fun _ => False) w wr) ∧ Hid (q < wr.heap.size))
    case atStart => exact ⟨0, none, 0, [], l1, e1, by omega, rfl, rfl, rfl, hid (Own.nil _ _ _ _), (fun x hx => by cases hx), R2, hid (by rw [RR.out]; simp), C2, LT⟩
    case round =>
      obtain ⟨i, b, cb, o, l, e, hig, rfl, rfl, ho, O, hne, RD, RE, C, PL⟩ := hrel
      have NE := hid hne
      have HO := hid ho
      have xe := RD.out.err
      clear hne ho
      by_cases hlt : i < N
      · have hlti : (i : Int) < N := by omega
        by_cases he : e = 0
        · subst he
          obtain ⟨g, rfl⟩ : ∃ g, gk = g + 1 := ⟨gk - 1, by omega⟩
          have m1 : i + 1 ≤ maxLen := by unfold maxLen; omega
          have m2 : (i + 1) * 32 ≤ 140737488355328 := by omega
          obtain ⟨z, hz⟩ : ∃ z, z = rdC l 0 := ⟨_, rfl⟩
          have HZ := hid hz
          have RE2 := hid (show R = (o ++ [z.1] ++ (rdN g z.2.1 z.2.2).1, (rdN g z.2.1 z.2.2).2) by rw [RE.out, hz, List.append_assoc]; rfl)
          obtain ⟨zb, hzb⟩ : ∃ zb, zb = rdB l 0 := ⟨_, rfl⟩
          obtain ⟨zi, hzi⟩ : ∃ zi, zi = rdI zb.2.1 zb.2.2 := ⟨_, rfl⟩
          obtain ⟨zt, hzt⟩ : ∃ zt, zt = rdT zi.2.1 zi.2.2 := ⟨_, rfl⟩
          have HZB := hid hzb
          have HZI := hid hzi
          have HZT := hid hzt
          have ZZ := hid (show z = (⟨zb.1, zi.1, zt.1⟩, zt.2) by rw [hz, hzt, hzi, hzb]; rfl)
          clear hz hzb hzi hzt
          go_upto_region 10 with (go_at_call 44; refine (xb_any q a n c B l 0 wr RD.out hn NL.out (fun w' h' => SS.out w' (C.out.far1 h' QQ.out))).mono ?_; rw [← HZB.out]; rintro e5 w5 ⟨rfl, hr, hc⟩; have R5 := hid hr; have C5 := hid hc; have K5 := hid (C.out.far1 hc QQ.out); clear hr hc)
          obtain ⟨G, hG⟩ : ∃ G, G = w5.heap.size := ⟨_, rfl⟩
          have hGe : wr.heap.size ≤ G := by rw [hG]; exact C5.out.size
          have hGq : G ≠ q := by have := PL.out; omega
          have hqG : ¬ q = G := fun h => hGq h.symm
          refine rebase (R := fun W => W.heap[G]? = some (.cells #[.int .i64 zb.1, .int .i64 0, .string ⟨#[]⟩] 34 (0, 0)) ∧ RX W q a n c B zb.2.1 zb.2.2 ∧ Ch (fun k => k = q) wr W) ⟨by rw [hG]; exact alloc_blk_new _ rfl, R5.out.ch ((Ch.refl (fun _ => False) w5).alloc _) id, C5.out.alloc _⟩ ?_
          rintro W0 ⟨hb0, hr0, hc0⟩
          rw [← hG]
          have B0 := hid hb0
          have R0 := hid hr0
          have C0 := hid hc0
          clear hb0 hr0 hc0 hG R5 C5 K5
          go_upto_region 11 with (go_at_call 46; refine (xi_any q a n c B _ _ W0 R0.out hn NL.out (fun w' h' => SS.out w' (((C.out.trans C0.out (fun i hi h => by have := QQ.out; omega))).far1 h' QQ.out))).mono ?_; rw [← HZI.out]; rintro e6 w6 ⟨rfl, hr, hc⟩; have B6 := hid (hc.heap B0.out hGq); have x1 : w6.cell? ⟨G, 1, none⟩ = some (.int .i64 0) := cell_blk B6.out 1; have y1 := frozen_blk B6.out 1; have R6 := hid hr; have C6 := hid (C0.out.trans hc (fun _ _ h => h)); clear hr hc)
          refine rebase (R := fun W => W.heap[G]? = some (.cells #[.int .i64 zb.1, .int .i64 zi.1, .string ⟨#[]⟩] 34 (0, 0)) ∧ RX W q a n c B zi.2.1 zi.2.2 ∧ Ch (fun k => k = q) wr W) ⟨(set_blk B6.out 1 _).trans rfl, R6.out.ch (S := fun k => k = G) (Ch.refl _ _).set hqG, C6.out.set (.inr hGe)⟩ ?_
          rintro W1 ⟨hb0, hr0, hc0⟩
          clear x1 y1 R6 C6 B6 B0 R0 C0
          have B1 := hid hb0
          have R1' := hid hr0
          have C1' := hid hc0
          clear hb0 hr0 hc0
          go_upto_region 12 with (go_at_call 47; refine (xt_any q a n c B _ _ W1 R1'.out hn NL.out (fun w' h' => SS.out w' (((C.out.trans C1'.out (fun i hi h => by have := QQ.out; omega))).far1 h' QQ.out))).mono ?_; rw [← HZT.out]; rintro e6 w6 ⟨rfl, hr, hc⟩; have B6 := hid (hc.heap B1.out hGq); have x1 : w6.cell? ⟨G, 2, none⟩ = some (.string ⟨#[]⟩) := cell_blk B6.out 2; have y1 := frozen_blk B6.out 2; have R6 := hid hr; have C6 := hid (C1'.out.trans hc (fun _ _ h => h)); clear hr hc)
          refine rebase (R := fun W => W.heap[G]? = some (.cells #[.int .i64 zb.1, .int .i64 zi.1, .string (str zt.1)] 34 (0, 0)) ∧ RX W q a n c B zt.2.1 zt.2.2 ∧ Ch (fun k => k = q) wr W) ⟨(set_blk B6.out 2 _).trans rfl, R6.out.ch (S := fun k => k = G) (Ch.refl _ _).set hqG, C6.out.set (.inr hGe)⟩ ?_
          rintro W2 ⟨hb0, hr0, hc0⟩
          clear x1 y1 R6 C6 B6 B1 R1' C1'
          have x0 : W2.cell? ⟨G, 0, none⟩ = some (.int .i64 zb.1) := cell_blk hb0 0
          have x1 : W2.cell? ⟨G, 1, none⟩ = some (.int .i64 zi.1) := cell_blk hb0 1
          have x2 : W2.cell? ⟨G, 2, none⟩ = some (.string (str zt.1)) := cell_blk hb0 2
          have R2' := hid hr0
          have C2' := hid hc0
          clear hb0 hr0 hc0
          have OW := hid (O.out.ch C2'.out (fun x hx h => Nat.ne_of_gt (NE.out x hx) h))
          have CW := hid (C.out.trans C2'.out (fun i hi h => by have := QQ.out; omega))
          go_wp2_with (at_builtin; refine wpList_app rfl _ _ _ _ rfl w.heap.size 34 3 32 _ et_comp b i cb (es o) rfl (OW.out.f ((Ch.refl _ W2).alloc _)) _ 1 (e3 ⟨zb.1, zi.1, zt.1⟩) rfl (src3 W2 ⟨zb.1, zi.1, zt.1⟩) m1 m2 (by have := CW.out.size; simp; omega) ?_; intro a8 c8 w8 hO hS hC hN; have O8 := hid hO; have C8 := hid hC; have N8 := hid hN; clear hO hS hC hN)
          go_roundg g
          case measure => omega
          case rel =>
            have ez : z.1 = ⟨zb.1, zi.1, zt.1⟩ := by rw [ZZ.out]
            have ez2 : z.2 = zt.2 := by rw [ZZ.out]
            refine ⟨i + 1, a8, c8, o ++ [z.1], z.2.1, z.2.2, by omega, rfl, by go_num, by rw [List.length_append, HO.out]; rfl, ?_, ?_, ?_, RE2, ?_, ?_⟩
            · refine hid ?_
              rw [es_app, ez]
              have := O8.out
              simpa [es] using this
            · intro x hx
              rcases N8.out with ⟨e1, _⟩ | hn8
              · exact NE.out x (by rw [← e1]; exact hx)
              · have h1 := hn8 x hx
                have h2 := PL.out
                have h3 := C2'.out.size
                simp at h1
                omega
            · refine hid ?_
              rw [ez2]
              exact (R2'.out.ch ((Ch.refl (fun _ => False) W2).alloc _) id).ch C8.out (fun ⟨x, hx, he⟩ => by have := NE.out x hx; omega)
            · exact hid (Ch.app_own (CW.out.alloc _) (OW.out.f ((Ch.refl _ W2).alloc _)) (Nat.le_refl _) C8.out)
            · refine hid ?_
              have h1 := C8.out.size
              have h2 := C2'.out.size
              have h3 := PL.out
              simp at h1
              omega
        · have PF := hid (show parse chk B = ([], e) by
            have h2 : R.2.2 = e := by rw [RE.out]; exact rdN_bad gk l e he
            rw [PR.out, fin_bad chk R (by rw [h2]; exact he), h2])
          have heb : (e == 0) = false := beq_eq_false_iff_ne.2 he
          have EE := hid (endOf_ne he l)
          clear he
          go_wp2_with (go_at_call 48; refine (xe_any q a n c B l e _ RD.out NL.out).mono ?_; rw [EE.out]; rintro e7 w7 ⟨rfl, _, hc⟩; have C7 := hid (C.out.far1 hc QQ.out); clear hc)
          go_ret2
          unfold PPost
          rw [PF.out]
          exact ⟨none, 0, rfl, Own.nil _ _ _ _, C7.out⟩
      · obtain rfl : i = N := by omega
        obtain rfl : gk = 0 := by omega
        have hlti : ¬ (i : Int) < i := by omega
        have RE2 := hid (show R = (o, l, e) by rw [RE.out]; simp [rdN])
        obtain ⟨E, hE⟩ : ∃ E, E = endOf l e := ⟨_, rfl⟩
        have HE := hid hE
        obtain ⟨K, hK⟩ : ∃ K, K = chk o := ⟨_, rfl⟩
        have HKK := hid hK
        have N3 : i ≤ 300 := by omega
        clear hE hK hlt
        by_cases he : E = 0
        · by_cases hk : K = 0
          · have PF := hid (show parse chk B = (o, 0) by rw [PR.out, RE2.out]; unfold fin; rw [if_pos (HE.out.symm.trans he), if_pos (HKK.out.symm.trans hk)])
            subst he
            subst hk
            go_wp2_with (first
              | (go_at_call 48; refine (xe_any q a n c B l e _ RD.out NL.out).mono ?_; rw [← HE.out]; rintro e7 w7 ⟨rfl, _, hc⟩; have CE := hid (C.out.far1 hc QQ.out); have OE := hid (O.out.ch hc (fun x hx h => Nat.ne_of_gt (NE.out x hx) h)); clear hc)
              | (go_at_call 49; refine (HK.out w7 b i cb o (OpsAt.own HO.out OE.out) OE.out.sl.2.1 N3).mono ?_; rw [← HKK.out]; rintro e8 w8 ⟨rfl, hc8⟩; have C8 := hid (CE.out.f hc8); have O9 := hid (OE.out.f hc8); have C9 := C8; clear hc8))
            go_ret2
            unfold PPost
            rw [PF.out]
            exact ⟨b, cb, by rw [show (o, (0 : Int)).1.length = i from HO.out]; rfl, by rw [show (o, (0 : Int)).1.length = i from HO.out]; exact O9.out, C9.out⟩
          · have PF := hid (show parse chk B = ([], K) by rw [PR.out, RE2.out]; unfold fin; rw [if_pos (HE.out.symm.trans he), if_neg (by show ¬ chk o = 0; rw [← HKK.out]; exact hk), ← HKK.out])
            have hkb : (K == 0) = false := beq_eq_false_iff_ne.2 hk
            subst he
            clear hk
            go_wp2_with (first
              | (go_at_call 48; refine (xe_any q a n c B l e _ RD.out NL.out).mono ?_; rw [← HE.out]; rintro e7 w7 ⟨rfl, _, hc⟩; have CE := hid (C.out.far1 hc QQ.out); have OE := hid (O.out.ch hc (fun x hx h => Nat.ne_of_gt (NE.out x hx) h)); clear hc)
              | (go_at_call 49; refine (HK.out w7 b i cb o (OpsAt.own HO.out OE.out) OE.out.sl.2.1 N3).mono ?_; rw [← HKK.out]; rintro e8 w8 ⟨rfl, hc8⟩; have C8 := hid (CE.out.f hc8); have O9 := hid (OE.out.f hc8); have C9 := C8; clear hc8))
            go_ret2
            unfold PPost
            rw [PF.out]
            exact ⟨none, 0, rfl, Own.nil _ _ _ _, C8.out⟩
        · have PF := hid (show parse chk B = ([], E) by rw [PR.out, RE2.out]; unfold fin; rw [if_neg (by show ¬ endOf l e = 0; rw [← HE.out]; exact he), ← HE.out])
          have heb : (E == 0) = false := beq_eq_false_iff_ne.2 he
          clear he
          go_wp2_with ((go_at_call 48; refine (xe_any q a n c B l e _ RD.out NL.out).mono ?_; rw [← HE.out]; rintro e7 w7 ⟨rfl, _, hc⟩; have CE := hid (C.out.far1 hc QQ.out); have OE := hid (O.out.ch hc (fun x hx h => Nat.ne_of_gt (NE.out x hx) h)); clear hc))
          go_ret2
          unfold PPost
          rw [PF.out]
          exact ⟨none, 0, rfl, Own.nil _ _ _ _, CE.out⟩
end Cd
end Go.Proofs.Ytpcgamgjgfdpaaa

/- comitiaref11's Open. -/
import Derived.Test.YtfhbbmaimaabnaaLogS
namespace Go.Proofs.Ytfhbbmaimaabnaa
open Go.RowKit Go.Cx Go.F64
set_option linter.unusedVariables false
set_option linter.unusedSimpArgs false

/-- More blocks that are to stay as they are: those made since. -/
theorem RefAt.widen {F : Nat → Prop} {w w' : World} {x : Nat} {d : Dk} (h : RefAt w F x d) (hc : Ch (fun _ => False) w w') : RefAt w' (fun k => F k ∨ (w.heap.size ≤ k ∧ k < w'.heap.size)) x d := by
  obtain ⟨a, c, h1, h2, hF, h3, h4, h5⟩ := h
  refine ⟨a, c, hc.heap h1 id, h2.ch hc (fun _ _ => id), fun b hb h => ?_, .inl h3, fun k hk => ?_, h5⟩
  · rcases h with h | h
    · exact hF b hb h
    · have := (h2.block b hb).2; omega
  · rcases hk with hk | hk
    · exact Nat.lt_of_lt_of_le (h4 k hk) hc.size
    · exact hk.2
theorem RefAt.mono {F G : Nat → Prop} {w : World} {x : Nat} {d : Dk} (h : RefAt w G x d) (hs : ∀ k, F k → G k) (hx : F x) : RefAt w F x d := by
  obtain ⟨a, c, h1, h2, hF, h3, h4, h5⟩ := h
  exact ⟨a, c, h1, h2, fun b hb h => hF b hb (hs _ h), hx, fun k hk => h4 k (hs k hk), h5⟩
theorem RefAt.fx {F : Nat → Prop} {w : World} {x : Nat} {d : Dk} (h : RefAt w F x d) : F x ∧ ∀ k, F k → k < w.heap.size := by
  obtain ⟨a, c, h1, h2, hF, h3, h4, h5⟩ := h
  exact ⟨h3, h4⟩
def ROpenPost (F : Nat → Prop) (x : Nat) (d : Dk) (w : World) (e : Ending) (w' : World) : Prop :=
  RefAt w' F x d.open.1 ∧ Ch (fun k => k = x ∨ ¬ F k) w w' ∧
  ((d.open.2 ≠ 0 ∧ e = .returned (.tuple #[.pointer none, .slice none 0 0, .int .i64 d.open.2])) ∨
   (d.open.2 = 0 ∧ ∃ lb a c, e = .returned (.tuple #[.pointer (some ⟨lb, 0, none⟩), .slice a (recs d.cont).1.length c, .int .i64 0]) ∧ LogRAt w' lb x (recs d.cont).1.length (recs d.cont).1.length ∧
      RowsOwn w.heap.size w' a (recs d.cont).1.length c (recs d.cont).1 ∧ w.heap.size ≤ lb))
theorem num8_take0 (B : List UInt8) : wrap64 (Cd.leNum ((((B.take 8).drop 0).take 8)) : Nat) = num8 B := by rw [List.drop_zero, List.take_take, Nat.min_self]; rfl
theorem bad_rec {B : List UInt8} {v : Int} {m : Nat} (hv : v = num8 B) (hm : B.length = m) (h8 : 8 ≤ m) (h : ¬ okRec B) : v < 0 ∨ 16384 < v ∨ (m : Int) - 8 < v := by
  unfold okRec at h
  rw [← hv, hm] at h
  omega
set_option maxRecDepth 100000 in
set_option maxHeartbeats 4000000 in
theorem ropen_any (F : Nat → Prop) (x : Nat) (d : Dk) (w : World) (h : RefAt w F x d) :
    Calls Try.prog 17 #[.pointer (some ⟨x, 0, none⟩)] w (ROpenPost F x d w) := by
  have HD := hid h
  have FX := hid h.fx
  have hl : d.cont.length ≤ 65536 := by have h2 := h.wf.h2; have h3 := h.wf.h3; omega
  clear h
  cases hd : d.dead with
  | true =>
    have ND := hid hd
    have HO := hid (show d.open = (d, 18) by unfold Dk.open; rw [if_pos hd])
    clear hd
    go_enter Try.func17, Try.ntmps17
    go_wp2_with (go_at_call 36; refine (rread_any F x d _ HD.out).mono ?_; rintro e w1 (⟨_, rfl, hc1⟩ | ⟨ht, _⟩); rotate_left; (exact absurd (ND.out.symm.trans ht) (by simp)); have C1 := hid hc1; clear hc1)
    go_ret3
    unfold ROpenPost
    rw [HO.out]
    exact ⟨HD.out.ch C1.out id (fun _ _ => id), C1.out.weaken (fun _ _ h => h.elim), .inl ⟨by simp, rfl⟩⟩
  | false =>
    have ND := hid hd
    obtain ⟨B, hB⟩ : ∃ B, B = d.cont := ⟨_, rfl⟩
    obtain ⟨R, hR⟩ : ∃ R, R = recs B := ⟨_, rfl⟩
    obtain ⟨r, hr⟩ : ∃ r, r = d.cut (R.2 : Nat) := ⟨_, rfl⟩
    have HO := hid (show d.open = r by unfold Dk.open; rw [if_neg (by rw [hd]; simp), hr, hR, hB])
    have HR := hid hR
    have HC := hid hr
    have HB := hid hB
    obtain ⟨n, hn⟩ : ∃ n, n = B.length := ⟨_, rfl⟩
    have HN := hid hn
    have hn5 : n ≤ 65536 := by rw [hn, hB]; exact hl
    have hm : R.1.length ≤ 1000000 := by have := recs_len B; rw [← hR] at this; omega
    clear hd hR hr hB hn hl
    have fin : ∀ w2 w3 : World, Ch (fun _ => False) w w2 → ∀ a c, RowsOwn w.heap.size w2 a R.1.length c R.1 → RefAt w3 (fun k => F k ∨ (w.heap.size ≤ k ∧ k < w2.heap.size)) x r.1 → Ch (fun k => k = x ∨ ¬ (F k ∨ (w.heap.size ≤ k ∧ k < w2.heap.size))) w2 w3 →
        (r.2 ≠ 0 → ROpenPost F x d w (.returned (.tuple #[.pointer none, .slice none 0 0, .int .i64 r.2])) w3) ∧
        (r.2 = 0 → ROpenPost F x d w (.returned (.tuple #[.pointer (some ⟨w3.heap.size, 0, none⟩), .slice a R.1.length c, .int .i64 0])) (w3.alloc (.cells #[.pointer (some ⟨x, 0, none⟩), .int .i64 (R.1.length : Nat), .int .i64 (R.1.length : Nat)] 53))) := by
      intro w2 w3 h2 a c ha h3 h4
      have fx := FX.out
      have hc : Ch (fun k => k = x ∨ ¬ F k) w w3 := (h2.weaken (fun _ _ h => h.elim)).trans h4 (fun i hi h => by
        rcases h with h | h
        · exact .inl h
        · exact .inr (fun hF => h (.inl hF)))
      have hR3 := h3.mono (F := F) (fun k hk => .inl hk) fx.1
      have hxw := fx.2 x fx.1
      unfold ROpenPost
      rw [HO.out, ← HB.out, ← HR.out]
      refine ⟨fun hn => ⟨hR3, hc, .inl ⟨hn, rfl⟩⟩, fun hz => ⟨hR3.ch ((Ch.refl (fun _ => False) w3).alloc _) id (fun _ _ => id), hc.alloc _, .inr ⟨hz, w3.heap.size, a, c, rfl, alloc_blk_new _ rfl, ?_, hc.size⟩⟩⟩
      refine RowsOwn.ch ?_ ((Ch.refl (fun _ => False) w3).alloc _) (fun _ _ => id)
      obtain ⟨vs, g1, g2, g3, g4⟩ := ha
      have keep : ∀ k, w.heap.size ≤ k → k < w2.heap.size → ¬ (k = x ∨ ¬ (F k ∨ (w.heap.size ≤ k ∧ k < w2.heap.size))) := fun k h1 h2 h => by
        rcases h with h | h
        · omega
        · exact h (.inr ⟨h1, h2⟩)
      refine ⟨vs, g1, g2.ch h4 (fun b hb => keep _ (g2.block b hb).1 (g2.block b hb).2), g3, fun i l hl => ?_⟩
      obtain ⟨a', c', e1, e2, e3⟩ := g4 i l hl
      exact ⟨a', c', e1, e2.ch h4 (fun b hb => keep _ (e3 b hb).1 (e3 b hb).2.1), fun b' hb' => ⟨(e3 b' hb').1, Nat.lt_of_lt_of_le (e3 b' hb').2.1 h4.size, (e3 b' hb').2.2⟩⟩
    have FI := hid fin
    clear fin
    go_enter Try.func17, Try.ntmps17
    go_wp2_with (go_at_call 36; refine (rread_any F x d _ HD.out).mono ?_; unfold ReadPost; rw [← HB.out, ← HN.out]; rintro e w1 (⟨ht, _⟩ | ⟨_, a1, c1, rfl, ho1, hc1⟩); (exact absurd (ND.out.symm.trans ht) (by simp)); have C1 := hid hc1; have O1 := hid ho1; clear hc1 ho1)
    go_loopw [7, 8, 9] (fun vl vp vn wr => ∃ (P : Nat) (ar : Option Addr) (m cr : Nat) (done : List (List UInt8)), vl = .slice ar m cr ∧ vp = .int .i64 P ∧ P ≤ n ∧ Hid (R = (done ++ (recs (B.drop P)).1, P + (recs (B.drop P)).2)) ∧ Hid (RowsOwn w1.heap.size wr ar m cr done) ∧ m * 8 ≤ P ∧ Hid (Ch (fun _ => False) w1 wr)) (fun _ vp _ _ => n - (intOf vp).toNat)
    case atStart => exact ⟨0, _, _, _, [], rfl, rfl, Nat.zero_le _, hid (by rw [HR.out]; simp), hid (RowsOwn.nil _ _), by omega, hid (Ch.refl _ _)⟩
    case round =>
      obtain ⟨P, ar, m, cr, done, rfl, rfl, hP, HRP, HRO, hm8, HC1⟩ := hrel
      have hLn : B.length = n := HN.out.symm
      have hnP : (B.drop P).length = n - P := by rw [List.length_drop, hLn]
      have hnc : n ≤ c1 := O1.out.sl.2.1
      have w1n : IntKind.i64.wrap ((n : Int) - P) = (n : Int) - P := by rw [IntKind.wrap_i64]; omega
      by_cases h8 : n - P < 8
      · have hno : ¬ okRec (B.drop P) := fun h => by have := h.1; rw [hnP] at this; omega
        have h8i : ¬ (8 : Int) ≤ (n : Int) - P := by omega
        have CW := hid (C1.out.f HC1.out)
        have AWp := HRO
        clear hLn
        have hr2 := HRP.out
        rw [recs_no hno, List.append_nil, Nat.add_zero] at hr2
        have q3 : m = done.length := (by obtain ⟨_, h, _⟩ := HRO.out; exact h)
        have q1 : done = R.1 := by rw [hr2]
        have q2 : P = R.2 := by rw [hr2]
        clear hr2 hno
        subst q3
        subst q1
        have AW := hid (show RowsOwn w.heap.size wr ar R.1.length cr R.1 from HRO.out.base C1.out.size)
        subst q2
        by_cases h0 : r.2 = 0
        · have H0 := hid h0
          go_wp2_with (first
                | (go_at_call 39; refine (rcut_any (fun k => F k ∨ (w.heap.size ≤ k ∧ k < wr.heap.size)) x d (R.2 : Nat) wr (HD.out.widen CW.out)).mono ?_; unfold RPost; rw [← HC.out, H0.out]; rintro e w5 ⟨rfl, hr5, hc5⟩; have E3 := hid ((FI.out wr w5 CW.out _ _ AW.out hr5 hc5).2 H0.out); clear hr5 hc5))
          go_ret3
          exact E3.out
        · have H0 := hid h0
          have hb : (r.2 == 0) = false := beq_eq_false_iff_ne.2 h0
          go_wp2_with (first
                | (go_at_call 39; refine (rcut_any (fun k => F k ∨ (w.heap.size ≤ k ∧ k < wr.heap.size)) x d (R.2 : Nat) wr (HD.out.widen CW.out)).mono ?_; unfold RPost; rw [← HC.out]; rintro e w5 ⟨rfl, hr5, hc5⟩; have E3 := hid ((FI.out wr w5 CW.out _ _ AW.out hr5 hc5).1 H0.out); clear hr5 hc5))
          go_ret3
          exact E3.out
      · obtain ⟨b, o, rfl⟩ := O1.out.sl.spot (by intro h; have := congrArg List.length h; rw [bv_length, hLn] at this; simp at this; omega)
        have hbk := (O1.out.block _ rfl).2
        have hsp := HC1.out.size
        have SR := hid (show Sl w1 1 (some ⟨b, o + P, none⟩) (n - P) (c1 - P) (bv (B.drop P)) by
          have := Cd.Sl_drop O1.out.sl P hP
          rw [Option.map_some, add_eq, ← bv_drop] at this
          exact this)
        have S8Q := hid (show ∀ w2, Ch (fun _ => False) wr w2 → ∀ q, wr.heap.size ≤ q → ∀ w', Ch (fun k => k = q) w2 w' → Sl w' 1 (some ⟨b, o + P, none⟩) 8 (c1 - P) (bv ((B.drop P).take 8)) from fun w2 hc2 q hq w' hc' =>
          ((((SR.out.front 8 (by omega) rfl).ch HC1.out (fun _ _ => id)).ch hc2 (fun _ _ => id)).ch hc' (fun b' hb' e => by cases hb'; have e' : b = q := e; have : b < w1.heap.size := hbk; omega)))
        have L8 : ((B.drop P).take 8).length = 8 := by rw [List.length_take, hnP]; omega
        have LL8 := hid L8
        have NT := hid (num8_take0 (B.drop P))
        have h8i : (8 : Int) ≤ (n : Int) - P := by omega
        have i1 : (0 : Int) ≤ P := by omega
        have i2 : (P : Int) ≤ P + 8 := by omega
        have i3 : (P : Int) + 8 ≤ c1 := by omega
        have i4 : ((P : Int) + 8).toNat = P + 8 := by omega
        have i5 : ¬ c1 = P := by omega
        have w3n : IntKind.i64.wrap ((n : Int) - P - 8) = (n : Int) - P - 8 := by rw [IntKind.wrap_i64]; omega
        clear L8 hbk hsp
        obtain ⟨v, hv⟩ : ∃ v, v = num8 (B.drop P) := ⟨_, rfl⟩
        rw [← hv] at NT
        by_cases hok : okRec (B.drop P)
        · obtain ⟨k, hk1, hk2, hk3, hk4⟩ := recs_step hok
          rw [hk1] at hv
          subst hv
          have HNX := hid (show R = (done ++ [((B.drop P).drop 8).take k] ++ (recs (B.drop (P + 8 + k))).1, P + 8 + k + (recs (B.drop (P + 8 + k))).2) by
            have h := HRP.out
            have e : (B.drop P).drop (8 + k) = B.drop (P + 8 + k) := by rw [List.drop_drop, Nat.add_assoc]
            rw [hk4, e] at h
            rw [h]
            refine Prod.ext ?_ ?_
            · simp
            · simp only; omega)
          rw [hnP] at hk2
          clear hk1 hk4 hok
          have k0 : ¬ ((k : Nat) : Int) < 0 := by omega
          have k1 : ¬ (16384 : Int) < (k : Nat) := by omega
          have k2 : ¬ (n : Int) - P - 8 < (k : Nat) := by omega
          have j1 : (0 : Int) ≤ (P : Int) + 8 := by omega
          have j2 : (P : Int) + 8 ≤ (P : Int) + 8 + (k : Nat) := by omega
          have j3 : (P : Int) + 8 + (k : Nat) ≤ c1 := by omega
          have j4 : ((P : Int) + 8 + (k : Nat)).toNat = P + 8 + k := by omega
          have hm1 : m + 1 ≤ maxLen := by unfold maxLen; omega
          have hm2 : (m + 1) * 24 ≤ 140737488355328 := by omega
          have hm3 : 0 + k ≤ maxLen := by unfold maxLen; omega
          have hm4 : (0 + k) * 1 ≤ 140737488355328 := by omega
          have lk : (((B.drop P).drop 8).take k).length = k := by rw [List.length_take, List.length_drop, hnP]; omega
          have LK := hid lk
          clear lk hnP hLn
          by_cases hc8 : c1 = P + 8
          · obtain rfl : k = 0 := by omega
            subst hc8
            rw [show P + 8 - P = 8 from by omega] at S8Q
            have SK := hid (fun w' : World => (show Sl w' 1 (some ⟨b, o, none⟩) 0 0 (bv (((B.drop P).drop 8).take 0)) from ⟨by simp [bv], Nat.le_refl _, by unfold maxLen; omega, fun _ => rfl, fun _ _ j u hu => by simp [bv] at hu⟩))
            go_wp2_with (first
                | (go_at_call 37; refine (Cd.xnew_any (some ⟨b, o + P, none⟩) 8 8 _).mono ?_; rintro e w2 ⟨q, rfl, hq, hqs, hc⟩; have Q2 := hid hq; have QS := hid hqs; have C2 := hid hc; clear hq hqs hc)
                | (go_at_call 38; refine (Cd.xint_ok q (some ⟨b, o + P, none⟩) 8 8 0 ((B.drop P).take 8) w2 Q2.out (by omega) LL8.out.symm (by omega) (S8Q.out _ C2.out _ QS.out)).mono ?_; rw [NT.out]; rintro e w3 ⟨rfl, _, hc⟩; have C3 := hid (C2.out.far1 hc QS.out); have CW := hid ((C1.out.f HC1.out).f C3.out); have AW1 := hid (HRO.out.ch C3.out (fun _ _ => id)); have AW := hid (AW1.out.base C1.out.size); clear hc)
                | (at_builtin; have tk := CW; refine wpList_app rfl _ _ _ _ rfl w3.heap.size 5 1 1 _ et_u8 _ 0 _ [] rfl (M0 w3) _ 0 _ rfl ((SK.out _).src Try.underlying22 (bv_one _)) hm3 hm4 (by simp) ?_; intro a6 c6 w6 hO hS hC hN; rw [List.nil_append, Nat.zero_add] at hO; have O6 := hid hO; have C6 := hid hC.app_new; clear hO hS hC hN tk)
                | (at_builtin; obtain ⟨vs, hvs⟩ := AW1.out; have hv2 := hvs.2.1; refine wpList_app rfl _ _ _ _ rfl w1.heap.size 22 1 24 _ et_sl ar m cr vs rfl (hv2.ch (C6.out.alloc _) (fun _ _ => id)) _ 1 [.slice a6 0 c6] rfl ((Sl.lit w6 #[.slice a6 0 c6] 22 (by simp [maxLen])).src Try.underlying25 (by intro u hu; cases hu with | head => rfl | tail _ h => cases h)) hm1 hm2 (by have := (HC1.out.f C3.out).size; have := C6.out.size; simp; omega) ?_; intro a7 c7 w7 hO hS hC hN; have RW := hid (RowsV.put hvs (HC1.out.f C3.out).size O6.out C6.out hO hC hN); have CN := hid (((HC1.out.f C3.out).f C6.out).alloc (.cells #[.slice a6 0 c6] 22)); have C7 := hid (CN.out.trans hC (fun i hi ⟨b', hb', he⟩ => by have := (hv2.block b' hb').1; have := C1.out.size; omega)); clear hO hS hC hN hvs hv2))
            go_roundw
            case rel => exact ⟨P + 8, a7, m + 1, c7, _, rfl, by go_num, by omega, HNX, RW, by omega, C7⟩
            case measure => simp [intOf]; omega
          · have SK := hid (show Sl w1 1 (some ⟨b, o + (P + 8), none⟩) k (c1 - (P + 8)) (bv (((B.drop P).drop 8).take k)) by
              have h1 := Cd.Sl_drop O1.out.sl (P + 8) (by omega)
              rw [Option.map_some, add_eq, ← bv_drop, ← List.drop_drop] at h1
              exact h1.front k (by omega) rfl)
            go_wp2_with (first
                | (go_at_call 37; refine (Cd.xnew_any (some ⟨b, o + P, none⟩) 8 (c1 - P) _).mono ?_; rintro e w2 ⟨q, rfl, hq, hqs, hc⟩; have Q2 := hid hq; have QS := hid hqs; have C2 := hid hc; clear hq hqs hc)
                | (go_at_call 38; refine (Cd.xint_ok q (some ⟨b, o + P, none⟩) 8 (c1 - P) 0 ((B.drop P).take 8) w2 Q2.out (by omega) LL8.out.symm (by omega) (S8Q.out _ C2.out _ QS.out)).mono ?_; rw [NT.out]; rintro e w3 ⟨rfl, _, hc⟩; have C3 := hid (C2.out.far1 hc QS.out); have CW := hid ((C1.out.f HC1.out).f C3.out); have AW1 := hid (HRO.out.ch C3.out (fun _ _ => id)); have AW := hid (AW1.out.base C1.out.size); clear hc)
                | (at_builtin; have tk := CW; refine wpList_app rfl _ _ _ _ rfl w3.heap.size 5 1 1 _ et_u8 _ 0 _ [] rfl (M0 w3) _ k _ rfl ((SK.out.ch (((HC1.out.f C3.out)).alloc (.cells #[] 5)) (fun _ _ => id)).src Try.underlying22 (bv_one _)) hm3 hm4 (by simp) ?_; intro a6 c6 w6 hO hS hC hN; rw [List.nil_append, Nat.zero_add] at hO; have O6 := hid hO; have C6 := hid hC.app_new; clear hO hS hC hN tk)
                | (at_builtin; obtain ⟨vs, hvs⟩ := AW1.out; have hv2 := hvs.2.1; refine wpList_app rfl _ _ _ _ rfl w1.heap.size 22 1 24 _ et_sl ar m cr vs rfl (hv2.ch (C6.out.alloc _) (fun _ _ => id)) _ 1 [.slice a6 k c6] rfl ((Sl.lit w6 #[.slice a6 k c6] 22 (by simp [maxLen])).src Try.underlying25 (by intro u hu; cases hu with | head => rfl | tail _ h => cases h)) hm1 hm2 (by have := (HC1.out.f C3.out).size; have := C6.out.size; simp; omega) ?_; intro a7 c7 w7 hO hS hC hN; have RW := hid (RowsV.put hvs (HC1.out.f C3.out).size O6.out C6.out hO hC hN); have CN := hid (((HC1.out.f C3.out).f C6.out).alloc (.cells #[.slice a6 k c6] 22)); have C7 := hid (CN.out.trans hC (fun i hi ⟨b', hb', he⟩ => by have := (hv2.block b' hb').1; have := C1.out.size; omega)); clear hO hS hC hN hvs hv2))
            go_roundw
            case rel => exact ⟨P + 8 + k, a7, m + 1, c7, _, rfl, by go_num, by omega, HNX, RW, by omega, C7⟩
            case measure => simp [intOf]; omega
        · have hno := hok
          have hbad0 := bad_rec hv hnP (by omega) hok
          clear hok hv hLn hnP
          have hbad : v < 0 ∨ 16384 < v ∨ (n : Int) - P - 8 < v := by omega
          have hb4 : (decide (v < 0) || decide (16384 < v) || decide ((n : Int) - P - 8 < v)) = true := by simp; omega
          rcases (show v < 0 ∨ (¬ v < 0 ∧ 16384 < v) ∨ (¬ v < 0 ∧ ¬ 16384 < v ∧ (n : Int) - P - 8 < v) by omega) with g1 | ⟨g1, g2⟩ | ⟨g1, g2, g3⟩
          all_goals (
            have hr2 := HRP.out
            rw [recs_no hno, List.append_nil, Nat.add_zero] at hr2
            have q3 : m = done.length := (by obtain ⟨_, h, _⟩ := HRO.out; exact h)
            have q1 : done = R.1 := by rw [hr2]
            have q2 : P = R.2 := by rw [hr2]
            clear hr2 hno
            subst q3
            subst q1
            subst q2
            by_cases h0 : r.2 = 0
            · have H0 := hid h0
              go_wp2_with (first
                    | (go_at_call 37; refine (Cd.xnew_any (some ⟨b, o + R.2, none⟩) 8 (c1 - R.2) _).mono ?_; rintro e w2 ⟨q, rfl, hq, hqs, hc⟩; have Q2 := hid hq; have QS := hid hqs; have C2 := hid hc; clear hq hqs hc)
                    | (go_at_call 38; refine (Cd.xint_ok q (some ⟨b, o + R.2, none⟩) 8 (c1 - R.2) 0 ((B.drop R.2).take 8) w2 Q2.out (by omega) LL8.out.symm (by omega) (S8Q.out _ C2.out _ QS.out)).mono ?_; rw [NT.out]; rintro e w3 ⟨rfl, _, hc⟩; have C3 := hid (C2.out.far1 hc QS.out); have CW := hid ((C1.out.f HC1.out).f C3.out); have AW1 := hid (HRO.out.ch C3.out (fun _ _ => id)); have AW := hid (AW1.out.base C1.out.size); clear hc)
                    | (go_at_call 39; refine (rcut_any (fun k => F k ∨ (w.heap.size ≤ k ∧ k < w3.heap.size)) x d (R.2 : Nat) w3 (HD.out.widen CW.out)).mono ?_; unfold RPost; rw [← HC.out, H0.out]; rintro e w5 ⟨rfl, hr5, hc5⟩; have E3 := hid ((FI.out w3 w5 CW.out _ _ AW.out hr5 hc5).2 H0.out); clear hr5 hc5))
              go_ret3
              exact E3.out
            · have H0 := hid h0
              have hb : (r.2 == 0) = false := beq_eq_false_iff_ne.2 h0
              go_wp2_with (first
                    | (go_at_call 37; refine (Cd.xnew_any (some ⟨b, o + R.2, none⟩) 8 (c1 - R.2) _).mono ?_; rintro e w2 ⟨q, rfl, hq, hqs, hc⟩; have Q2 := hid hq; have QS := hid hqs; have C2 := hid hc; clear hq hqs hc)
                    | (go_at_call 38; refine (Cd.xint_ok q (some ⟨b, o + R.2, none⟩) 8 (c1 - R.2) 0 ((B.drop R.2).take 8) w2 Q2.out (by omega) LL8.out.symm (by omega) (S8Q.out _ C2.out _ QS.out)).mono ?_; rw [NT.out]; rintro e w3 ⟨rfl, _, hc⟩; have C3 := hid (C2.out.far1 hc QS.out); have CW := hid ((C1.out.f HC1.out).f C3.out); have AW1 := hid (HRO.out.ch C3.out (fun _ _ => id)); have AW := hid (AW1.out.base C1.out.size); clear hc)
                    | (go_at_call 39; refine (rcut_any (fun k => F k ∨ (w.heap.size ≤ k ∧ k < w3.heap.size)) x d (R.2 : Nat) w3 (HD.out.widen CW.out)).mono ?_; unfold RPost; rw [← HC.out]; rintro e w5 ⟨rfl, hr5, hc5⟩; have E3 := hid ((FI.out w3 w5 CW.out _ _ AW.out hr5 hc5).1 H0.out); clear hr5 hc5))
              go_ret3
              exact E3.out)
end Go.Proofs.Ytfhbbmaimaabnaa

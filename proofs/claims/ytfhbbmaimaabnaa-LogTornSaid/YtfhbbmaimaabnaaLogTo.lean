/- The statement LogTorn: its walk. -/
import Derived.Test.YtfhbbmaimaabnaaLogP
namespace Go.Proofs.Ytfhbbmaimaabnaa
open Go.RowKit Go.Cx Go.F64
set_option linter.unusedVariables false
set_option linter.unusedSimpArgs false

/-- An operation whose guard says yes: as if it had none. -/
theorem wpList_free {P : Program} {ops : Array Oper} {Q : Exit → Act → World → Prop} {a : Act} {w : World} {rest : List Oper} {o : Oper} (hw : Region.wanted o (yielded ops a.tmps) = true) (h : wpList P ops Q ({ o with guard := none } :: rest) a w) : wpList P ops Q (o :: rest) a w := by
  rw [wpList, if_pos hw]
  rw [wpList, if_pos (show Region.wanted { o with guard := none } (yielded ops a.tmps) = true from rfl)] at h
  exact h
theorem DV.crash (sz s : Nat) (B : List UInt8) (x : Int) : (DV sz B s).crash x = DV sz (B.take (s + (x % ((B.length - s + 1 : Nat) : Int)).toNat)) (s + (x % ((B.length - s + 1 : Nat) : Int)).toNat) := rfl
/-- A crash that leaves a part of one record behind the others. -/
theorem torn_crash (sz : Nat) (A : List (List UInt8)) (r : List UInt8) (k : Nat) (hr : r.length ≤ 16384) (hk : k < 8 + r.length) : ∃ s T, (DV sz (encL (A ++ [r])) (encL A).length).crash (k : Int) = DV sz (encL A ++ T) s ∧ ¬ okRec T := by
  have e1 : (encL (A ++ [r])).length - (encL A).length + 1 = 8 + r.length + 1 := by rw [encL_append, encL_one, List.length_append, rec1_length]; omega
  have e2 : ((k : Int) % (((encL (A ++ [r])).length - (encL A).length + 1 : Nat) : Int)).toNat = k := by
    rw [e1, Int.emod_eq_of_lt (by omega) (by omega)]; rfl
  refine ⟨(encL A).length + k, (rec1 r).take k, ?_, torn r k hr hk⟩
  rw [DV.crash, e2, encL_append, encL_one, List.take_append, List.take_of_length_le (by omega)]
  congr 2
  congr 1
  omega
/-- Rows of which some came in, and one more stands behind. -/
theorem rows_more {w w' : World} {base : Nat} {a : Option Addr} {n c : Nat} {ll : List (List UInt8)} {vs : List Value} {a3 : Option Addr} {c3 : Nat} {l : List UInt8} (hl : ll.length = n) (hv : ∀ (i : Nat) (l : List UInt8), ll[i]? = some l → ∃ a' c', vs[i]? = some (Value.slice a' l.length c') ∧ Sl w 1 a' l.length c' (bv l)) (hvl : vs.length = n)
    (hc : Ch (fun _ => False) w w') {n3 : Nat} (hm : l.length = n3) (h3 : Sl w 1 a3 n3 c3 (bv l)) (ho : Own w' base 22 1 a (n + 1) c (vs ++ [.slice a3 n3 c3])) : RowsAt w' a (n + 1) c (ll ++ [l]) := by
  subst hm
  refine ⟨by rw [List.length_append, hl]; rfl, _, ho.sl, fun i l' hi => ?_⟩
  rcases Nat.lt_or_ge i n with h | h
  · rw [List.getElem?_append_left (by omega)] at hi
    obtain ⟨a', c', e1, e2⟩ := hv i l' hi
    exact ⟨a', c', by rw [List.getElem?_append_left (by omega)]; exact e1, e2.ch hc (fun _ _ => id)⟩
  · obtain rfl : i = n := by
      have := (List.getElem?_eq_some_iff.1 hi).1
      simp at this; omega
    rw [List.getElem?_append_right (by omega), hl, Nat.sub_self] at hi
    simp at hi
    subst hi
    exact ⟨a3, c3, by rw [List.getElem?_append_right (by omega), hvl, Nat.sub_self]; rfl, h3.ch hc (fun _ _ => id)⟩
theorem rows_open {w : World} {a : Option Addr} {n c : Nat} {ll : List (List UInt8)} (h : RowsAt w a n c ll) : ∃ vs : List Value, Sl w 1 a n c vs ∧ (∀ u ∈ vs, u.oneCell' = true) ∧ vs.length = n ∧ ∀ (i : Nat) (l : List UInt8), ll[i]? = some l → ∃ a' c', vs[i]? = some (Value.slice a' l.length c') ∧ Sl w 1 a' l.length c' (bv l) := by
  obtain ⟨h1, vs, h2, h3⟩ := h
  have hvl : vs.length = n := by have := h2.1; omega
  refine ⟨vs, h2, fun u hu => ?_, hvl, h3⟩
  obtain ⟨i, hi⟩ := List.mem_iff_getElem?.1 hu
  have hin : i < ll.length := by have := (List.getElem?_eq_some_iff.1 hi).1; omega
  obtain ⟨a', c', e, _⟩ := h3 i ll[i] (List.getElem?_eq_getElem hin)
  rw [hi] at e
  cases e
  rfl
set_option maxRecDepth 100000 in
set_option maxHeartbeats 8000000 in
theorem LogTorn_walk (w : World) (a0 : Option Addr) (n0 c0 : Nat) (l0 : List (List UInt8)) (h0 : RowsAt w a0 n0 c0 l0) (a1 : Option Addr) (n1 c1 : Nat) (l1 : List UInt8) (h1 : Sl w 1 a1 n1 c1 (bv l1)) (x2 : Int) (h2 : I64 x2) (a3 : Option Addr) (n3 c3 : Nat) (l3 : List UInt8) (h3 : Sl w 1 a3 n3 c3 (bv l3)) :
    Calls Try.prog 8 #[.slice a0 n0 c0, .slice a1 n1 c1, .int .i64 x2, .slice a3 n3 c3] w fun e w' => e = .returned (.bool true) ∧ Below w.heap.size w w' := by
  refine Calls.mono (R := True_ w) ?_ (fun e w' h => ⟨h.1, h.2.below0⟩)
  have hl1 : l1.length = n1 := by have := h1.1; rw [bv_length] at this; omega
  have hl3 : l3.length = n3 := by have := h3.1; rw [bv_length] at this; omega
  have hnc : n0 ≤ c0 ∧ c0 ≤ 9223372036854775807 := by obtain ⟨_, vs, h, _⟩ := h0; have := h.2.1; have := h.2.2.1; unfold maxLen at this; omega
  have L0 := hid h0.1
  have L1 := hid hl1
  have L3 := hid hl3
  have H0 := hid h0
  have H1 := hid h1
  have H3 := hid h3
  obtain ⟨hnc, hcm⟩ := hnc
  have hA0 : a0 = none → n0 = 0 ∧ c0 = 0 := fun e => by subst e; obtain ⟨_, vs, h, _⟩ := h0; have := h.none_zero; exact ⟨this.1, this.2.1⟩
  have HA0 := hid hA0
  clear h0 h1 h2 h3 hl1 hl3 hA0
  by_cases hb1 : 100 < n1
  · have hb1i : (100 : Int) < n1 := by omega
    go_enter Try.func8, Try.ntmps8
    go_wp2_with (go_at_call 10; refine (known11_any _).mono ?_; rintro e w1 ⟨rfl, hc1⟩; have C1 := hid hc1; clear hc1)
    go_ret
    exact ⟨rfl, C1.out⟩
  by_cases hb3 : 100 < n3
  · have hb1i : ¬ (100 : Int) < n1 := by omega
    have hb3i : (100 : Int) < n3 := by omega
    go_enter Try.func8, Try.ntmps8
    go_wp2_with (go_at_call 10; refine (known11_any _).mono ?_; rintro e w1 ⟨rfl, hc1⟩; have C1 := hid hc1; clear hc1)
    go_ret
    exact ⟨rfl, C1.out⟩
  have hb1i : ¬ (100 : Int) < n1 := by omega
  have hb3i : ¬ (100 : Int) < n3 := by omega
  go_enter Try.func8, Try.ntmps8
  go_upto_region 8 with (first
    | (go_at_call 10; refine (known11_any _).mono ?_; rintro e w1 ⟨rfl, hc1⟩; have C1 := hid hc1; clear hc1)
    | (go_at_call 12; refine (new_any 6000 _).mono ?_; rintro e w2 ⟨p, q, rfl, hd2, hp, hq, hc2⟩; have D2 := hid hd2; have C2 := hid hc2; clear hd2 hc2)
    | (go_at_call 16; refine (lv_first w w1 w2 p q 6000 (by omega) D2.out C1.out hp hq C2.out).mono ?_; rintro e w3 ⟨la, a4, c4, rfl, hv⟩; have V := hid hv; clear hv))
  clear C1 C2 D2 hp hq
  go_wp2
  go_loopg [13, 14] 8 (fun g vn vi wr => ∃ i s, i + g = 8 ∧ i ≤ n0 ∧ vn = .int .i64 i ∧ vi = .int .i64 i ∧ Hid (∀ j l, j < i → l0[j]? = some l → l.length ≤ 60) ∧ Hid (LV w wr p q la 6000 (l0.take i) s 0))
  case atStart => exact ⟨0, 0, rfl, by omega, rfl, rfl, hid (fun j l h => absurd h (Nat.not_lt_zero _)), V⟩
  case round =>
    clear V
    obtain ⟨i, s, hik, hin, rfl, rfl, HA, V⟩ := hrel
    have fin : Hid ((∀ r ∈ l0.take i, r.length ≤ 16384) ∧ (l0.take i).length = i) := hid ⟨fun r hr => Nat.le_trans (take_all HA.out r hr) (by omega), by rw [List.length_take, L0.out]; omega⟩
    have i0 : (0 : Int) ≤ i := by omega
    by_cases hlt : i < n0 ∧ i < 8
    · obtain ⟨hlt, h20⟩ := hlt
      obtain ⟨l, hl⟩ : ∃ l, l0[i]? = some l := ⟨_, List.getElem?_eq_getElem (by rw [L0.out]; exact hlt)⟩
      have R0 := H0.out.below V.out.ch.below0
      obtain ⟨b0, o0, rfl⟩ := R0.spot (by omega)
      obtain ⟨a', c', e0, s0⟩ := R0.at_ hl
      have S0 := hid s0
      have HL := hid hl
      have hlti : (i : Int) < n0 := by omega
      have h20i : (i : Int) < 8 := by omega
      clear hl R0 s0
      by_cases hb : 60 < l.length
      · have hbi : (60 : Int) < l.length := by omega
        go_wp2
        go_ret
        exact ⟨rfl, V.out.ch⟩
      · have hbi : ¬ (60 : Int) < l.length := by omega
        have hA' := hid (show ∀ j l, j < i + 1 → l0[j]? = some l → l.length ≤ 60 by
          intro j l' hj hl'
          rcases Nat.lt_or_ge j i with h | h
          · exact HA.out j l' h hl'
          · obtain rfl : j = i := by omega
            rw [HL.out] at hl'; cases hl'; omega)
        have hf : (encL (l0.take i)).length + (8 + l.length) ≤ 6000 := by
          have h1 := encL_len (l0.take i) 60 (take_all HA.out)
          rw [fin.out.2] at h1
          omega
        have hl6 : l.length ≤ 16384 := by omega
        have hN : (l0.take i).length ≤ 1000000 := by rw [fin.out.2]; omega
        have TS := hid (take_snoc HL.out)
        go_wp2_with (go_at_call 20; refine (lv_append w _ p q la 6000 _ _ (l0.take i) a' l.length c' l V.out S0.out hl6 hf hN).mono ?_; rw [← TS.out]; rintro e w4 ⟨rfl, hv4⟩; have V4 := hid hv4; clear hv4)
        go_roundg (7 - i)
        case measure => omega
        case rel => exact ⟨i + 1, _, by omega, by omega, by go_num, by go_num, hA', V4⟩
    · have HEL := hid (show (encL (l0.take i)).length ≤ 544 by
        have h1 := encL_len (l0.take i) 60 (take_all HA.out)
        rw [fin.out.2] at h1
        omega)
      have t0 := Int.emod_nonneg x2 (by omega : (n1 : Int) + 8 ≠ 0)
      have t1 := Int.emod_lt_of_pos x2 (by omega : 0 < (n1 : Int) + 8)
      obtain ⟨k, hk⟩ : ∃ k : Nat, (k : Int) = x2 % ((n1 : Int) + 8) := ⟨(x2 % ((n1 : Int) + 8)).toNat, by omega⟩
      obtain ⟨s5, T, ecr, hT⟩ := torn_crash 6000 (l0.take i) l1 k (by rw [L1.out]; omega) (by rw [L1.out]; omega)
      have HK := hid hk
      have ECR := hid ecr
      have HT := hid hT
      have hf1 : (encL (l0.take i)).length + (8 + l1.length) ≤ 6000 := by rw [L1.out]; have := HEL.out; omega
      have hf3 : (encL (l0.take i)).length + (8 + l3.length) ≤ 6000 := by rw [L3.out]; have := HEL.out; omega
      have hN : (l0.take i).length ≤ 1000000 := by rw [fin.out.2]; omega
      have HF1 := hid hf1
      have HF3 := hid hf3
      have HN := hid hN
      have h1s : l1.length ≤ 16384 := by rw [L1.out]; omega
      have h3s : l3.length ≤ 16384 := by rw [L3.out]; omega
      have H1S := hid h1s
      have H3S := hid h3s
      have H16 := hid (show (∀ r ∈ l0.take i ++ [l3], r.length ≤ 16384) ∧ (l0.take i ++ [l3]).length = i + 1 from ⟨fun r hr => by
        rcases List.mem_append.1 hr with h | h
        · exact fin.out.1 r h
        · simp only [List.mem_singleton] at h; rw [h]; exact h3s, by rw [List.length_append, fin.out.2]; rfl⟩)
      have kci : (i : Int) ≤ c0 := by omega
      have m1 : 0 + i ≤ maxLen := by unfold maxLen; omega
      have m2 : (0 + i) * 24 ≤ 140737488355328 := by omega
      have m3 : i + 1 ≤ maxLen := by unfold maxLen; omega
      have m4 : (i + 1) * 24 ≤ 140737488355328 := by omega
      obtain ⟨vs, hvs1, hvs2, hvs3, hvs4⟩ := rows_open (RowsAt_front H0.out i hin)
      have VS1 := hid hvs1
      have VS2 := hid hvs2
      have VS3 := hid hvs3
      have VS4 := hid hvs4
      clear t0 t1 hk ecr hT hf1 hf3 hN h1s h3s hvs1 hvs2 hvs3 hvs4
      have tk : True := trivial
      by_cases hlt2 : i < n0
      · have h20i : ¬ (i : Int) < 8 := by omega
        have hlti : (i : Int) < n0 := by omega
        obtain ⟨b0, o0, rfl⟩ := H0.out.spot (by omega)
        clear hlt
        go_wp2_with (first
          | (go_at_call 23; refine (lv_sync w _ p q la 6000 s 0 (l0.take i) V.out).mono ?_; rw [fin.out.2]; rintro e w4 ⟨rfl, hv4⟩; have V4 := hid hv4; clear hv4)
          | (go_at_call 20; have tk0 := V4; clear tk; refine (lv_append w _ p q la 6000 _ _ (l0.take i) a1 n1 c1 l1 V4.out (H1.out.below V4.out.ch.below0) H1S.out HF1.out HN.out).mono ?_; rintro e w5 ⟨rfl, hv5⟩; have V5 := hid hv5; clear hv5)
          | (go_at_call 11; refine (within11_any x2 ((n1 : Int) + 8) _ (by omega) (by omega)).mono ?_; rintro e w6 ⟨rfl, rfl⟩; rw [← HK.out])
          | (go_at_call 25; refine (crash_any p q _ k _ V5.out.1).mono ?_; rintro e w6 ⟨rfl, hd6, hc6⟩; rw [ECR.out] at hd6; have D6 := hid hd6; have C6 := hid (V5.out.ch.far2 hc6 V5.out.2.2.2.2.1 V5.out.2.2.2.2.2.1); clear hd6 hc6)
          | (go_at_call 16; refine (lv_open0 w _ p q 6000 s5 i (l0.take i) T D6.out HT.out fin.out.1 fin.out.2 C6.out V5.out.2.2.2.2.1 V5.out.2.2.2.2.2.1).mono ?_; rintro e w7 ⟨la7, a7, c7, rfl, hv7, hr7, _⟩; have V7 := hid hv7; have R7 := hid hr7; clear hv7 hr7 D6)
          | (go_at_call 18; refine (rows_any a7 i c7 (l0.take i) _ c0 _ R7.out (RowsAt_front (H0.out.below V7.out.ch.below0) i hin)).mono ?_; rintro e w8 ⟨rfl, hc8⟩; have V8 := hid (V7.out.f hc8); clear hc8 R7)
          | (go_at_call 20; refine (lv_append w _ p q la7 6000 _ _ (l0.take i) a3 n3 c3 l3 V8.out (H3.out.below V8.out.ch.below0) H3S.out HF3.out HN.out).mono ?_; rintro e w9 ⟨rfl, hv9⟩; have V9 := hid hv9; clear hv9)
          | (go_at_call 16; refine (lv_open w _ p q la7 6000 _ _ (i + 1) _ V9.out H16.out.1 H16.out.2).mono ?_; rintro e w10 ⟨la10, a10, c10, rfl, hv10, hr10, _⟩; have V10 := hid hv10; have R10 := hid hr10; have tk := V10; clear hv10 hr10)
          | (at_builtin; have tk2 := tk; refine wpList_free rfl ?_; refine wpList_app rfl _ _ _ _ rfl w10.heap.size 22 1 24 _ et_sl _ 0 _ [] rfl (World.ownsRow_made w10 #[] 0 (Nat.le_refl _) (Nat.zero_le _) rfl) _ i vs rfl ((VS1.out.below (V10.out.ch.alloc _).below0).src Try.underlying25 VS2.out) m1 m2 (by simp) ?_; intro a11 c11 w11 hO hS hC hN; rw [List.nil_append, Nat.zero_add] at hO; have O11 := hid hO; have C11 := hid hC.app_new; clear hO hS hC hN tk tk2)
          | (at_builtin; refine wpList_free rfl ?_; refine wpList_app rfl _ _ _ _ rfl w10.heap.size 22 1 24 _ et_sl _ i _ vs rfl (O11.out.f ((Ch.refl _ w11).alloc _)) _ 1 [.slice a3 n3 c3] rfl ((Sl.lit w11 #[.slice a3 n3 c3] 22 (by simp [maxLen])).src Try.underlying25 (fun u hu => by simp at hu; subst hu; rfl)) m3 m4 (by have := C11.out.size; simp; omega) ?_; intro a12 c12 w12 hO hS hC hN; have O12 := hid hO; have C12 := hid (Ch.app_own (C11.out.alloc _) (O11.out.f ((Ch.refl _ w11).alloc _)) (Nat.le_refl _) hC); clear hO hS hC hN)
          | (go_at_call 18; refine (rows_any a10 (i + 1) c10 _ a12 c12 _ (R10.out.below C12.out.below0) (rows_more fin.out.2 VS4.out VS3.out (V10.out.f C12.out).ch L3.out H3.out O12.out)).mono ?_; rintro e w13 ⟨rfl, hc13⟩; have V13 := hid ((V10.out.f C12.out).f hc13); clear hc13))
        go_ret
        exact ⟨by simp, V13.out.ch⟩
      · have hlti : ¬ (i : Int) < n0 := by omega
        clear hlt
        cases a0 with
        | none =>
          obtain ⟨rfl, rfl⟩ := HA0.out rfl
          obtain rfl : i = 0 := by omega
          go_wp2_with (first
            | (go_at_call 23; refine (lv_sync w _ p q la 6000 s 0 (l0.take 0) V.out).mono ?_; rw [fin.out.2]; rintro e w4 ⟨rfl, hv4⟩; have V4 := hid hv4; clear hv4)
            | (go_at_call 20; have tk0 := V4; clear tk; refine (lv_append w _ p q la 6000 _ _ (l0.take 0) a1 n1 c1 l1 V4.out (H1.out.below V4.out.ch.below0) H1S.out HF1.out HN.out).mono ?_; rintro e w5 ⟨rfl, hv5⟩; have V5 := hid hv5; clear hv5)
            | (go_at_call 11; refine (within11_any x2 ((n1 : Int) + 8) _ (by omega) (by omega)).mono ?_; rintro e w6 ⟨rfl, rfl⟩; rw [← HK.out])
            | (go_at_call 25; refine (crash_any p q _ k _ V5.out.1).mono ?_; rintro e w6 ⟨rfl, hd6, hc6⟩; rw [ECR.out] at hd6; have D6 := hid hd6; have C6 := hid (V5.out.ch.far2 hc6 V5.out.2.2.2.2.1 V5.out.2.2.2.2.2.1); clear hd6 hc6)
            | (go_at_call 16; refine (lv_open0 w _ p q 6000 s5 0 (l0.take 0) T D6.out HT.out fin.out.1 fin.out.2 C6.out V5.out.2.2.2.2.1 V5.out.2.2.2.2.2.1).mono ?_; rintro e w7 ⟨la7, a7, c7, rfl, hv7, hr7, _⟩; have V7 := hid hv7; have R7 := hid hr7; clear hv7 hr7 D6)
            | (go_at_call 18; refine (rows_any a7 0 c7 (l0.take 0) _ 0 _ R7.out (RowsAt_front (H0.out.below V7.out.ch.below0) 0 hin)).mono ?_; rintro e w8 ⟨rfl, hc8⟩; have V8 := hid (V7.out.f hc8); clear hc8 R7)
            | (go_at_call 20; refine (lv_append w _ p q la7 6000 _ _ (l0.take 0) a3 n3 c3 l3 V8.out (H3.out.below V8.out.ch.below0) H3S.out HF3.out HN.out).mono ?_; rintro e w9 ⟨rfl, hv9⟩; have V9 := hid hv9; clear hv9)
            | (go_at_call 16; refine (lv_open w _ p q la7 6000 _ _ (0 + 1) _ V9.out H16.out.1 H16.out.2).mono ?_; rintro e w10 ⟨la10, a10, c10, rfl, hv10, hr10, _⟩; have V10 := hid hv10; have R10 := hid hr10; have tk := V10; clear hv10 hr10)
            | (at_builtin; have tk2 := tk; refine wpList_free rfl ?_; refine wpList_app rfl _ _ _ _ rfl w10.heap.size 22 1 24 _ et_sl _ 0 _ [] rfl (World.ownsRow_made w10 #[] 0 (Nat.le_refl _) (Nat.zero_le _) rfl) _ 0 vs rfl ((VS1.out.below (V10.out.ch.alloc _).below0).src Try.underlying25 VS2.out) m1 m2 (by simp) ?_; intro a11 c11 w11 hO hS hC hN; rw [List.nil_append, Nat.zero_add] at hO; have O11 := hid hO; have C11 := hid hC.app_new; clear hO hS hC hN tk tk2)
            | (at_builtin; refine wpList_free rfl ?_; refine wpList_app rfl _ _ _ _ rfl w10.heap.size 22 1 24 _ et_sl _ 0 _ vs rfl (O11.out.f ((Ch.refl _ w11).alloc _)) _ 1 [.slice a3 n3 c3] rfl ((Sl.lit w11 #[.slice a3 n3 c3] 22 (by simp [maxLen])).src Try.underlying25 (fun u hu => by simp at hu; subst hu; rfl)) m3 m4 (by have := C11.out.size; simp; omega) ?_; intro a12 c12 w12 hO hS hC hN; have O12 := hid hO; have C12 := hid (Ch.app_own (C11.out.alloc _) (O11.out.f ((Ch.refl _ w11).alloc _)) (Nat.le_refl _) hC); clear hO hS hC hN)
            | (go_at_call 18; refine (rows_any a10 (0 + 1) c10 _ a12 c12 _ (R10.out.below C12.out.below0) (rows_more fin.out.2 VS4.out VS3.out (V10.out.f C12.out).ch L3.out H3.out O12.out)).mono ?_; rintro e w13 ⟨rfl, hc13⟩; have V13 := hid ((V10.out.f C12.out).f hc13); clear hc13))
          go_ret
          exact ⟨by simp, V13.out.ch⟩
        | some b =>
          go_wp2_with (first
            | (go_at_call 23; refine (lv_sync w _ p q la 6000 s 0 (l0.take i) V.out).mono ?_; rw [fin.out.2]; rintro e w4 ⟨rfl, hv4⟩; have V4 := hid hv4; clear hv4)
            | (go_at_call 20; have tk0 := V4; clear tk; refine (lv_append w _ p q la 6000 _ _ (l0.take i) a1 n1 c1 l1 V4.out (H1.out.below V4.out.ch.below0) H1S.out HF1.out HN.out).mono ?_; rintro e w5 ⟨rfl, hv5⟩; have V5 := hid hv5; clear hv5)
            | (go_at_call 11; refine (within11_any x2 ((n1 : Int) + 8) _ (by omega) (by omega)).mono ?_; rintro e w6 ⟨rfl, rfl⟩; rw [← HK.out])
            | (go_at_call 25; refine (crash_any p q _ k _ V5.out.1).mono ?_; rintro e w6 ⟨rfl, hd6, hc6⟩; rw [ECR.out] at hd6; have D6 := hid hd6; have C6 := hid (V5.out.ch.far2 hc6 V5.out.2.2.2.2.1 V5.out.2.2.2.2.2.1); clear hd6 hc6)
            | (go_at_call 16; refine (lv_open0 w _ p q 6000 s5 i (l0.take i) T D6.out HT.out fin.out.1 fin.out.2 C6.out V5.out.2.2.2.2.1 V5.out.2.2.2.2.2.1).mono ?_; rintro e w7 ⟨la7, a7, c7, rfl, hv7, hr7, _⟩; have V7 := hid hv7; have R7 := hid hr7; clear hv7 hr7 D6)
            | (go_at_call 18; refine (rows_any a7 i c7 (l0.take i) _ c0 _ R7.out (RowsAt_front (H0.out.below V7.out.ch.below0) i hin)).mono ?_; rintro e w8 ⟨rfl, hc8⟩; have V8 := hid (V7.out.f hc8); clear hc8 R7)
            | (go_at_call 20; refine (lv_append w _ p q la7 6000 _ _ (l0.take i) a3 n3 c3 l3 V8.out (H3.out.below V8.out.ch.below0) H3S.out HF3.out HN.out).mono ?_; rintro e w9 ⟨rfl, hv9⟩; have V9 := hid hv9; clear hv9)
            | (go_at_call 16; refine (lv_open w _ p q la7 6000 _ _ (i + 1) _ V9.out H16.out.1 H16.out.2).mono ?_; rintro e w10 ⟨la10, a10, c10, rfl, hv10, hr10, _⟩; have V10 := hid hv10; have R10 := hid hr10; have tk := V10; clear hv10 hr10)
            | (at_builtin; have tk2 := tk; refine wpList_free rfl ?_; refine wpList_app rfl _ _ _ _ rfl w10.heap.size 22 1 24 _ et_sl _ 0 _ [] rfl (World.ownsRow_made w10 #[] 0 (Nat.le_refl _) (Nat.zero_le _) rfl) _ i vs rfl ((VS1.out.below (V10.out.ch.alloc _).below0).src Try.underlying25 VS2.out) m1 m2 (by simp) ?_; intro a11 c11 w11 hO hS hC hN; rw [List.nil_append, Nat.zero_add] at hO; have O11 := hid hO; have C11 := hid hC.app_new; clear hO hS hC hN tk tk2)
            | (at_builtin; refine wpList_free rfl ?_; refine wpList_app rfl _ _ _ _ rfl w10.heap.size 22 1 24 _ et_sl _ i _ vs rfl (O11.out.f ((Ch.refl _ w11).alloc _)) _ 1 [.slice a3 n3 c3] rfl ((Sl.lit w11 #[.slice a3 n3 c3] 22 (by simp [maxLen])).src Try.underlying25 (fun u hu => by simp at hu; subst hu; rfl)) m3 m4 (by have := C11.out.size; simp; omega) ?_; intro a12 c12 w12 hO hS hC hN; have O12 := hid hO; have C12 := hid (Ch.app_own (C11.out.alloc _) (O11.out.f ((Ch.refl _ w11).alloc _)) (Nat.le_refl _) hC); clear hO hS hC hN)
            | (go_at_call 18; refine (rows_any a10 (i + 1) c10 _ a12 c12 _ (R10.out.below C12.out.below0) (rows_more fin.out.2 VS4.out VS3.out (V10.out.f C12.out).ch L3.out H3.out O12.out)).mono ?_; rintro e w13 ⟨rfl, hc13⟩; have V13 := hid ((V10.out.f C12.out).f hc13); clear hc13))
          go_ret
          exact ⟨by simp, V13.out.ch⟩
end Go.Proofs.Ytfhbbmaimaabnaa

/- The statement LogCrashes: its walk. -/
import Derived.Test.YtfhbbmaimaabnaaLogP
namespace Go.Proofs.Ytfhbbmaimaabnaa
open Go.RowKit Go.Cx Go.F64
set_option linter.unusedVariables false
set_option linter.unusedSimpArgs false

theorem DV.crash (sz s : Nat) (B : List UInt8) (x : Int) : (DV sz B s).crash x = DV sz (B.take (s + (x % ((B.length - s + 1 : Nat) : Int)).toNat)) (s + (x % ((B.length - s + 1 : Nat) : Int)).toNat) := rfl
theorem crash_rows (L : List (List UInt8)) (S i : Nat) (m : Nat) (hi : i ≤ L.length) (hS : S ≤ i) (hA : ∀ r ∈ L.take i, r.length ≤ 16384) (hm : (encL (L.take S)).length ≤ m) :
    ∃ k T, (encL (L.take i)).take m = encL (L.take k) ++ T ∧ ¬ okRec T ∧ k ≤ i ∧ S ≤ k := by
  obtain ⟨k, T, e, ht, hk, hj⟩ := enc_take (L.take i) hA m
  rw [List.length_take] at hk hj
  have hk' : k ≤ i := by omega
  refine ⟨k, T, ?_, ht, hk', ?_⟩
  · rw [e, List.take_take, Nat.min_eq_left hk']
  · refine hj S (by omega) ?_
    rw [List.take_take, Nat.min_eq_left hS]
    exact hm
set_option maxRecDepth 100000 in
set_option maxHeartbeats 8000000 in
theorem LogCrashes_walk (w : World) (a0 : Option Addr) (n0 c0 : Nat) (l0 : List (List UInt8)) (h0 : RowsAt w a0 n0 c0 l0) (a1 : Option Addr) (n1 c1 : Nat) (l1 : List Bool) (h1 : Sl w 1 a1 n1 c1 (bbv l1)) (x2 : Int) (h2 : I64 x2) :
    Calls Try.prog 7 #[.slice a0 n0 c0, .slice a1 n1 c1, .int .i64 x2] w fun e w' => e = .returned (.bool true) ∧ Below w.heap.size w w' := by
  refine Calls.mono (R := True_ w) ?_ (fun e w' h => ⟨h.1, h.2.below0⟩)
  have hl1 : l1.length = n1 := by have := h1.1; rw [bbv_length] at this; omega
  have hnc : n0 ≤ c0 ∧ c0 ≤ 9223372036854775807 := by obtain ⟨_, vs, h, _⟩ := h0; have := h.2.1; have := h.2.2.1; unfold maxLen at this; omega
  have L1 := hid hl1
  have L0 := hid h0.1
  have H0 := hid h0
  have H1 := hid h1
  have H2 := hid h2
  obtain ⟨hnc, hcm⟩ := hnc
  have hA0 : a0 = none → n0 = 0 ∧ c0 = 0 := fun e => by subst e; obtain ⟨_, vs, h, _⟩ := h0; have := h.none_zero; exact ⟨this.1, this.2.1⟩
  have HA0 := hid hA0
  clear h0 h1 h2 hl1 hA0
  go_enter Try.func7, Try.ntmps7
  go_upto_region 6 with (first
    | (go_at_call 10; refine (known11_any _).mono ?_; rintro e w1 ⟨rfl, hc1⟩; have C1 := hid hc1; clear hc1)
    | (go_at_call 12; refine (new_any 4000 _).mono ?_; rintro e w2 ⟨p, q, rfl, hd2, hp, hq, hc2⟩; have D2 := hid hd2; have C2 := hid hc2; clear hd2 hc2)
    | (go_at_call 16; refine (lv_first w w1 w2 p q 4000 (by omega) D2.out C1.out hp hq C2.out).mono ?_; rintro e w3 ⟨la, a3, c3, rfl, hv⟩; have V := hid hv; clear hv))
  clear C1 C2 D2 hp hq
  go_wp2
  go_loopg [11, 12, 13] 20 (fun g vn vs vi wr => ∃ i S, i + g = 20 ∧ i ≤ n0 ∧ S ≤ i ∧ vn = .int .i64 i ∧ vs = .int .i64 S ∧ vi = .int .i64 i ∧ Hid (∀ j l, j < i → l0[j]? = some l → l.length ≤ 100) ∧ Hid (LV w wr p q la 4000 (l0.take i) (encL (l0.take S)).length S))
  case atStart => exact ⟨0, 0, rfl, by omega, by omega, rfl, rfl, rfl, hid (fun j l h => absurd h (Nat.not_lt_zero _)), V⟩
  case round =>
    clear V
    obtain ⟨i, S, hik, hin, hSi, rfl, rfl, rfl, HA, V⟩ := hrel
    have fin : Hid ((∀ r ∈ l0.take i, r.length ≤ 16384) ∧ (l0.take i).length = i) := hid ⟨fun r hr => Nat.le_trans (take_all HA.out r hr) (by omega), by rw [List.length_take, L0.out]; omega⟩
    have i0 : (0 : Int) ≤ i := by omega
    by_cases hlt : i < n0 ∧ i < 20
    · obtain ⟨hlt, h20⟩ := hlt
      obtain ⟨l, hl⟩ : ∃ l, l0[i]? = some l := ⟨_, List.getElem?_eq_getElem (by rw [L0.out]; exact hlt)⟩
      have R0 := H0.out.below V.out.ch.below0
      obtain ⟨b0, o0, rfl⟩ := R0.spot (by omega)
      obtain ⟨a', c', e0, s0⟩ := R0.at_ hl
      have S0 := hid s0
      have HL := hid hl
      have hlti : (i : Int) < n0 := by omega
      have h20i : (i : Int) < 20 := by omega
      clear hl R0 s0
      by_cases hb : 100 < l.length
      · have hbi : (100 : Int) < l.length := by omega
        go_wp2
        go_ret
        exact ⟨rfl, V.out.ch⟩
      · have hbi : ¬ (100 : Int) < l.length := by omega
        have hA' := hid (show ∀ j l, j < i + 1 → l0[j]? = some l → l.length ≤ 100 by
          intro j l' hj hl'
          rcases Nat.lt_or_ge j i with h | h
          · exact HA.out j l' h hl'
          · obtain rfl : j = i := by omega
            rw [HL.out] at hl'; cases hl'; omega)
        have hf : (encL (l0.take i)).length + (8 + l.length) ≤ 4000 := by
          have h1 := encL_len (l0.take i) 100 (take_all HA.out)
          rw [fin.out.2] at h1
          omega
        have hl6 : l.length ≤ 16384 := by omega
        have hN : (l0.take i).length ≤ 1000000 := by rw [fin.out.2]; omega
        have TS := hid (take_snoc HL.out)
        have fin2 := hid (show (l0.take (i + 1)).length = i + 1 by rw [List.length_take, L0.out]; omega)
        by_cases hi1 : i < n1
        · obtain ⟨b, hb1⟩ : ∃ b, l1[i]? = some b := ⟨_, List.getElem?_eq_getElem (by rw [L1.out]; exact hi1)⟩
          have hi1i : (i : Int) < n1 := by omega
          obtain ⟨b1, o1, rfl⟩ := H1.out.spot (by intro e; have := H1.out.1; rw [e] at this; simp at this; omega)
          have eb := H1.out.at_ (j := i) (by rw [bbv_get, hb1]; rfl)
          clear hb1
          cases b with
          | true =>
            go_wp2_with (first
              | (go_at_call 20; refine (lv_append w _ p q la 4000 _ S (l0.take i) a' l.length c' l V.out S0.out hl6 hf hN).mono ?_; rw [← TS.out]; rintro e w4 ⟨rfl, hv4⟩; have V4 := hid hv4; have eb4 := hv4.ch.cell eb id; clear hv4)
              | (go_at_call 23; refine (lv_sync w _ p q la 4000 _ S _ V4.out).mono ?_; rw [fin2.out]; rintro e w5 ⟨rfl, hv5⟩; have V5 := hid hv5; clear hv5)
              | (go_at_call 21; refine (lv_count w _ p q la 4000 _ (i + 1) (i + 1) _ V5.out fin2.out).mono ?_; rintro e w7 ⟨rfl, rfl⟩)
              | (go_at_call 22; refine (lv_safe w _ p q la 4000 _ (i + 1) _ V5.out).mono ?_; rintro e w7 ⟨rfl, rfl⟩))
            go_roundg (19 - i)
            case measure => omega
            case rel => exact ⟨i + 1, i + 1, by omega, by omega, by omega, by go_num, by go_num, by go_num, hA', V5⟩
          | false =>
            go_wp2_with (first
              | (go_at_call 20; refine (lv_append w _ p q la 4000 _ S (l0.take i) a' l.length c' l V.out S0.out hl6 hf hN).mono ?_; rw [← TS.out]; rintro e w4 ⟨rfl, hv4⟩; have V4 := hid hv4; have eb4 := hv4.ch.cell eb id; clear hv4)
              | (go_at_call 21; refine (lv_count w _ p q la 4000 _ S (i + 1) _ V4.out fin2.out).mono ?_; rintro e w7 ⟨rfl, rfl⟩)
              | (go_at_call 22; refine (lv_safe w _ p q la 4000 _ S _ V4.out).mono ?_; rintro e w7 ⟨rfl, rfl⟩))
            go_roundg (19 - i)
            case measure => omega
            case rel => exact ⟨i + 1, S, by omega, by omega, by omega, by go_num, rfl, by go_num, hA', V4⟩
        · have hi1i : ¬ (i : Int) < n1 := by omega
          go_wp2_with (first
            | (go_at_call 20; refine (lv_append w _ p q la 4000 _ S (l0.take i) a' l.length c' l V.out S0.out hl6 hf hN).mono ?_; rw [← TS.out]; rintro e w4 ⟨rfl, hv4⟩; have V4 := hid hv4; clear hv4)
            | (go_at_call 21; refine (lv_count w _ p q la 4000 _ S (i + 1) _ V4.out fin2.out).mono ?_; rintro e w7 ⟨rfl, rfl⟩)
            | (go_at_call 22; refine (lv_safe w _ p q la 4000 _ S _ V4.out).mono ?_; rintro e w7 ⟨rfl, rfl⟩))
          go_roundg (19 - i)
          case measure => omega
          case rel => exact ⟨i + 1, S, by omega, by omega, by omega, by go_num, rfl, by go_num, hA', V4⟩
    · obtain ⟨k, T, ek, ht, hki, hSk⟩ := crash_rows l0 S i ((encL (l0.take S)).length + (x2 % (((encL (l0.take i)).length - (encL (l0.take S)).length + 1 : Nat) : Int)).toNat) (by rw [L0.out]; exact hin) hSi fin.out.1 (Nat.le_add_right _ _)
      have EK := hid ek
      have HT := hid ht
      have HK6 := hid (show ∀ r ∈ l0.take k, r.length ≤ 16384 from fun r hr => Nat.le_trans (take_all (fun j l hj hl => HA.out j l (Nat.lt_of_lt_of_le hj hki) hl) r hr) (by omega))
      have HKL := hid (show (l0.take k).length = k by rw [List.length_take, L0.out]; omega)
      have HKN := hid (show k ≤ n0 by omega)
      have kSi : (S : Int) ≤ k := by omega
      have kii : (k : Int) ≤ i := by omega
      have kci : (k : Int) ≤ c0 := by omega
      have k0 : (0 : Int) ≤ k := by omega
      clear ek ht
      by_cases hlt2 : i < n0
      · have h20i : ¬ (i : Int) < 20 := by omega
        have hlti : (i : Int) < n0 := by omega
        obtain ⟨b0, o0, rfl⟩ := H0.out.spot (by omega)
        clear hlt
        go_wp2_with (first
          | (go_at_call 25; refine (crash_any p q _ x2 _ V.out.1).mono ?_; rintro e w4 ⟨rfl, hd4, hc4⟩; rw [DV.crash] at hd4; have D4 := hid hd4; have C4 := hid (V.out.ch.far2 hc4 V.out.2.2.2.2.1 V.out.2.2.2.2.2.1); clear hd4 hc4)
          | (go_at_call 16; refine (lv_open0 w _ p q 4000 _ k (l0.take k) T (by rw [← EK.out]; exact D4.out) HT.out HK6.out HKL.out C4.out V.out.2.2.2.2.1 V.out.2.2.2.2.2.1).mono ?_; rintro e w5 ⟨la5, a5, c5, rfl, hv5, hr5, _⟩; have V5 := hid hv5; have R5 := hid hr5; clear hv5 hr5)
          | (go_at_call 18; refine (rows_any a5 k c5 (l0.take k) _ c0 _ R5.out (RowsAt_front (H0.out.below V5.out.ch.below0) k HKN.out)).mono ?_; rintro e w6 ⟨rfl, hc6⟩; have V6 := hid (V5.out.f hc6); clear hc6)
          | (go_at_call 21; refine (lv_count w _ p q la5 4000 _ k k _ V6.out HKL.out).mono ?_; rintro e w7 ⟨rfl, rfl⟩)
          | (go_at_call 22; refine (lv_safe w _ p q la5 4000 _ k _ V6.out).mono ?_; rintro e w7 ⟨rfl, rfl⟩))
        go_ret
        exact ⟨by simp, V6.out.ch⟩
      · have hlti : ¬ (i : Int) < n0 := by omega
        clear hlt
        cases a0 with
        | none =>
          obtain ⟨rfl, rfl⟩ := HA0.out rfl
          obtain rfl : i = 0 := by omega
          obtain rfl : k = 0 := by omega
          obtain rfl : S = 0 := by omega
          go_wp2_with (first
            | (go_at_call 25; refine (crash_any p q _ x2 _ V.out.1).mono ?_; rintro e w4 ⟨rfl, hd4, hc4⟩; rw [DV.crash] at hd4; have D4 := hid hd4; have C4 := hid (V.out.ch.far2 hc4 V.out.2.2.2.2.1 V.out.2.2.2.2.2.1); clear hd4 hc4)
            | (go_at_call 16; refine (lv_open0 w _ p q 4000 _ 0 (l0.take 0) T (by rw [← EK.out]; exact D4.out) HT.out HK6.out HKL.out C4.out V.out.2.2.2.2.1 V.out.2.2.2.2.2.1).mono ?_; rintro e w5 ⟨la5, a5, c5, rfl, hv5, hr5, _⟩; have V5 := hid hv5; have R5 := hid hr5; clear hv5 hr5)
            | (go_at_call 18; refine (rows_any a5 0 c5 (l0.take 0) _ 0 _ R5.out (RowsAt_front (H0.out.below V5.out.ch.below0) 0 HKN.out)).mono ?_; rintro e w6 ⟨rfl, hc6⟩; have V6 := hid (V5.out.f hc6); clear hc6)
            | (go_at_call 21; refine (lv_count w _ p q la5 4000 _ 0 0 _ V6.out HKL.out).mono ?_; rintro e w7 ⟨rfl, rfl⟩)
            | (go_at_call 22; refine (lv_safe w _ p q la5 4000 _ 0 _ V6.out).mono ?_; rintro e w7 ⟨rfl, rfl⟩))
          go_ret
          exact ⟨by simp, V6.out.ch⟩
        | some b =>
          go_wp2_with (first
            | (go_at_call 25; refine (crash_any p q _ x2 _ V.out.1).mono ?_; rintro e w4 ⟨rfl, hd4, hc4⟩; rw [DV.crash] at hd4; have D4 := hid hd4; have C4 := hid (V.out.ch.far2 hc4 V.out.2.2.2.2.1 V.out.2.2.2.2.2.1); clear hd4 hc4)
            | (go_at_call 16; refine (lv_open0 w _ p q 4000 _ k (l0.take k) T (by rw [← EK.out]; exact D4.out) HT.out HK6.out HKL.out C4.out V.out.2.2.2.2.1 V.out.2.2.2.2.2.1).mono ?_; rintro e w5 ⟨la5, a5, c5, rfl, hv5, hr5, _⟩; have V5 := hid hv5; have R5 := hid hr5; clear hv5 hr5)
            | (go_at_call 18; refine (rows_any a5 k c5 (l0.take k) _ c0 _ R5.out (RowsAt_front (H0.out.below V5.out.ch.below0) k HKN.out)).mono ?_; rintro e w6 ⟨rfl, hc6⟩; have V6 := hid (V5.out.f hc6); clear hc6)
            | (go_at_call 21; refine (lv_count w _ p q la5 4000 _ k k _ V6.out HKL.out).mono ?_; rintro e w7 ⟨rfl, rfl⟩)
            | (go_at_call 22; refine (lv_safe w _ p q la5 4000 _ k _ V6.out).mono ?_; rintro e w7 ⟨rfl, rfl⟩))
          go_ret
          exact ⟨by simp, V6.out.ch⟩
end Go.Proofs.Ytfhbbmaimaabnaa

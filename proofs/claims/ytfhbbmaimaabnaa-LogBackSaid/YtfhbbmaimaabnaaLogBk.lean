/- The statement LogBack: its walk. -/
import Derived.Test.YtfhbbmaimaabnaaLogP
namespace Go.Proofs.Ytfhbbmaimaabnaa
open Go.RowKit Go.Cx Go.F64
set_option linter.unusedVariables false
set_option linter.unusedSimpArgs false

set_option maxRecDepth 100000 in
set_option maxHeartbeats 8000000 in
theorem LogBack_walk (w : World) (a0 : Option Addr) (n0 c0 : Nat) (l0 : List (List UInt8)) (h0 : RowsAt w a0 n0 c0 l0) (a1 : Option Addr) (n1 c1 : Nat) (l1 : List Bool) (h1 : Sl w 1 a1 n1 c1 (bbv l1)) :
    Calls Try.prog 5 #[.slice a0 n0 c0, .slice a1 n1 c1] w fun e w' => e = .returned (.bool true) ∧ Below w.heap.size w w' := by
  refine Calls.mono (R := True_ w) ?_ (fun e w' h => ⟨h.1, h.2.below0⟩)
  have hl1 : l1.length = n1 := by have := h1.1; rw [bbv_length] at this; omega
  have hnc : n0 ≤ c0 ∧ c0 ≤ 9223372036854775807 := by obtain ⟨_, vs, h, _⟩ := h0; have := h.2.1; have := h.2.2.1; unfold maxLen at this; omega
  have L1 := hid hl1
  have L0 := hid h0.1
  have H0 := hid h0
  have H1 := hid h1
  obtain ⟨hnc, hcm⟩ := hnc
  have hA0 : a0 = none → n0 = 0 ∧ c0 = 0 := fun e => by subst e; obtain ⟨_, vs, h, _⟩ := h0; have := h.none_zero; exact ⟨this.1, this.2.1⟩
  have HA0 := hid hA0
  clear h0 h1 hl1 hA0
  go_enter Try.func5, Try.ntmps5
  go_upto_region 6 with (first
    | (go_at_call 10; refine (known11_any _).mono ?_; rintro e w1 ⟨rfl, hc1⟩; have C1 := hid hc1; clear hc1)
    | (go_at_call 12; refine (new_any 6000 _).mono ?_; rintro e w2 ⟨p, q, rfl, hd2, hp, hq, hc2⟩; have D2 := hid hd2; have C2 := hid hc2; clear hd2 hc2)
    | (go_at_call 16; refine (lv_first w w1 w2 p q 6000 (by omega) D2.out C1.out hp hq C2.out).mono ?_; rintro e w3 ⟨la, a3, c3, rfl, hv⟩; have V := hid hv; clear hv))
  clear C1 C2 D2 hp hq
  go_wp2
  go_loopg [6, 9, 10] 20 (fun k va vn vi wr => ∃ i la s K, i + k = 20 ∧ i ≤ n0 ∧ va = .pointer (some ⟨la, 0, none⟩) ∧ vn = .int .i64 i ∧ vi = .int .i64 i ∧ Hid (∀ j l, j < i → l0[j]? = some l → l.length ≤ 100) ∧ Hid (LV w wr p q la 6000 (l0.take i) s K))
  case atStart => exact ⟨0, la, 0, 0, rfl, by omega, rfl, rfl, rfl, hid (fun j l h => absurd h (Nat.not_lt_zero _)), V⟩
  case round =>
    clear V
    obtain ⟨i, la, s, K, hik, hin, rfl, rfl, rfl, HA, V⟩ := hrel
    have fin : Hid ((∀ r ∈ l0.take i, r.length ≤ 16384) ∧ (l0.take i).length = i) := hid ⟨fun r hr => Nat.le_trans (take_all HA.out r hr) (by omega), by rw [List.length_take, L0.out]; omega⟩
    by_cases hlt : i < n0
    · by_cases h20 : i < 20
      · obtain ⟨l, hl⟩ : ∃ l, l0[i]? = some l := ⟨_, List.getElem?_eq_getElem (by rw [L0.out]; exact hlt)⟩
        have R0 := H0.out.below V.out.ch.below0
        obtain ⟨b0, o0, rfl⟩ := R0.spot (by omega)
        obtain ⟨a', c', e0, s0⟩ := R0.at_ hl
        have S0 := hid s0
        have HL := hid hl
        have hlti : (i : Int) < n0 := by omega
        have h20i : (i : Int) < 20 := by omega
        have i0 : (0 : Int) ≤ i := by omega
        clear hl R0 s0
        by_cases hb : 100 < l.length
        · have hbi : (100 : Int) < l.length := by omega
          go_wp2
          go_ret
          exact ⟨rfl, V.out.ch⟩
        · have hbi : ¬ (100 : Int) < l.length := by omega
          have hA' := hid (show ∀ j l, j < i + 1 → l0[j]? = some l → l.length ≤ 100 by
            intro j l' hj hl'
            rcases Nat.lt_or_ge j i with h | h
            · exact HA.out j l' h hl'
            · obtain rfl : j = i := by omega
              rw [HL.out] at hl'; cases hl'; omega)
          have hf : (encL (l0.take i)).length + (8 + l.length) ≤ 6000 := by
            have h1 := encL_len (l0.take i) 100 (take_all HA.out)
            rw [fin.out.2] at h1
            omega
          have hl6 : l.length ≤ 16384 := by omega
          have hN : (l0.take i).length ≤ 1000000 := by rw [fin.out.2]; omega
          have TS := hid (take_snoc HL.out)
          have fin2 := hid (show (∀ r ∈ l0.take (i + 1), r.length ≤ 16384) ∧ (l0.take (i + 1)).length = i + 1 from ⟨fun r hr => Nat.le_trans (take_all hA'.out r hr) (by omega), by rw [List.length_take, L0.out]; omega⟩)
          have hc1 : ((i : Int) + 1) ≤ c0 := by omega
          have hc2 : (0 : Int) ≤ (i : Int) + 1 := by omega
          by_cases hi1 : i < n1
          · obtain ⟨b, hb1⟩ : ∃ b, l1[i]? = some b := ⟨_, List.getElem?_eq_getElem (by rw [L1.out]; exact hi1)⟩
            have hi1i : (i : Int) < n1 := by omega
            obtain ⟨b1, o1, rfl⟩ := H1.out.spot (by intro e; have := H1.out.1; rw [e] at this; simp at this; omega)
            have eb := H1.out.at_ (j := i) (by rw [bbv_get, hb1]; rfl)
            clear hb1
            cases b with
            | true =>
              go_wp2_with (first
                | (go_at_call 20; refine (lv_append w _ p q la 6000 s K (l0.take i) a' l.length c' l V.out S0.out hl6 hf hN).mono ?_; rw [← TS.out]; rintro e w4 ⟨rfl, hv4⟩; have V4 := hid hv4; have eb4 := hv4.ch.cell eb id; clear hv4)
                | (go_at_call 16; refine (lv_open w _ p q la 6000 s K (i + 1) (l0.take (i + 1)) V4.out fin2.out.1 fin2.out.2).mono ?_; rintro e w5 ⟨la5, a5, c5, rfl, hv5, hr5, _⟩; have V5 := hid hv5; have R5 := hid hr5; clear hv5 hr5)
                | (go_at_call 18; refine (rows_any a5 (i + 1) c5 (l0.take (i + 1)) _ c0 _ R5.out (RowsAt_front (H0.out.below V5.out.ch.below0) (i + 1) (by omega))).mono ?_; rintro e w6 ⟨rfl, hc6⟩; have V6 := hid (V5.out.f hc6); clear hc6)
                | (go_at_call 22; refine (lv_safe w _ p q la5 6000 _ (i + 1) _ V6.out).mono ?_; rintro e w7 ⟨rfl, rfl⟩))
              go_roundg (19 - i)
              case measure => omega
              case rel => exact ⟨i + 1, la5, _, _, by omega, by omega, rfl, by go_num, by go_num, hA', V6⟩
            | false =>
              go_wp2_with (go_at_call 20; refine (lv_append w _ p q la 6000 s K (l0.take i) a' l.length c' l V.out S0.out hl6 hf hN).mono ?_; rw [← TS.out]; rintro e w4 ⟨rfl, hv4⟩; have V4 := hid hv4; have eb4 := hv4.ch.cell eb id; clear hv4)
              go_roundg (19 - i)
              case measure => omega
              case rel => exact ⟨i + 1, la, _, _, by omega, by omega, rfl, by go_num, by go_num, hA', V4⟩
          · have hi1i : ¬ (i : Int) < n1 := by omega
            go_wp2_with (go_at_call 20; refine (lv_append w _ p q la 6000 s K (l0.take i) a' l.length c' l V.out S0.out hl6 hf hN).mono ?_; rw [← TS.out]; rintro e w4 ⟨rfl, hv4⟩; have V4 := hid hv4; clear hv4)
            go_roundg (19 - i)
            case measure => omega
            case rel => exact ⟨i + 1, la, _, _, by omega, by omega, rfl, by go_num, by go_num, hA', V4⟩
      · have h20i : ¬ (i : Int) < 20 := by omega
        have hlti : (i : Int) < n0 := by omega
        obtain ⟨b0, o0, rfl⟩ := H0.out.spot (by omega)
        have hc1 : (i : Int) ≤ c0 := by omega
        have i0 : (0 : Int) ≤ i := by omega
        go_wp2_with (first
          | (go_at_call 16; refine (lv_open w _ p q la 6000 s K i (l0.take i) V.out fin.out.1 fin.out.2).mono ?_; rintro e w5 ⟨la5, a5, c5, rfl, hv5, hr5, _⟩; have V5 := hid hv5; have R5 := hid hr5; clear hv5 hr5)
          | (go_at_call 18; refine (rows_any a5 i c5 (l0.take i) _ c0 _ R5.out (RowsAt_front (H0.out.below V5.out.ch.below0) i (by omega))).mono ?_; rintro e w6 ⟨rfl, hc6⟩; have V6 := hid (V5.out.f hc6); clear hc6))
        go_ret
        exact ⟨rfl, V6.out.ch⟩
    · have hlti : ¬ (i : Int) < n0 := by omega
      have hc1 : (i : Int) ≤ c0 := by omega
      have i0 : (0 : Int) ≤ i := by omega
      cases a0 with
      | none =>
        obtain ⟨rfl, rfl⟩ := HA0.out rfl
        obtain rfl : i = 0 := by omega
        go_wp2_with (first
          | (go_at_call 16; refine (lv_open w _ p q la 6000 s K 0 (l0.take 0) V.out fin.out.1 fin.out.2).mono ?_; rintro e w5 ⟨la5, a5, c5, rfl, hv5, hr5, _⟩; have V5 := hid hv5; have R5 := hid hr5; clear hv5 hr5)
          | (go_at_call 18; refine (rows_any a5 0 c5 (l0.take 0) _ 0 _ R5.out (RowsAt_front (H0.out.below V5.out.ch.below0) 0 (by omega))).mono ?_; rintro e w6 ⟨rfl, hc6⟩; have V6 := hid (V5.out.f hc6); clear hc6))
        go_ret
        exact ⟨rfl, V6.out.ch⟩
      | some b =>
        go_wp2_with (first
          | (go_at_call 16; refine (lv_open w _ p q la 6000 s K i (l0.take i) V.out fin.out.1 fin.out.2).mono ?_; rintro e w5 ⟨la5, a5, c5, rfl, hv5, hr5, _⟩; have V5 := hid hv5; have R5 := hid hr5; clear hv5 hr5)
          | (go_at_call 18; refine (rows_any a5 i c5 (l0.take i) _ c0 _ R5.out (RowsAt_front (H0.out.below V5.out.ch.below0) i (by omega))).mono ?_; rintro e w6 ⟨rfl, hc6⟩; have V6 := hid (V5.out.f hc6); clear hc6))
        go_ret
        exact ⟨rfl, V6.out.ch⟩
end Go.Proofs.Ytfhbbmaimaabnaa

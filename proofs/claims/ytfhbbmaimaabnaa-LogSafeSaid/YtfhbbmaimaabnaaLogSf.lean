/- The statement LogSafe: its walk. -/
import Derived.Test.YtfhbbmaimaabnaaLogP
namespace Go.Proofs.Ytfhbbmaimaabnaa
open Go.RowKit Go.Cx Go.F64
set_option linter.unusedVariables false
set_option linter.unusedSimpArgs false

theorem DV.stop_sync (sz s : Nat) (B : List UInt8) : ((DV sz B s).stop 1).sync.2 = 18 := by
  have e : ((DV sz B s).stop 1).step.dead = true := by
    unfold Dk.step Dk.stop DV
    rw [if_pos (show (0 : Int) < max 1 0 by decide)]
    show decide ((max (1 : Int) 0) - 1 = 0) = true
    decide
  unfold Dk.sync
  rw [if_neg (by simp [Dk.stop, DV]), if_pos e]
theorem lv_dead (w wr : World) (p q la sz s N K : Nat) (B : List UInt8) (hd : DiskAt wr p q ((DV sz B s).stop 1)) (hl : LogAt wr la p N K) (hne : la ≠ p ∧ la ≠ q) (hc : Ch (fun _ => False) w wr) (hp : w.heap.size ≤ p) (hq : w.heap.size ≤ q) (hla : w.heap.size ≤ la) :
    Calls Try.prog 23 #[.pointer (some ⟨la, 0, none⟩)] wr fun e w' => e = .returned (.int .i64 18) ∧ LogAt w' la p N K ∧ Ch (fun _ => False) w w' := by
  refine (lsync_any p q la N K _ wr hd hl hne).mono ?_
  rintro e w' ⟨h1, h2, h3, h4⟩
  rw [DV.stop_sync] at h1 h3
  rw [if_neg (by decide)] at h3
  exact ⟨h1, h3, chfar hc h4 (fun i hi => by omega)⟩
set_option maxRecDepth 100000 in
set_option maxHeartbeats 8000000 in
theorem LogSafe_walk (w : World) (a0 : Option Addr) (n0 c0 : Nat) (l0 : List (List UInt8)) (h0 : RowsAt w a0 n0 c0 l0) (x1 : Int) (h1 : I64 x1) (x2 : Bool) :
    Calls Try.prog 6 #[.slice a0 n0 c0, .int .i64 x1, .bool x2] w fun e w' => e = .returned (.bool true) ∧ Below w.heap.size w w' := by
  refine Calls.mono (R := True_ w) ?_ (fun e w' h => ⟨h.1, h.2.below0⟩)
  have L0 := hid h0.1
  have H0 := hid h0
  obtain ⟨m, hm⟩ : ∃ m : Nat, min (n0 : Int) 15 = (m : Int) := ⟨min n0 15, by omega⟩
  have hmn : m ≤ n0 := by omega
  have hm15 : m ≤ 15 := by omega
  have t0 := Int.emod_nonneg x1 (by omega : (m : Int) + 1 ≠ 0)
  have t1 := Int.emod_lt_of_pos x1 (by omega : 0 < (m : Int) + 1)
  obtain ⟨k, hk⟩ : ∃ k : Nat, (k : Int) = x1 % ((m : Int) + 1) := ⟨(x1 % ((m : Int) + 1)).toNat, by omega⟩
  have hkm : k ≤ m := by omega
  have HM := hid hm
  have HK := hid hk
  clear h0 t0 t1 hm hk
  go_enter Try.func6, Try.ntmps6
  go_upto_region 6 with (first
    | (go_at_call 10; refine (known11_any _).mono ?_; rintro e w1 ⟨rfl, hc1⟩; have C1 := hid hc1; clear hc1)
    | (go_at_call 12; refine (new_any 6000 _).mono ?_; rintro e w2 ⟨p, q, rfl, hd2, hp, hq, hc2⟩; have D2 := hid hd2; have C2 := hid hc2; clear hd2 hc2)
    | (go_at_call 16; refine (lv_first w w1 w2 p q 6000 (by omega) D2.out C1.out hp hq C2.out).mono ?_; rintro e w3 ⟨la, a3, c3, rfl, hv⟩; have V := hid hv; clear hv))
  clear C1 C2 D2 hp hq
  rw [HM.out]
  go_upto_region 7 with (go_at_call 11; refine (within11_any x1 ((m : Int) + 1) _ (by omega) (by omega)).mono ?_; rintro e w4 ⟨rfl, rfl⟩; rw [← HK.out])
  go_wp2
  go_loopg [13] m (fun g vi wr => ∃ i s K, i + g = m ∧ vi = .int .i64 i ∧ Hid (∀ j l, j < i → l0[j]? = some l → l.length ≤ 60) ∧ Hid (LV w wr p q la 6000 (l0.take i) s K) ∧ (k < i → K = k))
  case atStart => exact ⟨0, 0, 0, by omega, rfl, hid (fun j l h => absurd h (Nat.not_lt_zero _)), V, by omega⟩
  case round =>
    clear V
    obtain ⟨i, s, K, hik, rfl, HA, V, hK⟩ := hrel
    have fin : Hid ((l0.take i).length = i) := hid (by rw [List.length_take, L0.out]; omega)
    by_cases hlt : i < m
    · obtain ⟨l, hl⟩ : ∃ l, l0[i]? = some l := ⟨_, List.getElem?_eq_getElem (by rw [L0.out]; omega)⟩
      obtain ⟨b0, o0, rfl⟩ := H0.out.spot (by omega)
      obtain ⟨a', c', e0, s0⟩ := (H0.out.below V.out.ch.below0).at_ hl
      obtain ⟨a'', c'', e0w, s0w⟩ := H0.out.at_ hl
      have e00 := e0.symm.trans (V.out.ch.cell e0w id)
      simp only [Option.some.injEq, Value.slice.injEq] at e00
      obtain ⟨rfl, _, rfl⟩ := e00
      have S0 := hid s0w
      have HL := hid hl
      have hlti : (i : Int) < m := by omega
      have i0 : (0 : Int) ≤ i := by omega
      have hin : (i : Int) < n0 := by omega
      clear hl s0 s0w
      by_cases hb : 60 < l.length
      · have hbi : (60 : Int) < l.length := by omega
        go_wp2
        go_ret
        exact ⟨rfl, V.out.ch⟩
      · have hbi : ¬ (60 : Int) < l.length := by omega
        have hA' := hid (show ∀ j l, j < i + 1 → l0[j]? = some l → l.length ≤ 60 by
          intro j l' hj hl'
          rcases Nat.lt_or_ge j i with h | h
          · exact HA.out j l' h hl'
          · obtain rfl : j = i := by omega
            rw [HL.out] at hl'; cases hl'; omega)
        have hf : (encL (l0.take i)).length + (8 + l.length) ≤ 6000 := by
          have h1 := encL_len (l0.take i) 60 (take_all HA.out)
          rw [fin.out] at h1
          omega
        have hl6 : l.length ≤ 16384 := by omega
        have hN : (l0.take i).length ≤ 1000000 := by rw [fin.out]; omega
        have TS := hid (take_snoc HL.out)
        by_cases hki : i = k
        · subst hki
          have hkb : ((i : Int) == i) = true := beq_iff_eq.2 rfl
          go_wp2_with (first
            | (go_at_call 23; refine (lv_sync w _ p q la 6000 s K (l0.take i) V.out).mono ?_; rw [fin.out]; rintro e w4 ⟨rfl, hv4⟩; have V4 := hid hv4; have e4 := hv4.ch.cell e0w id; clear hv4)
            | (go_at_call 20; refine (lv_append w _ p q la 6000 _ _ (l0.take i) a' l.length c' l V4.out (S0.out.below V4.out.ch.below0) hl6 hf hN).mono ?_; rw [← TS.out]; rintro e w5 ⟨rfl, hv5⟩; have V5 := hid hv5; clear hv5))
          go_roundg (m - (i + 1))
          case measure => omega
          case rel => exact ⟨i + 1, _, _, by omega, by go_num, hA', V5, by omega⟩
        · have hkb : ((i : Int) == k) = false := beq_eq_false_iff_ne.2 (by omega)
          go_wp2_with (go_at_call 20; refine (lv_append w _ p q la 6000 _ _ (l0.take i) a' l.length c' l V.out (S0.out.below V.out.ch.below0) hl6 hf hN).mono ?_; rw [← TS.out]; rintro e w5 ⟨rfl, hv5⟩; have V5 := hid hv5; clear hv5)
          go_roundg (m - (i + 1))
          case measure => omega
          case rel => exact ⟨i + 1, _, _, by omega, by go_num, hA', V5, by omega⟩
    · obtain rfl : i = m := by omega
      have hlti : ¬ (i : Int) < i := by omega
      by_cases hki : k = i
      · subst hki
        have hkb : ((k : Int) == k) = true := beq_iff_eq.2 rfl
        cases x2 with
        | false =>
          go_wp2_with (first
            | (go_at_call 23; refine (lv_sync w _ p q la 6000 s K _ V.out).mono ?_; rw [fin.out]; rintro e w4 ⟨rfl, hv4⟩; have V4 := hid hv4; clear hv4)
            | (go_at_call 22; refine (lv_safe w _ p q la 6000 _ k _ V4.out).mono ?_; rintro e w7 ⟨rfl, rfl⟩)
            | (go_at_call 21; refine (lv_count w _ p q la 6000 _ k k _ V4.out fin.out).mono ?_; rintro e w7 ⟨rfl, rfl⟩))
          go_ret
          exact ⟨by simp, V4.out.ch⟩
        | true =>
          go_wp2_with (first
            | (go_at_call 23; clear hkb; refine (lv_sync w _ p q la 6000 s K _ V.out).mono ?_; rw [fin.out]; rintro e w4 ⟨rfl, hv4⟩; have V4 := hid hv4; clear hv4)
            | (go_at_call 24; refine (stop_any p q _ 1 _ V4.out.1 (by omega)).mono ?_; rintro e w5 ⟨rfl, hd5, hc5⟩; have D5 := hid hd5; have L5 := hid (V4.out.2.1.ch hc5 (by have := V4.out.2.2.1; omega)); have C5 := hid (V4.out.ch.far2 hc5 V4.out.2.2.2.2.1 V4.out.2.2.2.2.2.1); clear hd5 hc5)
            | (go_at_call 23; refine (lv_dead w _ p q la 6000 _ _ k _ D5.out L5.out V4.out.2.2.1 C5.out V4.out.2.2.2.2.1 V4.out.2.2.2.2.2.1 V4.out.2.2.2.2.2.2).mono ?_; rw [fin.out]; rintro e w6 ⟨rfl, hl6, hc6⟩; have L6 := hid hl6; have C6 := hid hc6; clear hl6 hc6)
            | (go_at_call 22; refine (lsafe_any la p k k _ L6.out).mono ?_; rintro e w7 ⟨rfl, rfl⟩)
            | (go_at_call 21; refine (lcount_any la p k k _ L6.out).mono ?_; rintro e w7 ⟨rfl, rfl⟩))
          go_ret
          exact ⟨by simp, C6.out⟩
      · have hkb : ((k : Int) == i) = false := beq_eq_false_iff_ne.2 (by omega)
        obtain rfl : K = k := hK (by omega)
        cases x2 with
        | false =>
          go_wp2_with (first
            | (go_at_call 22; refine (lv_safe w _ p q la 6000 _ K _ V.out).mono ?_; rintro e w7 ⟨rfl, rfl⟩)
            | (go_at_call 21; refine (lv_count w _ p q la 6000 _ K i _ V.out fin.out).mono ?_; rintro e w7 ⟨rfl, rfl⟩))
          go_ret
          exact ⟨by simp, V.out.ch⟩
        | true =>
          go_wp2_with (first
            | (go_at_call 24; refine (stop_any p q _ 1 _ V.out.1 (by omega)).mono ?_; rintro e w5 ⟨rfl, hd5, hc5⟩; have D5 := hid hd5; have L5 := hid (V.out.2.1.ch hc5 (by have := V.out.2.2.1; omega)); have C5 := hid (V.out.ch.far2 hc5 V.out.2.2.2.2.1 V.out.2.2.2.2.2.1); clear hd5 hc5)
            | (go_at_call 23; refine (lv_dead w _ p q la 6000 _ _ K _ D5.out L5.out V.out.2.2.1 C5.out V.out.2.2.2.2.1 V.out.2.2.2.2.2.1 V.out.2.2.2.2.2.2).mono ?_; rw [fin.out]; rintro e w6 ⟨rfl, hl6, hc6⟩; have L6 := hid hl6; have C6 := hid hc6; clear hl6 hc6)
            | (go_at_call 22; refine (lsafe_any la p i K _ L6.out).mono ?_; rintro e w7 ⟨rfl, rfl⟩)
            | (go_at_call 21; refine (lcount_any la p i K _ L6.out).mono ?_; rintro e w7 ⟨rfl, rfl⟩))
          go_ret
          exact ⟨by simp, C6.out⟩
end Go.Proofs.Ytfhbbmaimaabnaa

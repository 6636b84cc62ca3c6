/- The statement DiskStays: its walk. -/
import Derived.Test.YtkpblphcbdecmaaDiskM
import Derived.Test.YtkpblphcbdecmaaMem2
namespace Go.Proofs.Ytkpblphcbdecmaa
open Go.RowKit Go.Cx Go.F64
set_option linter.unusedVariables false
set_option linter.unusedSimpArgs false

/-- A disk on which nothing goes wrong. -/
def dk (A : List UInt8) (size K : Nat) : Dk := { cont := A, size := size, syn := K, left := 0, dead := false }
theorem dk_step (A : List UInt8) (size K : Nat) : (dk A size K).step = dk A size K := by unfold Dk.step; rw [if_neg (by simp [dk])]
theorem dk_put (A l : List UInt8) (size K : Nat) : (dk A size K).put l = dk (A ++ l) size K := rfl
theorem dk_sync (A : List UInt8) (size K : Nat) : (dk A size K).sync = (dk A size A.length, 0) := by
  unfold Dk.sync; rw [dk_step, if_neg (by simp [dk]), if_neg (by simp [dk])]; rfl
theorem read_dk (p q : Nat) (A : List UInt8) (size K : Nat) (w : World) (h : DiskAt w p q (dk A size K)) :
    Calls Try.prog 13 #[.pointer (some ⟨p, 0, none⟩)] w (ReadOk A w) := read_ok p q _ w h rfl
theorem synced_dk (p q : Nat) (A : List UInt8) (size K : Nat) (w : World) (h : DiskAt w p q (dk A size K)) :
    Calls Try.prog 15 #[.pointer (some ⟨p, 0, none⟩)] w fun e w' => e = .returned (.int .i64 (K : Int)) ∧ w' = w := (synced_any p q _ w h).mono fun e w' h => ⟨h.1, h.2.symm⟩
theorem dead_dk (p q : Nat) (A : List UInt8) (size K : Nat) (w : World) (h : DiskAt w p q (dk A size K)) :
    Calls Try.prog 18 #[.pointer (some ⟨p, 0, none⟩)] w fun e w' => e = .returned (.bool false) ∧ w' = w := (dead_any p q _ w h).mono fun e w' h => ⟨h.1, h.2.symm⟩
theorem dk_new (n : Int) (h : 0 ≤ n) (h2 : n ≤ 65536) : Dk.new n = dk [] n.toNat 0 := by
  unfold Dk.new dk; congr 1; omega
theorem dk_crash (A : List UInt8) (size K : Nat) (pick : Int) (h : K ≤ A.length) : ∃ r : Nat, pick % ((A.length : Int) - K + 1) = r ∧ K + r ≤ A.length ∧ (dk A size K).crash pick = dk (A.take (K + r)) size (K + r) := by
  have t3 := Int.emod_nonneg pick (by omega : (A.length : Int) - K + 1 ≠ 0)
  have t4 := Int.emod_lt_of_pos pick (by omega : 0 < (A.length : Int) - K + 1)
  refine ⟨(pick % ((A.length : Int) - K + 1)).toNat, by omega, by omega, ?_⟩
  have em : ((A.length - K + 1 : Nat) : Int) = (A.length : Int) - K + 1 := by omega
  unfold Dk.crash dk
  simp only [em]

set_option maxRecDepth 100000 in
set_option maxHeartbeats 4000000 in
theorem DiskStays_walk (w : World) (a0 : Option Addr) (n0 c0 : Nat) (ll : List (List UInt8)) (h0 : RowsAt w a0 n0 c0 ll) (a1 : Option Addr) (n1 c1 : Nat) (l1 : List Bool) (h1 : Sl w 1 a1 n1 c1 (bbv l1)) (x2 : Int) (h2 : I64 x2) :
    Calls Try.prog 6 #[.slice a0 n0 c0, .slice a1 n1 c1, .int .i64 x2] w fun e w' => e = .returned (.bool true) ∧ Below w.heap.size w w' := by
  refine Calls.mono (R := True_ w) ?_ (fun e w' h => ⟨h.1, h.2.below0⟩)
  have hl : l1.length = n1 := by have := h1.1; rw [bbv_length] at this; omega
  have hl0 : ll.length = n0 := h0.1
  have HL := hid hl
  have HL0 := hid hl0
  have H0 := hid h0
  have H1 := hid h1
  have hn9 : n1 ≤ 9223372036854775807 := by have := h1.2.1; have := h1.2.2.1; unfold maxLen at this; omega
  have hn8 : n0 ≤ 9223372036854775807 := by obtain ⟨_, vs, h, _⟩ := h0; have := h.2.1; have := h.2.2.1; unfold maxLen at this; omega
  clear hl h1 hl0 h0
  have hnew := dk_new 2000 (by decide) (by decide)
  have HNEW := hid hnew
  clear hnew
  go_enter Try.func6, Try.ntmps6
  go_wp2_with (first
    | (go_at_call 10; refine (known10_any _).mono ?_; rintro e w1 ⟨rfl, hc1⟩; have C1 := hid hc1; clear hc1)
    | (go_at_call 11; refine (new_any 2000 _).mono ?_; rintro e w2 ⟨p, q, rfl, hd2, hp, hq, hc2⟩; rw [HNEW.out] at hd2; have D2 := hid hd2; have C2 := hid (C1.out.f hc2); have PQ := hid (show w.heap.size ≤ p ∧ w.heap.size ≤ q by have := C1.out.size; omega); clear hd2 hc2))
  go_loopw [8, 9, 10] (fun vall vkept vi wr => ∃ (i : Nat) (A : List UInt8) (K : Nat), i ≤ 20 ∧ vi = .int .i64 i ∧ vall = .string (str A) ∧ vkept = .int .i64 K ∧ DiskAt wr p q (dk A 2000 K) ∧ A.length ≤ 60 * i ∧ K ≤ A.length ∧ Ch (fun _ => False) w wr) (fun _ _ vi _ => 20 - (intOf vi).toNat)
  case atStart => exact ⟨0, [], 0, by omega, rfl, rfl, rfl, D2.out, by simp, by simp, C2.out⟩
  case round =>
    obtain ⟨i, A, K, hi, rfl, rfl, rfl, hd, hA, hK, hch⟩ := hrel
    have D := hid hd
    have C := hid hch
    clear hd hch D2 C2
    by_cases hlt : i < n0 ∧ i < 20
    · obtain ⟨hi1, hi2⟩ := hlt
      obtain ⟨l, hl⟩ : ∃ l, ll[i]? = some l := ⟨_, List.getElem?_eq_getElem (by rw [HL0.out]; exact hi1)⟩
      obtain ⟨b, o, rfl⟩ := H0.out.spot (by omega)
      obtain ⟨a', c', hcell0, hsl⟩ := H0.out.at_ hl
      have SL := hid hsl
      have HC := hid hcell0
      have hcell := C.out.cell hcell0 id
      clear hl hsl hcell0
      by_cases hbig : 60 < l.length
      · go_wp2
        go_ret
        exact ⟨rfl, C.out⟩
      · have hr : l.length ≤ (dk A 2000 K).size - (dk A 2000 K).cont.length := by simp only [dk]; omega
        have HR := hid hr
        clear hr
        by_cases hs1 : i < n1
        · obtain ⟨s, hs⟩ : ∃ s, l1[i]? = some s := ⟨_, List.getElem?_eq_getElem (by rw [HL.out]; exact hs1)⟩
          obtain ⟨b1, o1, rfl⟩ := H1.out.spot (by intro h; have := congrArg List.length h; rw [bbv_length, HL.out] at this; simp at this; omega)
          have HS := hid hs
          clear hs
          go_wp2_with (first | (go_at_call 12; refine (append_ok p q _ _ _ _ l _ D.out (SL.out.below C.out.below0) rfl HR.out rfl).mono ?_; rintro e w5 ⟨rfl, hd5, hc5⟩; rw [dk_put] at hd5; have D5 := hid hd5; have C5 := hid (C.out.far2 hc5 PQ.out.1 PQ.out.2); have hcell5 := C5.out.cell HC.out id; have hs5 : w5.cell? ⟨b1, o1 + i, none⟩ = some (.bool s) := (H1.out.below C5.out.below0).at_ (by rw [bbv_get, HS.out]; rfl); have f5 : (convert 27 9 (.slice a' l.length c')).run Try.prog w5 = .ok (.string (str l)) w5 := string_of (SL.out.below C5.out.below0) w5 rfl; clear hd5 hc5) | (go_at_call 16; refine (sync_any p q _ _ D5.out).mono ?_; rintro e w6 ⟨he6, hd6, hc6⟩; rw [dk_sync] at he6 hd6; subst he6; have D6 := hid hd6; have C6 := hid (C5.out.far2 hc6 PQ.out.1 PQ.out.2); clear hd6 hc6))
          · go_roundw
            case rel => exact ⟨i + 1, A ++ l, (A ++ l).length, by omega, by go_num, rfl, by simp, D6.out, by simp; omega, Nat.le_refl _, C6.out⟩
            case measure => simp [intOf]; omega
          · go_roundw
            case rel => exact ⟨i + 1, A ++ l, K, by omega, by go_num, rfl, rfl, D5.out, by simp; omega, by simp; omega, C5.out⟩
            case measure => simp [intOf]; omega
        · go_wp2_with (go_at_call 12; refine (append_ok p q _ _ _ _ l _ D.out (SL.out.below C.out.below0) rfl HR.out rfl).mono ?_; rintro e w5 ⟨rfl, hd5, hc5⟩; rw [dk_put] at hd5; have D5 := hid hd5; have C5 := hid (C.out.far2 hc5 PQ.out.1 PQ.out.2); have hcell5 := C5.out.cell HC.out id; have f5 : (convert 27 9 (.slice a' l.length c')).run Try.prog w5 = .ok (.string (str l)) w5 := string_of (SL.out.below C5.out.below0) w5 rfl; clear hd5 hc5)
          go_roundw
          case rel => exact ⟨i + 1, A ++ l, K, by omega, by go_num, rfl, rfl, D5.out, by simp; omega, by simp; omega, C5.out⟩
          case measure => simp [intOf]; omega
    · obtain ⟨r, hr, hr1, hmc⟩ := dk_crash A 2000 K x2 hK
      have HM := hid hmc
      have HRR := hid hr
      have hlen : (A.take (K + r)).length = K + r := by simp; omega
      have HLEN := hid hlen
      clear hlen
      have hb1 : (0 : Int) ≤ (K : Int) + (r : Int) := by omega
      have hb2 : (K : Int) + (r : Int) ≤ (A.length : Int) := by omega
      have hb3 : ((K : Int) + (r : Int)).toNat = K + r := by omega
      clear hr hmc
      by_cases hi1 : i < n0
      · have hi2 : ¬ i < 20 := by omega
        clear hlt
        go_wp2_with (first | (go_at_call 15; refine (synced_any p q (dk A 2000 K) _ D.out).mono ?_; rintro e w5 ⟨he5, rfl⟩; have he5' : e = .returned (.int .i64 (K : Int)) := he5; subst he5'; clear he5) | (go_at_call 14; refine (crash_any p q _ x2 _ D.out).mono ?_; rintro e w5 ⟨rfl, hd5, hc5⟩; rw [HM.out] at hd5; have D5 := hid hd5; have C5 := hid (C.out.far2 hc5 PQ.out.1 PQ.out.2); clear hd5 hc5 D) | (go_at_call 13; refine (read_dk p q (A.take (K + r)) 2000 (K + r) _ D5.out).mono ?_; rintro e w6 ⟨a6, k6, he6, ho6, hc6⟩; rw [HLEN.out] at he6 ho6; subst he6; have D6 := hid (D5.out.ch hc6 id id); have C6 := hid (C5.out.f hc6); have f6 := string_ofN ho6.sl; clear ho6 hc6) | (go_at_call 17; refine (within10_any x2 _ _ (by omega) (by omega)).mono ?_; rintro e w7 ⟨rfl, rfl⟩; rw [HRR.out]))
        go_quiet ((first | (go_at_call 15; exact Calls.quiet_of_same (synced_dk p q (A.take (K + r)) 2000 (K + r) _ (D6.out.drewN _))) | (go_at_call 18; exact Calls.quiet_of_same (dead_dk p q (A.take (K + r)) 2000 (K + r) _ (D6.out.drewN _)))))
        go_wp2
        go_ret
        exact ⟨by simp [dk], C6.out.drewN _⟩
      · clear hlt
        go_wp2_with (first | (go_at_call 15; refine (synced_any p q (dk A 2000 K) _ D.out).mono ?_; rintro e w5 ⟨he5, rfl⟩; have he5' : e = .returned (.int .i64 (K : Int)) := he5; subst he5'; clear he5) | (go_at_call 14; refine (crash_any p q _ x2 _ D.out).mono ?_; rintro e w5 ⟨rfl, hd5, hc5⟩; rw [HM.out] at hd5; have D5 := hid hd5; have C5 := hid (C.out.far2 hc5 PQ.out.1 PQ.out.2); clear hd5 hc5 D) | (go_at_call 13; refine (read_dk p q (A.take (K + r)) 2000 (K + r) _ D5.out).mono ?_; rintro e w6 ⟨a6, k6, he6, ho6, hc6⟩; rw [HLEN.out] at he6 ho6; subst he6; have D6 := hid (D5.out.ch hc6 id id); have C6 := hid (C5.out.f hc6); have f6 := string_ofN ho6.sl; clear ho6 hc6) | (go_at_call 17; refine (within10_any x2 _ _ (by omega) (by omega)).mono ?_; rintro e w7 ⟨rfl, rfl⟩; rw [HRR.out]))
        go_quiet ((first | (go_at_call 15; exact Calls.quiet_of_same (synced_dk p q (A.take (K + r)) 2000 (K + r) _ (D6.out.drewN _))) | (go_at_call 18; exact Calls.quiet_of_same (dead_dk p q (A.take (K + r)) 2000 (K + r) _ (D6.out.drewN _)))))
        go_wp2
        go_ret
        exact ⟨by simp [dk], C6.out.drewN _⟩

end Go.Proofs.Ytkpblphcbdecmaa

/- The statement DiskStops: its walk. -/
import Derived.Test.YtkpblphcbdecmaaDiskM
namespace Go.Proofs.Ytkpblphcbdecmaa
open Go.RowKit Go.Cx Go.F64
set_option linter.unusedVariables false
set_option linter.unusedSimpArgs false

/-- Where the power stands: 'ops' of N operations have been done. -/
structure St (d : Dk) (ops i N : Nat) : Prop where
  size : d.size = 500
  len : d.cont.length ≤ i
  le : ops ≤ N
  left : d.left = (N : Int) - ops
  dead : d.dead = decide (ops = N)

theorem St.step {d : Dk} {ops i N : Nat} (h : St d ops i N) (hl : ops < N) : d.step.left = (N : Int) - (ops + 1 : Nat) ∧ d.step.dead = decide (ops + 1 = N) := by
  unfold Dk.step
  rw [if_pos (by rw [h.left]; omega)]
  refine ⟨by simp only [h.left]; omega, ?_⟩
  simp only [h.left, decide_eq_decide]
  omega
theorem St.append {d : Dk} {ops i N : Nat} (h : St d ops i N) (hl : ops < N) (hi : i < 20) (b : UInt8) : ∃ d', d.append [b] = (d', if ops + 1 = N then 18 else 0) ∧ St d' (ops + 1) (i + 1) N := by
  have hp : St (d.put [b]) ops (i + 1) N := ⟨h.size, by simp [Dk.put]; exact h.len, h.le, h.left, h.dead⟩
  have hs := hp.step hl
  refine ⟨(d.put [b]).step, ?_, ⟨by rw [step_size]; exact h.size, by rw [step_cont]; exact hp.len, hl, hs.1, hs.2⟩⟩
  unfold Dk.append
  rw [if_neg (by rw [h.dead]; simp; omega), if_neg (by rw [h.size]; have := h.len; simp; omega), hs.2]
  simp
theorem St.full {d : Dk} {ops i N : Nat} (h : St d ops i N) (hl : ops < N) : d.append (List.replicate 600 0) = (d, 19) ∧ St d ops (i + 1) N := by
  refine ⟨?_, ⟨h.size, Nat.le_succ_of_le h.len, h.le, h.left, h.dead⟩⟩
  unfold Dk.append
  rw [if_neg (by rw [h.dead]; simp; omega), if_pos (by rw [h.size, List.length_replicate]; omega)]
theorem St.sync {d : Dk} {ops i N : Nat} (h : St d ops i N) (hl : ops < N) : ∃ d', d.sync = (d', if ops + 1 = N then 18 else 0) ∧ St d' (ops + 1) (i + 1) N := by
  have hs := h.step hl
  have hd : ¬ d.dead = true := by rw [h.dead]; simp; omega
  by_cases hN : ops + 1 = N
  · refine ⟨d.step, ?_, ⟨by rw [step_size]; exact h.size, by rw [step_cont]; exact Nat.le_succ_of_le h.len, hl, hs.1, hs.2⟩⟩
    unfold Dk.sync
    rw [if_neg hd, if_pos (by rw [hs.2]; simpa using hN), if_pos hN]
  · refine ⟨{ d.step with syn := d.cont.length }, ?_, ⟨by simp only [step_size]; exact h.size, by simp only [step_cont]; exact Nat.le_succ_of_le h.len, hl, hs.1, hs.2⟩⟩
    unfold Dk.sync
    rw [if_neg hd, if_neg (by rw [hs.2]; simpa using hN), if_neg hN]
theorem St.cut {d : Dk} {ops i N : Nat} (h : St d ops i N) (hl : ops < N) : ∃ d', d.cut 0 = (d', if ops + 1 = N then 18 else 0) ∧ St d' (ops + 1) (i + 1) N := by
  have hs := h.step hl
  have hd : ¬ d.dead = true := by rw [h.dead]; simp; omega
  by_cases hN : ops + 1 = N
  · refine ⟨d.step, ?_, ⟨by rw [step_size]; exact h.size, by rw [step_cont]; exact Nat.le_succ_of_le h.len, hl, hs.1, hs.2⟩⟩
    unfold Dk.cut
    rw [if_neg hd, if_neg (by omega), if_pos (by rw [hs.2]; simpa using hN), if_pos hN]
  · refine ⟨{ d.step with cont := d.cont.take (0 : Int).toNat, syn := (0 : Int).toNat }, ?_, ⟨by simp only [step_size]; exact h.size, by simp, hl, hs.1, hs.2⟩⟩
    unfold Dk.cut
    rw [if_neg hd, if_neg (by omega), if_neg (by rw [hs.2]; simpa using hN), if_neg hN]
theorem St.stay {d : Dk} {i N : Nat} (h : St d N i N) : (∀ l, d.append l = (d, 18)) ∧ d.sync = (d, 18) ∧ d.cut 0 = (d, 18) ∧ St d N (i + 1) N := by
  have hd : d.dead = true := by rw [h.dead]; simp
  refine ⟨fun l => ?_, ?_, ?_, ⟨h.size, Nat.le_succ_of_le h.len, h.le, h.left, h.dead⟩⟩
  · unfold Dk.append; rw [if_pos hd]
  · unfold Dk.sync; rw [if_pos hd]
  · unfold Dk.cut; rw [if_pos hd]

/-- What the end asks: behind a crash it lives. -/
theorem crash_alive (d : Dk) (h : d.syn ≤ d.cont.length) (h2 : d.cont.length ≤ d.size) : (d.crash 0).append [] = (d.crash 0, 0) ∧ (d.crash 0).sync.2 = 0 := by
  have hst : (d.crash 0).step = d.crash 0 := by unfold Dk.step; rw [if_neg (by simp [Dk.crash])]
  have hpu : (d.crash 0).put [] = d.crash 0 := by simp [Dk.put]
  refine ⟨?_, ?_⟩
  · unfold Dk.append
    rw [hpu, hst, if_neg (by simp [Dk.crash]), if_neg (by simp), if_neg (by simp [Dk.crash])]
  · unfold Dk.sync
    rw [hst, if_neg (by simp [Dk.crash]), if_neg (by simp [Dk.crash])]

theorem litb (w : World) (i : Nat) (hi : i < 256) : Sl (w.alloc (.cells #[.int .u8 (i : Int)] 5)) 1 (some ⟨w.heap.size, 0, none⟩) 1 1 (bv [UInt8.ofNat i]) := by
  have := Sl.lit w #[.int .u8 (i : Int)] 5 (by unfold maxLen; simp)
  have e : bv [UInt8.ofNat i] = [Value.int .u8 (i : Int)] := by
    simp only [bv, List.map_cons, List.map_nil, List.cons.injEq, Value.int.injEq, true_and, and_true, UInt8.toNat_ofNat']
    omega
  rw [e]; exact this

set_option maxRecDepth 100000 in
set_option maxHeartbeats 4000000 in
theorem DiskStops_walk (w : World) (x0 : Int) (h0 : I64 x0) (a1 : Option Addr) (n1 c1 : Nat) (l1 : List Int) (h1 : Sl w 1 a1 n1 c1 (iv l1)) (hl1 : ∀ z ∈ l1, I64 z) :
    Calls Try.prog 9 #[.int .i64 x0, .slice a1 n1 c1] w fun e w' => e = .returned (.bool true) ∧ Below w.heap.size w w' := by
  refine Calls.mono (R := True_ w) ?_ (fun e w' h => ⟨h.1, h.2.below0⟩)
  have hl : l1.length = n1 := by have := h1.1; rw [iv_length] at this; omega
  have HL := hid hl
  have H1 := hid h1
  have HI := hid hl1
  have hn9 : n1 ≤ 9223372036854775807 := by have := h1.2.1; have := h1.2.2.1; unfold maxLen at this; omega
  clear hl h1 hl1
  obtain ⟨N, hN, hN1, hN2⟩ : ∃ N : Nat, (N : Int) = 1 + x0 % 10 ∧ 1 ≤ N ∧ N ≤ 10 := ⟨(1 + x0 % 10).toNat, by omega, by omega, by omega⟩
  have HN := hid hN.symm
  clear hN
  go_enter Try.func9, Try.ntmps9
  go_wp2_with (first
    | (go_at_call 10; refine (known10_any _).mono ?_; rintro e w1 ⟨rfl, hc1⟩; have C1 := hid hc1; clear hc1)
    | (go_at_call 11; refine (new_any 500 _).mono ?_; rintro e w2 ⟨p, q, rfl, hd2, hp, hq, hc2⟩; have D2 := hid hd2; have C2 := hid (C1.out.f hc2); clear hd2 hc2)
    | (go_at_call 17; refine (within10_any x0 10 _ (by omega) (by omega)).mono ?_; rintro e w3 ⟨rfl, rfl⟩)
    | (go_at_call 24; rw [HN.out]; refine (stop_any p q (Dk.new 500) N w2 D2.out (by omega)).mono ?_; rintro e w3 ⟨rfl, hd3, hc3⟩; have D3 := hid hd3; have C3 := hid (C2.out.far2 hc3 (by have := C1.out.size; omega) (by have := C1.out.size; omega)); clear hd3 hc3))
  go_loopw [6, 7] (fun vops vi wr => ∃ (i ops : Nat) (d : Dk), i ≤ 20 ∧ vi = .int .i64 i ∧ vops = .int .i64 ops ∧ DiskAt wr p q d ∧ St d ops i N ∧ Ch (fun _ => False) w wr) (fun _ vi _ => 20 - (intOf vi).toNat)
  case atStart => exact ⟨0, 0, (Dk.new 500).stop N, by omega, rfl, rfl, D3.out, ⟨rfl, by simp [Dk.new, Dk.stop], by omega, by simp [Dk.new, Dk.stop], by simp [Dk.new, Dk.stop]; omega⟩, C3.out⟩
  case round =>
    obtain ⟨i, ops, d, hi, rfl, rfl, hd, hst, hch⟩ := hrel
    have D := hid hd
    have S := hid hst
    have C := hid hch
    have hle := hst.le
    clear hd hst hch D3 C3 D2 C2
    have PQ := hid (show w.heap.size ≤ p ∧ w.heap.size ≤ q by have := C1.out.size; omega)
    by_cases hlt : i < n1 ∧ i < 20
    · obtain ⟨hi1, hi2⟩ := hlt
      obtain ⟨z, hz⟩ : ∃ z, l1[i]? = some z := ⟨_, List.getElem?_eq_getElem (by rw [HL.out]; exact hi1)⟩
      obtain ⟨b, o, rfl⟩ := H1.out.spot (by intro h; have := congrArg List.length h; rw [iv_length, HL.out] at this; simp at this; omega)
      have hcell : wr.cell? ⟨b, o + i, none⟩ = some (.int .i64 z) := (H1.out.below C.out.below0).at_ (by rw [iv_get, hz]; rfl)
      have Z := hid hz
      obtain ⟨k, hk⟩ : ∃ k : Int, z % 4 = k := ⟨_, rfl⟩
      have hk4 : k = 0 ∨ k = 1 ∨ k = 2 ∨ k = 3 := by omega
      have HZ := hid hk
      clear hz hk
      by_cases hdone : ops = N
      · subst hdone
        have hst := S.out.stay
        have hdd : d.dead = true := by rw [S.out.dead]; simp
        have HDD := hid hdd
        have S5 := hid hst.2.2.2
        have H := hid hst
        clear hst hdd
        rcases hk4 with rfl | rfl | rfl | rfl
        · have HA := hid (H.out.1 [UInt8.ofNat i])
          go_wp2_with (first | (go_at_call 17; refine (within10_any z 4 _ (by omega) (by omega)).mono ?_; rintro e w3 ⟨rfl, rfl⟩; rw [HZ.out]) | (go_at_call 12; refine (append_any p q d _ _ _ [UInt8.ofNat i] _ (D.out.ch ((Ch.refl (fun _ => False) wr).alloc _) id id) (litb wr i (by omega))).mono ?_; rintro e w5 ⟨he5, hd5, hc5⟩; rw [HA.out] at he5 hd5; subst he5; have D5 := hid hd5; have C5 := hid ((C.out.alloc _).far2 hc5 PQ.out.1 PQ.out.2); clear hd5 hc5) | (go_at_call 18; refine (dead_any p q _ _ D5.out).mono ?_; rintro e w6 ⟨rfl, rfl⟩; rw [HDD.out]))
          go_roundw
          case rel => exact ⟨i + 1, ops, d, by omega, by go_num, by go_num, D5.out, S5.out, C5.out⟩
          case measure => simp [intOf]; omega
        · have HA := hid (H.out.2.1)
          go_wp2_with (first | (go_at_call 17; refine (within10_any z 4 _ (by omega) (by omega)).mono ?_; rintro e w3 ⟨rfl, rfl⟩; rw [HZ.out]) | (go_at_call 16; refine (sync_any p q d _ D.out).mono ?_; rintro e w5 ⟨he5, hd5, hc5⟩; rw [HA.out] at he5 hd5; subst he5; have D5 := hid hd5; have C5 := hid (C.out.far2 hc5 PQ.out.1 PQ.out.2); clear hd5 hc5) | (go_at_call 18; refine (dead_any p q _ _ D5.out).mono ?_; rintro e w6 ⟨rfl, rfl⟩; rw [HDD.out]))
          go_roundw
          case rel => exact ⟨i + 1, ops, d, by omega, by go_num, by go_num, D5.out, S5.out, C5.out⟩
          case measure => simp [intOf]; omega
        · have HA := hid (H.out.2.2.1)
          go_wp2_with (first | (go_at_call 17; refine (within10_any z 4 _ (by omega) (by omega)).mono ?_; rintro e w3 ⟨rfl, rfl⟩; rw [HZ.out]) | (go_at_call 19; refine (cut_any p q d 0 _ D.out).mono ?_; rintro e w5 ⟨he5, hd5, hc5⟩; rw [HA.out] at he5 hd5; subst he5; have D5 := hid hd5; have C5 := hid (C.out.far2 hc5 PQ.out.1 PQ.out.2); clear hd5 hc5) | (go_at_call 18; refine (dead_any p q _ _ D5.out).mono ?_; rintro e w6 ⟨rfl, rfl⟩; rw [HDD.out]))
          go_roundw
          case rel => exact ⟨i + 1, ops, d, by omega, by go_num, by go_num, D5.out, S5.out, C5.out⟩
          case measure => simp [intOf]; omega
        · have HA := hid (H.out.1 (List.replicate 600 0))
          go_wp2_with (first | (go_at_call 17; refine (within10_any z 4 _ (by omega) (by omega)).mono ?_; rintro e w3 ⟨rfl, rfl⟩; rw [HZ.out]) | (at_make; refine wpList_mk rfl _ _ _ rfl _ 1 _ et_u8 rfl _ 600 rfl rfl (by omega) (by omega) (by unfold maxLen; omega) ?_; intro w4 ho4 hc4; have D4 := hid (D.out.ch hc4 id id); have C4 := hid (C.out.f hc4); rw [zeros_bv] at ho4; have S4 := hid ho4.sl; clear ho4 hc4) | (go_at_call 12; refine (append_any p q d _ _ _ (List.replicate 600 0) _ D4.out S4.out).mono ?_; rintro e w5 ⟨he5, hd5, hc5⟩; rw [HA.out] at he5 hd5; subst he5; have D5 := hid hd5; have C5 := hid (C4.out.far2 hc5 PQ.out.1 PQ.out.2); clear hd5 hc5) | (go_at_call 18; refine (dead_any p q _ _ D5.out).mono ?_; rintro e w6 ⟨rfl, rfl⟩; rw [HDD.out]))
          go_roundw
          case rel => exact ⟨i + 1, ops, d, by omega, by go_num, by go_num, D5.out, S5.out, C5.out⟩
          case measure => simp [intOf]; omega
      · have hlt2 : ops < N := by omega
        have hdec : decide (N ≤ ops) = false := decide_eq_false (by omega)
        rcases hk4 with rfl | rfl | rfl | rfl
        · obtain ⟨d', hA, hS⟩ := S.out.append hlt2 hi2 (UInt8.ofNat i)
          have S5 := hid hS
          have hdd : d'.dead = decide (ops + 1 = N) := hS.dead
          clear hS
          by_cases hlast : ops + 1 = N
          · have hde2 : decide (N ≤ ops + 1) = true := decide_eq_true (by omega)
            have hl3 : N ≤ ops + 1 := by omega
            rw [if_pos hlast] at hA
            rw [decide_eq_true hlast] at hdd
            have HA := hid hA
            have HDD := hid hdd
            have HLA := hid hlast
            clear hA hdd hlast
            go_wp2_with (first | (go_at_call 17; refine (within10_any z 4 _ (by omega) (by omega)).mono ?_; rintro e w3 ⟨rfl, rfl⟩; rw [HZ.out]) | (go_at_call 12; refine (append_any p q d _ _ _ [UInt8.ofNat i] _ (D.out.ch ((Ch.refl (fun _ => False) wr).alloc _) id id) (litb wr i (by omega))).mono ?_; rintro e w5 ⟨he5, hd5, hc5⟩; rw [HA.out] at he5 hd5; subst he5; have D5 := hid hd5; have C5 := hid ((C.out.alloc _).far2 hc5 PQ.out.1 PQ.out.2); clear hd5 hc5) | (go_at_call 18; refine (dead_any p q _ _ D5.out).mono ?_; rintro e w6 ⟨rfl, rfl⟩; rw [HDD.out]))
            go_roundw
            case rel => exact ⟨i + 1, ops + 1, d', by omega, by go_num, by go_num, D5.out, S5.out, C5.out⟩
            case measure => simp [intOf]; omega
          · have hde2 : decide (N ≤ ops + 1) = false := decide_eq_false (by omega)
            have hl3 : ops + 1 < N := by omega
            rw [if_neg hlast] at hA
            rw [decide_eq_false hlast] at hdd
            have HA := hid hA
            have HDD := hid hdd
            have HLA := hid hlast
            clear hA hdd hlast
            go_wp2_with (first | (go_at_call 17; refine (within10_any z 4 _ (by omega) (by omega)).mono ?_; rintro e w3 ⟨rfl, rfl⟩; rw [HZ.out]) | (go_at_call 12; refine (append_any p q d _ _ _ [UInt8.ofNat i] _ (D.out.ch ((Ch.refl (fun _ => False) wr).alloc _) id id) (litb wr i (by omega))).mono ?_; rintro e w5 ⟨he5, hd5, hc5⟩; rw [HA.out] at he5 hd5; subst he5; have D5 := hid hd5; have C5 := hid ((C.out.alloc _).far2 hc5 PQ.out.1 PQ.out.2); clear hd5 hc5) | (go_at_call 18; refine (dead_any p q _ _ D5.out).mono ?_; rintro e w6 ⟨rfl, rfl⟩; rw [HDD.out]))
            go_roundw
            case rel => exact ⟨i + 1, ops + 1, d', by omega, by go_num, by go_num, D5.out, S5.out, C5.out⟩
            case measure => simp [intOf]; omega
        · obtain ⟨d', hA, hS⟩ := S.out.sync hlt2
          have S5 := hid hS
          have hdd : d'.dead = decide (ops + 1 = N) := hS.dead
          clear hS
          by_cases hlast : ops + 1 = N
          · have hde2 : decide (N ≤ ops + 1) = true := decide_eq_true (by omega)
            have hl3 : N ≤ ops + 1 := by omega
            rw [if_pos hlast] at hA
            rw [decide_eq_true hlast] at hdd
            have HA := hid hA
            have HDD := hid hdd
            have HLA := hid hlast
            clear hA hdd hlast
            go_wp2_with (first | (go_at_call 17; refine (within10_any z 4 _ (by omega) (by omega)).mono ?_; rintro e w3 ⟨rfl, rfl⟩; rw [HZ.out]) | (go_at_call 16; refine (sync_any p q d _ D.out).mono ?_; rintro e w5 ⟨he5, hd5, hc5⟩; rw [HA.out] at he5 hd5; subst he5; have D5 := hid hd5; have C5 := hid (C.out.far2 hc5 PQ.out.1 PQ.out.2); clear hd5 hc5) | (go_at_call 18; refine (dead_any p q _ _ D5.out).mono ?_; rintro e w6 ⟨rfl, rfl⟩; rw [HDD.out]))
            go_roundw
            case rel => exact ⟨i + 1, ops + 1, d', by omega, by go_num, by go_num, D5.out, S5.out, C5.out⟩
            case measure => simp [intOf]; omega
          · have hde2 : decide (N ≤ ops + 1) = false := decide_eq_false (by omega)
            have hl3 : ops + 1 < N := by omega
            rw [if_neg hlast] at hA
            rw [decide_eq_false hlast] at hdd
            have HA := hid hA
            have HDD := hid hdd
            have HLA := hid hlast
            clear hA hdd hlast
            go_wp2_with (first | (go_at_call 17; refine (within10_any z 4 _ (by omega) (by omega)).mono ?_; rintro e w3 ⟨rfl, rfl⟩; rw [HZ.out]) | (go_at_call 16; refine (sync_any p q d _ D.out).mono ?_; rintro e w5 ⟨he5, hd5, hc5⟩; rw [HA.out] at he5 hd5; subst he5; have D5 := hid hd5; have C5 := hid (C.out.far2 hc5 PQ.out.1 PQ.out.2); clear hd5 hc5) | (go_at_call 18; refine (dead_any p q _ _ D5.out).mono ?_; rintro e w6 ⟨rfl, rfl⟩; rw [HDD.out]))
            go_roundw
            case rel => exact ⟨i + 1, ops + 1, d', by omega, by go_num, by go_num, D5.out, S5.out, C5.out⟩
            case measure => simp [intOf]; omega
        · obtain ⟨d', hA, hS⟩ := S.out.cut hlt2
          have S5 := hid hS
          have hdd : d'.dead = decide (ops + 1 = N) := hS.dead
          clear hS
          by_cases hlast : ops + 1 = N
          · have hde2 : decide (N ≤ ops + 1) = true := decide_eq_true (by omega)
            have hl3 : N ≤ ops + 1 := by omega
            rw [if_pos hlast] at hA
            rw [decide_eq_true hlast] at hdd
            have HA := hid hA
            have HDD := hid hdd
            have HLA := hid hlast
            clear hA hdd hlast
            go_wp2_with (first | (go_at_call 17; refine (within10_any z 4 _ (by omega) (by omega)).mono ?_; rintro e w3 ⟨rfl, rfl⟩; rw [HZ.out]) | (go_at_call 19; refine (cut_any p q d 0 _ D.out).mono ?_; rintro e w5 ⟨he5, hd5, hc5⟩; rw [HA.out] at he5 hd5; subst he5; have D5 := hid hd5; have C5 := hid (C.out.far2 hc5 PQ.out.1 PQ.out.2); clear hd5 hc5) | (go_at_call 18; refine (dead_any p q _ _ D5.out).mono ?_; rintro e w6 ⟨rfl, rfl⟩; rw [HDD.out]))
            go_roundw
            case rel => exact ⟨i + 1, ops + 1, d', by omega, by go_num, by go_num, D5.out, S5.out, C5.out⟩
            case measure => simp [intOf]; omega
          · have hde2 : decide (N ≤ ops + 1) = false := decide_eq_false (by omega)
            have hl3 : ops + 1 < N := by omega
            rw [if_neg hlast] at hA
            rw [decide_eq_false hlast] at hdd
            have HA := hid hA
            have HDD := hid hdd
            have HLA := hid hlast
            clear hA hdd hlast
            go_wp2_with (first | (go_at_call 17; refine (within10_any z 4 _ (by omega) (by omega)).mono ?_; rintro e w3 ⟨rfl, rfl⟩; rw [HZ.out]) | (go_at_call 19; refine (cut_any p q d 0 _ D.out).mono ?_; rintro e w5 ⟨he5, hd5, hc5⟩; rw [HA.out] at he5 hd5; subst he5; have D5 := hid hd5; have C5 := hid (C.out.far2 hc5 PQ.out.1 PQ.out.2); clear hd5 hc5) | (go_at_call 18; refine (dead_any p q _ _ D5.out).mono ?_; rintro e w6 ⟨rfl, rfl⟩; rw [HDD.out]))
            go_roundw
            case rel => exact ⟨i + 1, ops + 1, d', by omega, by go_num, by go_num, D5.out, S5.out, C5.out⟩
            case measure => simp [intOf]; omega
        · obtain ⟨hA, hS⟩ := S.out.full hlt2
          have S5 := hid hS
          have HA := hid hA
          have hdd : d.dead = false := by rw [S.out.dead]; simp; omega
          have HDD := hid hdd
          clear hA hS hdd
          go_wp2_with (first | (go_at_call 17; refine (within10_any z 4 _ (by omega) (by omega)).mono ?_; rintro e w3 ⟨rfl, rfl⟩; rw [HZ.out]) | (at_make; refine wpList_mk rfl _ _ _ rfl _ 1 _ et_u8 rfl _ 600 rfl rfl (by omega) (by omega) (by unfold maxLen; omega) ?_; intro w4 ho4 hc4; have D4 := hid (D.out.ch hc4 id id); have C4 := hid (C.out.f hc4); rw [zeros_bv] at ho4; have S4 := hid ho4.sl; clear ho4 hc4) | (go_at_call 12; refine (append_any p q d _ _ _ (List.replicate 600 0) _ D4.out S4.out).mono ?_; rintro e w5 ⟨he5, hd5, hc5⟩; rw [HA.out] at he5 hd5; subst he5; have D5 := hid hd5; have C5 := hid (C4.out.far2 hc5 PQ.out.1 PQ.out.2); clear hd5 hc5) | (go_at_call 18; refine (dead_any p q _ _ D5.out).mono ?_; rintro e w6 ⟨rfl, rfl⟩; rw [HDD.out]))
          go_roundw
          case rel => exact ⟨i + 1, ops, d, by omega, by go_num, by go_num, D5.out, S5.out, C5.out⟩
          case measure => simp [intOf]; omega
    · have ho := D.out.open_
      have HW := hid (crash_alive d ho.2.2.2.2.2.2.2.2.2.1 ho.2.2.2.2.2.2.2.2.2.2.1)
      clear ho
      by_cases hi1 : i < n1
      · have hi2 : ¬ i < 20 := by omega
        clear hlt
        go_wp2_with (first | (go_at_call 14; refine (crash_any p q d 0 _ D.out).mono ?_; rintro e w5 ⟨rfl, hd5, hc5⟩; have D5 := hid hd5; have C5 := hid (C.out.far2 hc5 PQ.out.1 PQ.out.2); clear hd5 hc5) | (go_at_call 12; refine (append_any p q (d.crash 0) _ _ _ [] _ D5.out (Sl.nil _ _)).mono ?_; rintro e w6 ⟨he6, hd6, hc6⟩; rw [HW.out.1] at he6 hd6; subst he6; have D6 := hid hd6; have C6 := hid (C5.out.far2 hc6 PQ.out.1 PQ.out.2); clear hd6 hc6) | (go_at_call 16; refine (sync_any p q (d.crash 0) _ D6.out).mono ?_; rintro e w7 ⟨he7, hd7, hc7⟩; rw [HW.out.2] at he7; subst he7; have C7 := hid (C6.out.far2 hc7 PQ.out.1 PQ.out.2); clear hd7 hc7))
        go_ret
        exact ⟨by simp, C7.out⟩
      · clear hlt
        go_wp2_with (first | (go_at_call 14; refine (crash_any p q d 0 _ D.out).mono ?_; rintro e w5 ⟨rfl, hd5, hc5⟩; have D5 := hid hd5; have C5 := hid (C.out.far2 hc5 PQ.out.1 PQ.out.2); clear hd5 hc5) | (go_at_call 12; refine (append_any p q (d.crash 0) _ _ _ [] _ D5.out (Sl.nil _ _)).mono ?_; rintro e w6 ⟨he6, hd6, hc6⟩; rw [HW.out.1] at he6 hd6; subst he6; have D6 := hid hd6; have C6 := hid (C5.out.far2 hc6 PQ.out.1 PQ.out.2); clear hd6 hc6) | (go_at_call 16; refine (sync_any p q (d.crash 0) _ D6.out).mono ?_; rintro e w7 ⟨he7, hd7, hc7⟩; rw [HW.out.2] at he7; subst he7; have C7 := hid (C6.out.far2 hc7 PQ.out.1 PQ.out.2); clear hd7 hc7))
        go_ret
        exact ⟨by simp, C7.out⟩

end Go.Proofs.Ytkpblphcbdecmaa

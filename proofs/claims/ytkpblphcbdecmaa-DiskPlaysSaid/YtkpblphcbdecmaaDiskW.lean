/- DiskPlays: its walk. -/
import Derived.Test.YtkpblphcbdecmaaDiskD
namespace Go.Proofs.Ytkpblphcbdecmaa
open Go.RowKit Go.Cx Go.F64
set_option linter.unusedVariables false
set_option linter.unusedSimpArgs false

theorem ch_bo {p q s x : Nat} {w0 w w' : World} (h : Ch (fun _ => False) w0 w) (k : Ch (Bo p q s x) w w') (hp : w0.heap.size ≤ p ∧ w0.heap.size ≤ q ∧ w0.heap.size ≤ x ∧ w0.heap.size ≤ s) : Ch (fun _ => False) w0 w' :=
  h.trans k (fun i hi h => by rcases h with h | h | h | h <;> omega)

theorem ref_lt {w : World} {s x : Nat} {d : Dk} (h : RefAt w s x d) : x < s := by
  obtain ⟨_, _, _, _, h, _⟩ := h
  exact h
theorem ref_le {w : World} {s x : Nat} {d : Dk} (h : RefAt w s x d) : s ≤ w.heap.size := by
  obtain ⟨_, _, _, _, _, h, _⟩ := h
  exact h
theorem newtwo {p q x a b c : Nat} (h1 : p < a ∧ q < a) (hx : a ≤ x) (h2 : a ≤ b) (h3 : x < b) (h4 : c ≤ a) : (p < b ∧ q < b ∧ x < b ∧ p ≠ x ∧ q ≠ x) ∧ c ≤ x ∧ c ≤ b := by omega
set_option maxRecDepth 100000 in
set_option maxHeartbeats 4000000 in
theorem DiskPlays_walk (w : World) (x0 : Int) (a : Option Addr) (n c : Nat) (L : List Ac) (h : ActsAt w a n c L) :
    Calls Try.prog 8 #[.int .i64 x0, .slice a n c] w fun e w' => e = .returned (.bool true) ∧ Below w.heap.size w w' := by
  refine Calls.mono (R := True_ w) ?_ (fun e w' h => ⟨h.1, h.2.below0⟩)
  have H := hid h
  have hn9 : n ≤ 9223372036854775807 := h.2.2.1
  clear h
  go_enter Try.func8, Try.ntmps8
  go_upto_region 3 with (go_at_call 10; refine (known10_any _).mono ?_; rintro e w1 ⟨rfl, hc1⟩; have C1 := hid hc1; have H1 := hid (show ActsAt w1 a n c L from ⟨H.out.1, H.out.2.1, H.out.2.2.1, fun z hz => ⟨(H.out.2.2.2.1 z hz).1.below hc1.below0, (H.out.2.2.2.1 z hz).2⟩, fun h0 => by obtain ⟨b, o, e, hc⟩ := H.out.2.2.2.2 h0; exact ⟨b, o, e, fun j z hz => by obtain ⟨e0, e1, e2⟩ := hc j z hz; exact ⟨hc1.cell e0 id, hc1.cell e1 id, hc1.cell e2 id⟩⟩⟩); clear hc1)
  go_upto_region 6 with (first
    | (go_at_call 20; refine (few_any a n c L _ H1.out).mono ?_; rintro e w2 ⟨(rfl | ⟨rfl, hf⟩), rfl⟩)
    | (go_at_call 17; refine (within10_any x0 200 _ (by omega) (by omega)).mono ?_; rintro e w3 ⟨rfl, rfl⟩))
  · go_ret
    exact ⟨rfl, C1.out⟩
  · refine rebase2 (R := fun W0 => Ch (fun _ => False) w2 W0 ∧ W0.heap[w2.heap.size]? = some (.cells #[.int .i64 x0, .int .i64 (x0 % 200), .int .i64 1000] 3 (0, 0))) ⟨(Ch.refl _ w2).alloc _, alloc_blk_new _ rfl⟩ ?_
    rintro W0 ⟨hc0, hb⟩
    obtain ⟨r, hr⟩ : ∃ r, r = w2.heap.size := ⟨_, rfl⟩
    rw [← hr] at hb ⊢
    have hrow : ∀ k : Nat, k < 3 → ∃ S : Int, W0.cell? ⟨r, k, none⟩ = some (.int .i64 S) := by
      intro k hk
      have : k = 0 ∨ k = 1 ∨ k = 2 := by omega
      rcases this with rfl | rfl | rfl
      · exact ⟨_, cell_blk hb 0⟩
      · exact ⟨_, cell_blk hb 1⟩
      · exact ⟨_, cell_blk hb 2⟩
    have ROW := hid hrow
    have C0 := hid (C1.out.f hc0)
    have FH := hid hf
    clear hb hr hrow hc0 hf
    go_wp2
    go_loopw [6] (fun vk wr => ∃ k : Nat, k ≤ 3 ∧ vk = .int .i64 k ∧ Ch (fun _ => False) W0 wr) (fun vk _ => 3 - (intOf vk).toNat)
    case atStart => exact ⟨0, by omega, rfl, Ch.refl _ _⟩
    case round =>
      obtain ⟨k, hk, rfl, hc⟩ := hrel
      have CK := hid hc
      clear hc
      by_cases hlt : k < 3
      · obtain ⟨S, hS⟩ := ROW.out k hlt
        have HSz := hid hS
        have s0 := CK.out.cell hS id
        have hki : (k : Int) < 3 := by omega
        have k0 : (0 : Int) ≤ k := by omega
        clear hS
        go_wp2
        go_region_with (first
          | (go_at_call 11; refine (new_any S _).mono ?_; rintro e w3 ⟨p, q, rfl, hd3, hp, hq, hc3⟩; have D3 := hid hd3; have C3 := hid (CK.out.drew.f hc3); have P3 := hid (show W0.heap.size ≤ p ∧ W0.heap.size ≤ q by have h1 : wr.heap.size ≤ p := hp; have h2 : wr.heap.size ≤ q := hq; have := CK.out.size; omega); have s3 := C3.out.cell HSz.out id; clear hd3 hp hq hc3)
          | (go_at_call 21; refine (rnew_any S _).mono ?_; rintro e w4 ⟨x, rfl, hx, hr4, hc4⟩; have R4 := hid hr4; have D4 := hid (D3.out.ch hc4 id id); have C4 := hid (C3.out.f hc4); have X4 := hid (show (p < w4.heap.size ∧ q < w4.heap.size ∧ x < w4.heap.size ∧ p ≠ x ∧ q ≠ x) ∧ W0.heap.size ≤ x ∧ W0.heap.size ≤ w4.heap.size by exact newtwo D3.out.lt hx hc4.size (ref_lt hr4) C3.out.size); clear hr4 hx hc4))
        all_goals (
          obtain ⟨s, hs⟩ : ∃ s, s = w4.heap.size := ⟨_, rfl⟩
          have R5 := hid (show RefAt w4 s x (Dk.new S) by rw [hs]; exact R4.out)
          have XX := hid (show (p < s ∧ q < s ∧ x < s ∧ p ≠ x ∧ q ≠ x) ∧ W0.heap.size ≤ x ∧ W0.heap.size ≤ s by rw [hs]; exact X4.out)
          clear R4 X4 s0 s3 hs
          go_wp2
          go_loopw [9] (fun vi wi => ∃ (i : Nat) (d : Dk), i ≤ n ∧ vi = .int .i64 i ∧ DiskAt wi p q d ∧ RefAt wi s x d ∧ Ch (fun _ => False) W0 wi) (fun vi _ => n - (intOf vi).toNat)
          case atStart => exact ⟨0, _, by omega, rfl, D4.out, R5.out, C4.out⟩
          case round =>
            obtain ⟨i, d, hi, rfl, hd, hr, hci⟩ := hrel
            have DI := hid hd
            have RI := hid hr
            have CI := hid hci
            clear hd hr hci
            by_cases hlti : i < n
            · obtain ⟨z, hz⟩ : ∃ z, L[i]? = some z := ⟨_, List.getElem?_eq_getElem (by rw [H.out.1]; exact hlti)⟩
              have hzm := List.mem_of_getElem? hz
              have hm := FH.out.1 z hzm
              have hok := H.out.2.2.2.1 z hzm
              obtain ⟨b, o, hab, hcell⟩ := H.out.2.2.2.2 (by omega)
              subst hab
              obtain ⟨e0, e1, e2⟩ := hcell i z hz
              have c0 := (C0.out.f CI.out).cell e0 id
              have c1 := (C0.out.f CI.out).cell e1 id
              have c2 := (C0.out.f CI.out).cell e2 id
              have SZ := hid (fun w' (h : Ch (Bo p q s x) _ w') => hok.1.below (C0.out.f (ch_bo CI.out h ⟨P3.out.1, P3.out.2, XX.out.2⟩)).below0)
              have hs5 : s ≤ _ := ref_le RI.out
              have hin : (i : Int) < (n : Int) := by omega
              have i0 : (0 : Int) ≤ i := by omega
              clear hcell e0 e1 e2 hz hzm
              have ZN := hid hok.2.2
              clear hok
              go_wp2_with (first
                | (go_at_call 22; refine (do_any z p q s x d _ DI.out RI.out XX.out.1 hs5 hm ZN.out SZ.out).mono ?_; rintro e w5 ⟨rfl, d', hd5, hr5, hc5⟩; have D5 := hid hd5; have R6 := hid hr5; have C5 := hid (ch_bo CI.out hc5 ⟨P3.out.1, P3.out.2, XX.out.2⟩); clear hd5 hr5 hc5)
                | (go_at_call 23; refine (same_any p q s x d' _ D5.out R6.out).mono ?_; rintro e w6 ⟨rfl, hc6⟩; have D6 := hid (D5.out.ch hc6 id id); have R7 := hid (R6.out.ch hc6 id (fun _ _ => id)); have C6 := hid (C5.out.f hc6); clear hc6))
              go_roundw
              case rel => exact ⟨i + 1, d', by omega, by go_num, D6.out, R7.out, C6.out⟩
              case measure => simp [intOf]; omega
            · obtain rfl : i = n := by omega
              have hbq : decide ((i : Int) < (i : Int)) = false := decide_eq_false (by omega)
              go_wp2
              go_roundw
              case rel => exact ⟨k + 1, by omega, by go_num, CI.out⟩
              case measure => simp [intOf]; omega)
      · obtain rfl : k = 3 := by omega
        go_wp2
        go_ret
        exact ⟨rfl, C0.out.f CK.out⟩
end Go.Proofs.Ytkpblphcbdecmaa

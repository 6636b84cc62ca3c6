/- The statement LogFull: its walk. -/
import Derived.Test.YtfhbbmaimaabnaaLogP
namespace Go.Proofs.Ytfhbbmaimaabnaa
open Go.RowKit Go.Cx Go.F64
set_option linter.unusedVariables false
set_option linter.unusedSimpArgs false

/-- An operation whose guard says yes: as if it had none. -/
theorem wpList_free {P : Program} {ops : Array Oper} {Q : Exit → Act → World → Prop} {a : Act} {w : World} {rest : List Oper} {o : Oper} (hw : Region.wanted o (yielded ops a.tmps) = true) (h : wpList P ops Q ({ o with guard := none } :: rest) a w) : wpList P ops Q (o :: rest) a w := by
  rw [wpList, if_pos hw]
  rw [wpList, if_pos (show Region.wanted { o with guard := none } (yielded ops a.tmps) = true from rfl)] at h
  exact h
set_option maxRecDepth 100000 in
set_option maxHeartbeats 8000000 in
theorem LogFull_walk (w : World) (x0 : Int) (h0 : I64 x0) (a1 : Option Addr) (n1 c1 : Nat) (l1 : List Int) (h1 : Sl w 1 a1 n1 c1 (iv l1)) (q1 : ∀ z ∈ l1, I64 z) :
    Calls Try.prog 4 #[.int .i64 x0, .slice a1 n1 c1] w fun e w' => e = .returned (.bool true) ∧ Below w.heap.size w w' := by
  refine Calls.mono (R := True_ w) ?_ (fun e w' h => ⟨h.1, h.2.below0⟩)
  have hl1 : l1.length = n1 := by have := h1.1; rw [iv_length] at this; omega
  have L1 := hid hl1
  have H1 := hid h1
  have Q1 := hid q1
  have t0 := Int.emod_nonneg x0 (by omega : (300 : Int) ≠ 0)
  have t1 := Int.emod_lt_of_pos x0 (by omega : (0 : Int) < 300)
  obtain ⟨sz, hsz⟩ : ∃ sz : Nat, (sz : Int) = x0 % 300 := ⟨(x0 % 300).toNat, by omega⟩
  have hs3 : sz < 300 := by omega
  have SZ := hid hsz
  clear h1 q1 hl1 t0 t1 hsz
  go_enter Try.func4, Try.ntmps4
  go_upto_region 6 with (first
    | (go_at_call 10; refine (known11_any _).mono ?_; rintro e w1 ⟨rfl, hc1⟩; have C1 := hid hc1; clear hc1)
    | (go_at_call 11; refine (within11_any x0 300 _ (by omega) (by omega)).mono ?_; rintro e w4 ⟨rfl, rfl⟩; rw [← SZ.out])
    | (go_at_call 12; refine (new_any sz _).mono ?_; rintro e w2 ⟨p, q, rfl, hd2, hp, hq, hc2⟩; have D2 := hid hd2; have C2 := hid hc2; clear hd2 hc2)
    | (go_at_call 16; refine (lv_first w _ w2 p q sz (by omega) D2.out C1.out hp hq C2.out).mono ?_; rintro e w3 ⟨la, a3, c3, rfl, hv⟩; have V := hid hv; clear hv))
  clear C1 C2 D2 hp hq
  go_wp2
  go_loopg [9, 10, 11] 30 (fun g vl vn vi wr => ∃ i L s A, i + g = 30 ∧ L + (encL A).length = sz ∧ A.length ≤ i ∧ vl = .int .i64 (L : Nat) ∧ vn = .int .i64 (A.length : Nat) ∧ vi = .int .i64 i ∧ Hid (∀ r ∈ A, r.length ≤ 16384) ∧ Hid (LV w wr p q la sz A s 0))
  case atStart => exact ⟨0, sz, 0, [], rfl, by simp [encL], by simp, rfl, rfl, rfl, hid (fun r h => by cases h), V⟩
  case round =>
    clear V
    obtain ⟨i, L, s, A, hig, hL, hAi, rfl, rfl, rfl, HA, V⟩ := hrel
    have i0 : (0 : Int) ≤ i := by omega
    have hN : A.length ≤ 1000000 := by omega
    by_cases hlt : i < n1 ∧ i < 30
    · obtain ⟨hlt, h30⟩ := hlt
      obtain ⟨z, hz⟩ : ∃ z, l1[i]? = some z := ⟨_, List.getElem?_eq_getElem (by rw [L1.out]; exact hlt)⟩
      have S1 := H1.out.below V.out.ch.below0
      obtain ⟨b1, o1, rfl⟩ := S1.spot (by intro e; have := S1.1; rw [e] at this; simp at this; omega)
      have e1 := S1.at_ (j := i) (by rw [iv_get, hz]; rfl)
      have t0 := Int.emod_nonneg z (by omega : (80 : Int) ≠ 0)
      have t1 := Int.emod_lt_of_pos z (by omega : (0 : Int) < 80)
      obtain ⟨k, hk⟩ : ∃ k : Nat, (k : Int) = z % 80 := ⟨(z % 80).toNat, by omega⟩
      have hk8 : k < 80 := by omega
      have HK := hid hk
      have hlti : (i : Int) < n1 := by omega
      have h30i : (i : Int) < 30 := by omega
      clear hz S1 t0 t1 hk
      have hrl : (List.replicate k (0 : UInt8)).length = k := List.length_replicate
      have RL := hid hrl
      by_cases hf : L < k + 8
      · have hfi : (L : Int) < (k : Int) + 8 := by omega
        have hfull : sz < (encL A).length + (8 + (List.replicate k (0 : UInt8)).length) := by rw [hrl]; omega
        have hbz : (encL A).length ≤ sz := by omega
        have hl6 : (List.replicate k (0 : UInt8)).length ≤ 16384 := by rw [hrl]; omega
        have FU := hid hfull
        have L6 := hid hl6
        clear hfull hl6 hrl
        go_wp2_with (first
          | (go_at_call 11; refine (within11_any z 80 _ (by omega) (by omega)).mono ?_; rintro e w4 ⟨rfl, rfl⟩; rw [← HK.out])
          | (at_make; refine wpList_mk rfl _ _ _ rfl _ 1 _ et_u8 rfl _ k rfl rfl (by omega) (by omega) (by unfold maxLen; omega) ?_; intro w5 ho5 hc5; have V5 := hid (V.out.f hc5); rw [zeros_bv] at ho5; have S5 := hid ho5.sl; clear ho5 hc5)
          | (go_at_call 20; refine (lv_full w _ p q la sz s 0 A _ k k _ V5.out S5.out L6.out FU.out hbz hN).mono ?_; rintro e w6 ⟨rfl, hv6⟩; have V6 := hid hv6; clear hv6))
        go_roundg (29 - i)
        case measure => omega
        case rel => exact ⟨i + 1, L, s, A, by omega, hL, by omega, rfl, rfl, by go_num, HA, V6⟩
      · have hfi : ¬ (L : Int) < (k : Int) + 8 := by omega
        have hfit : (encL A).length + (8 + (List.replicate k (0 : UInt8)).length) ≤ sz := by rw [hrl]; omega
        have hl6 : (List.replicate k (0 : UInt8)).length ≤ 16384 := by rw [hrl]; omega
        have FI := hid hfit
        have L6 := hid hl6
        have AL := hid (show (A ++ [List.replicate k (0 : UInt8)]).length = A.length + 1 by rw [List.length_append]; rfl)
        have EL := hid (show (encL (A ++ [List.replicate k (0 : UInt8)])).length = (encL A).length + (8 + k) by rw [encL_append, List.length_append, encL_one, rec1_length, hrl])
        obtain ⟨n, hn⟩ : ∃ n, n = A.length := ⟨_, rfl⟩
        rw [← hn] at hAi hN
        have NA := hid hn
        clear hfit hl6 hrl hn
        go_wp2_with (first
          | (go_at_call 11; refine (within11_any z 80 _ (by omega) (by omega)).mono ?_; rintro e w4 ⟨rfl, rfl⟩; rw [← HK.out, ← NA.out])
          | (at_make; refine wpList_mk rfl _ _ _ rfl _ 1 _ et_u8 rfl _ k rfl rfl (by omega) (by omega) (by unfold maxLen; omega) ?_; intro w5 ho5 hc5; have V5 := hid (V.out.f hc5); rw [zeros_bv] at ho5; have S5 := hid ho5.sl; clear ho5 hc5)
          | (go_at_call 20; refine (lv_append w _ p q la sz s 0 A _ k k _ V5.out S5.out L6.out FI.out (by rw [← NA.out]; exact hN)).mono ?_; rintro e w6 ⟨rfl, hv6⟩; have V6 := hid hv6; clear hv6)
          | (go_at_call 21; refine (lv_count w _ p q la sz _ 0 (n + 1) _ V6.out (by rw [AL.out, NA.out])).mono ?_; rintro e w7 ⟨rfl, rfl⟩))
        go_roundg (29 - i)
        case measure => omega
        case rel => exact ⟨i + 1, L - k - 8, s, A ++ [List.replicate k 0], by omega, by rw [EL.out]; omega, by rw [AL.out, ← NA.out]; omega, by congr 1; omega, by rw [AL.out, ← NA.out]; go_num, by go_num, hid (fun r hr => by
          rcases List.mem_append.1 hr with h | h
          · exact HA.out r h
          · simp only [List.mem_singleton] at h; rw [h]; exact L6.out), V6⟩
    · by_cases hlt2 : i < n1
      · have h30i : ¬ (i : Int) < 30 := by omega
        have hlti : (i : Int) < n1 := by omega
        clear hlt
        go_wp2_with (first
          | (go_at_call 16; refine (lv_open w _ p q la sz s 0 A.length A V.out HA.out rfl).mono ?_; rintro e w5 ⟨la5, a5, c5, rfl, hv5, hr5, hw5⟩; have V5 := hid hw5; clear hv5 hr5 hw5)
          | (at_make; refine wpList_free rfl ?_; refine wpList_mk rfl _ _ _ rfl _ 1 _ et_u8 rfl _ 16385 rfl rfl (by omega) (by omega) (by unfold maxLen; omega) ?_; intro w6 ho6 hc6; have V6 := hid (V5.out.f hc6); rw [zeros_bv] at ho6; have S6 := hid ho6.sl; clear ho6 hc6)
          | (go_at_call 20; refine (lv_long w _ p q la sz _ 0 A _ _ _ (List.replicate 16385 0) V6.out S6.out (by rw [List.length_replicate]; omega) (by omega)).mono ?_; rintro e w7 ⟨rfl, hv7⟩; have V7 := hid hv7; clear hv7))
        go_ret
        exact ⟨by simp, V7.out.ch⟩
      · have hlti : ¬ (i : Int) < n1 := by omega
        clear hlt
        go_wp2_with (first
          | (go_at_call 16; refine (lv_open w _ p q la sz s 0 A.length A V.out HA.out rfl).mono ?_; rintro e w5 ⟨la5, a5, c5, rfl, hv5, hr5, hw5⟩; have V5 := hid hw5; clear hv5 hr5 hw5)
          | (at_make; refine wpList_free rfl ?_; refine wpList_mk rfl _ _ _ rfl _ 1 _ et_u8 rfl _ 16385 rfl rfl (by omega) (by omega) (by unfold maxLen; omega) ?_; intro w6 ho6 hc6; have V6 := hid (V5.out.f hc6); rw [zeros_bv] at ho6; have S6 := hid ho6.sl; clear ho6 hc6)
          | (go_at_call 20; refine (lv_long w _ p q la sz _ 0 A _ _ _ (List.replicate 16385 0) V6.out S6.out (by rw [List.length_replicate]; omega) (by omega)).mono ?_; rintro e w7 ⟨rfl, hv7⟩; have V7 := hid hv7; clear hv7))
        go_ret
        exact ⟨by simp, V7.out.ch⟩
end Go.Proofs.Ytfhbbmaimaabnaa
